/- What the functions that the law reaches answer, each as a plain Lean function, with a proof that the call in memory comes to that answer. Written by wip/tools/given.py of this session out of the print.py of the kit, with stand-ins for some functions. -/
import Derived.Test.YthmnedlaecekkaaPFeedCoversx0
import Derived.Test.YthmnedlaecekkaaPFeedCoversx2
import Derived.Test.YthmnedlaecekkaaPFeedCoversx3
import Derived.Test.YthmnedlaecekkaaPFeedCoversx4
import Derived.Test.YthmnedlaecekkaaPFeedCoversx5
import Derived.Test.YthmnedlaecekkaaPFeedCoversx6
namespace Go.Proofs.Ythmnedlaecekkaa.PFeedCovers
open Go.RowKit Go.Proofs.YthmnedlaecekkaaW.PrintWords Go.Proofs.YthmnedlaecekkaaW.PrintLast Go.Proofs.YthmnedlaecekkaaW.PrintMore
attribute [local go_sem] max2_int min2_int max_two min_two max_three min_three max_four min_four   -- for this text's walks alone
set_option linter.unusedVariables false
set_option linter.unusedSimpArgs false

/-! ### hopperlaw14_FeedCovers: function 4 -/
mutual
def hopperlaw14_FeedCovers.j0 : Nat → Int → List Int → Bool → Int → List (S36) → Int → Option (Bool)
  | 0, _, _, _, _, _, _ => none
  | k + 1, x0, x1, x27, x343000, x343001, x343002 => if x27 = true then ((hopperlaw14_live.f k).bind fun t343 => (some t343)) else (hopperlaw14_FeedCovers.l0 k x0 x1 ([] : List (S36)) ([] : List (S36)) false 0 x343000 x343001 x343002)
def hopperlaw14_FeedCovers.l0 : Nat → Int → List Int → List (S36) → List (S36) → Bool → Int → Int → List (S36) → Int → Option (Bool)
  | 0, _, _, _, _, _, _, _, _, _ => none
  | k + 1, x0, x1, x7, x8, x9, x10, x343000, x343001, x343002 => if x10 < (x1.length : Int) then (if 0 ≤ x10 then (if (rd x1 x10) = 0 then ((feed_Read.f x343000 x343001 x343002).bind fun bt345 => (if bt345.2.2.2.2.2.2.2.2.2.2.2 = 0 then (if x8.length < 1954687338268 then (hopperlaw14_FeedCovers.j2 k x0 x1 x7 (x8 ++ [(⟨bt345.2.2.2.1, (⟨bt345.2.2.2.2.1, bt345.2.2.2.2.2.1, bt345.2.2.2.2.2.2.1, bt345.2.2.2.2.2.2.2.1, bt345.2.2.2.2.2.2.2.2.1, bt345.2.2.2.2.2.2.2.2.2.1⟩ : S34), bt345.2.2.2.2.2.2.2.2.2.2.1⟩ : S36)]) x9 x10 bt345.2.2.2.2.2.2.2.2.2.2.2 x343000 x343001 x343002 bt345.1 bt345.2.1 bt345.2.2.1) else (none)) else (hopperlaw14_FeedCovers.j2 k x0 x1 x7 x8 x9 x10 bt345.2.2.2.2.2.2.2.2.2.2.2 x343000 x343001 x343002 bt345.1 bt345.2.1 bt345.2.2.1))) else ((hopperlaw14_event.f (rd x1 x10)).bind fun bt365 => (if x7.length < 1954687338268 then ((some (x7 ++ [(⟨bt365.1, (⟨bt365.2.1, bt365.2.2.1, bt365.2.2.2.1, bt365.2.2.2.2.1, bt365.2.2.2.2.2.1, bt365.2.2.2.2.2.2.1⟩ : S34), bt365.2.2.2.2.2.2.2⟩ : S36)] : List (S36))).bind fun y373 => ((hopperlaw14_event.f (rd x1 x10)).bind fun bt377 => ((feed_Tell.f k x343000 x343001 x343002 (([(⟨bt377.1, (⟨bt377.2.1, bt377.2.2.1, bt377.2.2.2.1, bt377.2.2.2.2.1, bt377.2.2.2.2.2.1, bt377.2.2.2.2.2.2.1⟩ : S34), bt377.2.2.2.2.2.2.2⟩ : S36)] : List (S36)))).bind fun bt388 => (if x9 = true then (hopperlaw14_FeedCovers.l0 k x0 x1 y373 x8 true (wrap64 (x10 + 1)) bt388.1 bt388.2.1 bt388.2.2) else (hopperlaw14_FeedCovers.l0 k x0 x1 y373 x8 (decide (bt388.2.2 > 0)) (wrap64 (x10 + 1)) bt388.1 bt388.2.1 bt388.2.2))))) else (none)))) else (none)) else (if (x343001.length : Int) > x0 then (hopperlaw14_FeedCovers.j4 k x7 x8 x9 true x343000 x343001 x343002) else (hopperlaw14_FeedCovers.j4 k x7 x8 x9 (decide (x343002 < 0)) x343000 x343001 x343002))
def hopperlaw14_FeedCovers.j2 : Nat → Int → List Int → List (S36) → List (S36) → Bool → Int → Int → Int → List (S36) → Int → Int → List (S36) → Int → Option (Bool)
  | 0, _, _, _, _, _, _, _, _, _, _, _, _, _ => none
  | k + 1, x0, x1, x7, x8, x9, x10, x13, x343000, x343001, x343002, x360000, x360001, x360002 => if x13 = 0 then (hopperlaw14_FeedCovers.j3 k x0 x1 x7 x8 x9 x10 false x360000 x360001 x360002) else (hopperlaw14_FeedCovers.j3 k x0 x1 x7 x8 x9 x10 (decide ((x343001.length : Int) > 0)) x360000 x360001 x360002)
def hopperlaw14_FeedCovers.j3 : Nat → Int → List Int → List (S36) → List (S36) → Bool → Int → Bool → Int → List (S36) → Int → Option (Bool)
  | 0, _, _, _, _, _, _, _, _, _, _ => none
  | k + 1, x0, x1, x7, x8, x9, x10, x59, x360000, x360001, x360002 => if x59 = true then (some false) else (hopperlaw14_FeedCovers.l0 k x0 x1 x7 x8 x9 (wrap64 (x10 + 1)) x360000 x360001 x360002)
def hopperlaw14_FeedCovers.j4 : Nat → List (S36) → List (S36) → Bool → Bool → Int → List (S36) → Int → Option (Bool)
  | 0, _, _, _, _, _, _, _ => none
  | k + 1, x7, x8, x9, x92, x343000, x343001, x343002 => if x92 = true then (some false) else ((feed_All.f k x343000 x343001 x343002).bind fun bt393 => (if x8.length + bt393.2.2.2.length < 1954687338268 then ((some (x8 ++ bt393.2.2.2 : List (S36))).bind fun y402 => ((feed_Covers.f k y402 x7).bind fun t405 => (if t405 = true then ((hopperref14_Covers.f k y402 x7).bind fun t406 => (if t406 = true then (if (bt393.2.1.length : Int) > 0 then (hopperlaw14_FeedCovers.j5 k x7 y402 x9 true) else (hopperlaw14_FeedCovers.j5 k x7 y402 x9 (bt393.2.2.1 != 0))) else (hopperlaw14_FeedCovers.j5 k x7 y402 x9 true))) else (hopperlaw14_FeedCovers.j5 k x7 y402 x9 true)))) else (none)))
def hopperlaw14_FeedCovers.j5 : Nat → List (S36) → List (S36) → Bool → Bool → Option (Bool)
  | 0, _, _, _, _ => none
  | k + 1, x7, x8, x9, x121 => if x121 = true then (some false) else (if x9 = true then ((hopperlaw14_live.f k).bind fun t407 => (some t407)) else ((hopperref13_Events.f k x8 x7).bind fun t408 => (if t408 = true then ((hopperlaw14_live.f k).bind fun t409 => (some t409)) else (some false))))
end
def hopperlaw14_FeedCovers.f (k : Nat) (a0 : Int) (l1 : List Int) : Option (Bool) := (feed_New.f a0).bind fun bt336 => (if (l1.length : Int) > 100 then (hopperlaw14_FeedCovers.j0 k a0 l1 true bt336.1 bt336.2.1 bt336.2.2.1) else (hopperlaw14_FeedCovers.j0 k a0 l1 (bt336.2.2.2 != 0) bt336.1 bt336.2.1 bt336.2.2.1))
theorem hopperlaw14_FeedCovers.mono_l : ∀ k, (∀ y0 y1 y2 y3 y4 y5, LeO (hopperlaw14_FeedCovers.j0 k y0 y1 y2 y3 y4 y5) (hopperlaw14_FeedCovers.j0 (k + 1) y0 y1 y2 y3 y4 y5)) ∧ (∀ y0 y1 y2 y3 y4 y5 y6 y7 y8, LeO (hopperlaw14_FeedCovers.l0 k y0 y1 y2 y3 y4 y5 y6 y7 y8) (hopperlaw14_FeedCovers.l0 (k + 1) y0 y1 y2 y3 y4 y5 y6 y7 y8)) ∧ (∀ y0 y1 y2 y3 y4 y5 y6 y7 y8 y9 y10 y11 y12, LeO (hopperlaw14_FeedCovers.j2 k y0 y1 y2 y3 y4 y5 y6 y7 y8 y9 y10 y11 y12) (hopperlaw14_FeedCovers.j2 (k + 1) y0 y1 y2 y3 y4 y5 y6 y7 y8 y9 y10 y11 y12)) ∧ (∀ y0 y1 y2 y3 y4 y5 y6 y7 y8 y9, LeO (hopperlaw14_FeedCovers.j3 k y0 y1 y2 y3 y4 y5 y6 y7 y8 y9) (hopperlaw14_FeedCovers.j3 (k + 1) y0 y1 y2 y3 y4 y5 y6 y7 y8 y9)) ∧ (∀ y0 y1 y2 y3 y4 y5 y6, LeO (hopperlaw14_FeedCovers.j4 k y0 y1 y2 y3 y4 y5 y6) (hopperlaw14_FeedCovers.j4 (k + 1) y0 y1 y2 y3 y4 y5 y6)) ∧ (∀ y0 y1 y2 y3, LeO (hopperlaw14_FeedCovers.j5 k y0 y1 y2 y3) (hopperlaw14_FeedCovers.j5 (k + 1) y0 y1 y2 y3))
  | 0 => ⟨fun _ _ _ _ _ _ r h => by simp [hopperlaw14_FeedCovers.j0] at h, fun _ _ _ _ _ _ _ _ _ r h => by simp [hopperlaw14_FeedCovers.l0] at h, fun _ _ _ _ _ _ _ _ _ _ _ _ _ r h => by simp [hopperlaw14_FeedCovers.j2] at h, fun _ _ _ _ _ _ _ _ _ _ r h => by simp [hopperlaw14_FeedCovers.j3] at h, fun _ _ _ _ _ _ _ r h => by simp [hopperlaw14_FeedCovers.j4] at h, fun _ _ _ _ r h => by simp [hopperlaw14_FeedCovers.j5] at h⟩
  | k + 1 => by
    obtain ⟨ih0, ih1, ih2, ih3, ih4, ih5⟩ := hopperlaw14_FeedCovers.mono_l k
    refine ⟨?_, ?_, ?_, ?_, ?_, ?_⟩
    · intro y0 y1 y2 y3 y4 y5
      unfold hopperlaw14_FeedCovers.j0
      repeat' first
      | (with_reducible exact ih0 _ _ _ _ _ _)
      | (with_reducible exact ih1 _ _ _ _ _ _ _ _ _)
      | (with_reducible exact ih2 _ _ _ _ _ _ _ _ _ _ _ _ _)
      | (with_reducible exact ih3 _ _ _ _ _ _ _ _ _ _)
      | (with_reducible exact ih4 _ _ _ _ _ _ _)
      | (with_reducible exact ih5 _ _ _ _)
      | (with_reducible exact feed_All.mono _ _ _ _)
      | (with_reducible exact feed_Covers.mono _ _ _)
      | (with_reducible exact feed_Tell.mono _ _ _ _ _)
      | (with_reducible exact hopperlaw14_live.mono _)
      | (with_reducible exact hopperref13_Events.mono _ _ _)
      | (with_reducible exact hopperref14_Covers.mono _ _ _)
      | (with_reducible exact LeO.refl _)
      | (with_reducible exact LeO.none _)
      | (with_reducible refine LeO.ite ?_ ?_)
      | (with_reducible refine LeO.bind ?_ (fun _ => ?_))
      | exact ih0 _ _ _ _ _ _
      | exact ih1 _ _ _ _ _ _ _ _ _
      | exact ih2 _ _ _ _ _ _ _ _ _ _ _ _ _
      | exact ih3 _ _ _ _ _ _ _ _ _ _
      | exact ih4 _ _ _ _ _ _ _
      | exact ih5 _ _ _ _
      | exact feed_All.mono _ _ _ _
      | exact feed_Covers.mono _ _ _
      | exact feed_Tell.mono _ _ _ _ _
      | exact hopperlaw14_live.mono _
      | exact hopperref13_Events.mono _ _ _
      | exact hopperref14_Covers.mono _ _ _
      | exact LeO.none _
      | refine LeO.ite ?_ ?_
      | refine LeO.bind ?_ (fun _ => ?_)
    · intro y0 y1 y2 y3 y4 y5 y6 y7 y8
      unfold hopperlaw14_FeedCovers.l0
      repeat' first
      | (with_reducible exact ih0 _ _ _ _ _ _)
      | (with_reducible exact ih1 _ _ _ _ _ _ _ _ _)
      | (with_reducible exact ih2 _ _ _ _ _ _ _ _ _ _ _ _ _)
      | (with_reducible exact ih3 _ _ _ _ _ _ _ _ _ _)
      | (with_reducible exact ih4 _ _ _ _ _ _ _)
      | (with_reducible exact ih5 _ _ _ _)
      | (with_reducible exact feed_All.mono _ _ _ _)
      | (with_reducible exact feed_Covers.mono _ _ _)
      | (with_reducible exact feed_Tell.mono _ _ _ _ _)
      | (with_reducible exact hopperlaw14_live.mono _)
      | (with_reducible exact hopperref13_Events.mono _ _ _)
      | (with_reducible exact hopperref14_Covers.mono _ _ _)
      | (with_reducible exact LeO.refl _)
      | (with_reducible exact LeO.none _)
      | (with_reducible refine LeO.ite ?_ ?_)
      | (with_reducible refine LeO.bind ?_ (fun _ => ?_))
      | exact ih0 _ _ _ _ _ _
      | exact ih1 _ _ _ _ _ _ _ _ _
      | exact ih2 _ _ _ _ _ _ _ _ _ _ _ _ _
      | exact ih3 _ _ _ _ _ _ _ _ _ _
      | exact ih4 _ _ _ _ _ _ _
      | exact ih5 _ _ _ _
      | exact feed_All.mono _ _ _ _
      | exact feed_Covers.mono _ _ _
      | exact feed_Tell.mono _ _ _ _ _
      | exact hopperlaw14_live.mono _
      | exact hopperref13_Events.mono _ _ _
      | exact hopperref14_Covers.mono _ _ _
      | exact LeO.none _
      | refine LeO.ite ?_ ?_
      | refine LeO.bind ?_ (fun _ => ?_)
    · intro y0 y1 y2 y3 y4 y5 y6 y7 y8 y9 y10 y11 y12
      unfold hopperlaw14_FeedCovers.j2
      repeat' first
      | (with_reducible exact ih0 _ _ _ _ _ _)
      | (with_reducible exact ih1 _ _ _ _ _ _ _ _ _)
      | (with_reducible exact ih2 _ _ _ _ _ _ _ _ _ _ _ _ _)
      | (with_reducible exact ih3 _ _ _ _ _ _ _ _ _ _)
      | (with_reducible exact ih4 _ _ _ _ _ _ _)
      | (with_reducible exact ih5 _ _ _ _)
      | (with_reducible exact feed_All.mono _ _ _ _)
      | (with_reducible exact feed_Covers.mono _ _ _)
      | (with_reducible exact feed_Tell.mono _ _ _ _ _)
      | (with_reducible exact hopperlaw14_live.mono _)
      | (with_reducible exact hopperref13_Events.mono _ _ _)
      | (with_reducible exact hopperref14_Covers.mono _ _ _)
      | (with_reducible exact LeO.refl _)
      | (with_reducible exact LeO.none _)
      | (with_reducible refine LeO.ite ?_ ?_)
      | (with_reducible refine LeO.bind ?_ (fun _ => ?_))
      | exact ih0 _ _ _ _ _ _
      | exact ih1 _ _ _ _ _ _ _ _ _
      | exact ih2 _ _ _ _ _ _ _ _ _ _ _ _ _
      | exact ih3 _ _ _ _ _ _ _ _ _ _
      | exact ih4 _ _ _ _ _ _ _
      | exact ih5 _ _ _ _
      | exact feed_All.mono _ _ _ _
      | exact feed_Covers.mono _ _ _
      | exact feed_Tell.mono _ _ _ _ _
      | exact hopperlaw14_live.mono _
      | exact hopperref13_Events.mono _ _ _
      | exact hopperref14_Covers.mono _ _ _
      | exact LeO.none _
      | refine LeO.ite ?_ ?_
      | refine LeO.bind ?_ (fun _ => ?_)
    · intro y0 y1 y2 y3 y4 y5 y6 y7 y8 y9
      unfold hopperlaw14_FeedCovers.j3
      repeat' first
      | (with_reducible exact ih0 _ _ _ _ _ _)
      | (with_reducible exact ih1 _ _ _ _ _ _ _ _ _)
      | (with_reducible exact ih2 _ _ _ _ _ _ _ _ _ _ _ _ _)
      | (with_reducible exact ih3 _ _ _ _ _ _ _ _ _ _)
      | (with_reducible exact ih4 _ _ _ _ _ _ _)
      | (with_reducible exact ih5 _ _ _ _)
      | (with_reducible exact feed_All.mono _ _ _ _)
      | (with_reducible exact feed_Covers.mono _ _ _)
      | (with_reducible exact feed_Tell.mono _ _ _ _ _)
      | (with_reducible exact hopperlaw14_live.mono _)
      | (with_reducible exact hopperref13_Events.mono _ _ _)
      | (with_reducible exact hopperref14_Covers.mono _ _ _)
      | (with_reducible exact LeO.refl _)
      | (with_reducible exact LeO.none _)
      | (with_reducible refine LeO.ite ?_ ?_)
      | (with_reducible refine LeO.bind ?_ (fun _ => ?_))
      | exact ih0 _ _ _ _ _ _
      | exact ih1 _ _ _ _ _ _ _ _ _
      | exact ih2 _ _ _ _ _ _ _ _ _ _ _ _ _
      | exact ih3 _ _ _ _ _ _ _ _ _ _
      | exact ih4 _ _ _ _ _ _ _
      | exact ih5 _ _ _ _
      | exact feed_All.mono _ _ _ _
      | exact feed_Covers.mono _ _ _
      | exact feed_Tell.mono _ _ _ _ _
      | exact hopperlaw14_live.mono _
      | exact hopperref13_Events.mono _ _ _
      | exact hopperref14_Covers.mono _ _ _
      | exact LeO.none _
      | refine LeO.ite ?_ ?_
      | refine LeO.bind ?_ (fun _ => ?_)
    · intro y0 y1 y2 y3 y4 y5 y6
      unfold hopperlaw14_FeedCovers.j4
      repeat' first
      | (with_reducible exact ih0 _ _ _ _ _ _)
      | (with_reducible exact ih1 _ _ _ _ _ _ _ _ _)
      | (with_reducible exact ih2 _ _ _ _ _ _ _ _ _ _ _ _ _)
      | (with_reducible exact ih3 _ _ _ _ _ _ _ _ _ _)
      | (with_reducible exact ih4 _ _ _ _ _ _ _)
      | (with_reducible exact ih5 _ _ _ _)
      | (with_reducible exact feed_All.mono _ _ _ _)
      | (with_reducible exact feed_Covers.mono _ _ _)
      | (with_reducible exact feed_Tell.mono _ _ _ _ _)
      | (with_reducible exact hopperlaw14_live.mono _)
      | (with_reducible exact hopperref13_Events.mono _ _ _)
      | (with_reducible exact hopperref14_Covers.mono _ _ _)
      | (with_reducible exact LeO.refl _)
      | (with_reducible exact LeO.none _)
      | (with_reducible refine LeO.ite ?_ ?_)
      | (with_reducible refine LeO.bind ?_ (fun _ => ?_))
      | exact ih0 _ _ _ _ _ _
      | exact ih1 _ _ _ _ _ _ _ _ _
      | exact ih2 _ _ _ _ _ _ _ _ _ _ _ _ _
      | exact ih3 _ _ _ _ _ _ _ _ _ _
      | exact ih4 _ _ _ _ _ _ _
      | exact ih5 _ _ _ _
      | exact feed_All.mono _ _ _ _
      | exact feed_Covers.mono _ _ _
      | exact feed_Tell.mono _ _ _ _ _
      | exact hopperlaw14_live.mono _
      | exact hopperref13_Events.mono _ _ _
      | exact hopperref14_Covers.mono _ _ _
      | exact LeO.none _
      | refine LeO.ite ?_ ?_
      | refine LeO.bind ?_ (fun _ => ?_)
    · intro y0 y1 y2 y3
      unfold hopperlaw14_FeedCovers.j5
      repeat' first
      | (with_reducible exact ih0 _ _ _ _ _ _)
      | (with_reducible exact ih1 _ _ _ _ _ _ _ _ _)
      | (with_reducible exact ih2 _ _ _ _ _ _ _ _ _ _ _ _ _)
      | (with_reducible exact ih3 _ _ _ _ _ _ _ _ _ _)
      | (with_reducible exact ih4 _ _ _ _ _ _ _)
      | (with_reducible exact ih5 _ _ _ _)
      | (with_reducible exact feed_All.mono _ _ _ _)
      | (with_reducible exact feed_Covers.mono _ _ _)
      | (with_reducible exact feed_Tell.mono _ _ _ _ _)
      | (with_reducible exact hopperlaw14_live.mono _)
      | (with_reducible exact hopperref13_Events.mono _ _ _)
      | (with_reducible exact hopperref14_Covers.mono _ _ _)
      | (with_reducible exact LeO.refl _)
      | (with_reducible exact LeO.none _)
      | (with_reducible refine LeO.ite ?_ ?_)
      | (with_reducible refine LeO.bind ?_ (fun _ => ?_))
      | exact ih0 _ _ _ _ _ _
      | exact ih1 _ _ _ _ _ _ _ _ _
      | exact ih2 _ _ _ _ _ _ _ _ _ _ _ _ _
      | exact ih3 _ _ _ _ _ _ _ _ _ _
      | exact ih4 _ _ _ _ _ _ _
      | exact ih5 _ _ _ _
      | exact feed_All.mono _ _ _ _
      | exact feed_Covers.mono _ _ _
      | exact feed_Tell.mono _ _ _ _ _
      | exact hopperlaw14_live.mono _
      | exact hopperref13_Events.mono _ _ _
      | exact hopperref14_Covers.mono _ _ _
      | exact LeO.none _
      | refine LeO.ite ?_ ?_
      | refine LeO.bind ?_ (fun _ => ?_)
theorem hopperlaw14_FeedCovers.mono : ∀ a0 a1 k, LeO (hopperlaw14_FeedCovers.f k a0 a1) (hopperlaw14_FeedCovers.f (k + 1) a0 a1) := by
  intro a0 a1 k
  obtain ⟨ih0, ih1, ih2, ih3, ih4, ih5⟩ := hopperlaw14_FeedCovers.mono_l k
  unfold hopperlaw14_FeedCovers.f
  repeat' first
      | (with_reducible exact ih0 _ _ _ _ _ _)
      | (with_reducible exact ih1 _ _ _ _ _ _ _ _ _)
      | (with_reducible exact ih2 _ _ _ _ _ _ _ _ _ _ _ _ _)
      | (with_reducible exact ih3 _ _ _ _ _ _ _ _ _ _)
      | (with_reducible exact ih4 _ _ _ _ _ _ _)
      | (with_reducible exact ih5 _ _ _ _)
      | (with_reducible exact feed_All.mono _ _ _ _)
      | (with_reducible exact feed_Covers.mono _ _ _)
      | (with_reducible exact feed_Tell.mono _ _ _ _ _)
      | (with_reducible exact hopperlaw14_live.mono _)
      | (with_reducible exact hopperref13_Events.mono _ _ _)
      | (with_reducible exact hopperref14_Covers.mono _ _ _)
      | (with_reducible exact LeO.refl _)
      | (with_reducible exact LeO.none _)
      | (with_reducible refine LeO.ite ?_ ?_)
      | (with_reducible refine LeO.bind ?_ (fun _ => ?_))
      | exact ih0 _ _ _ _ _ _
      | exact ih1 _ _ _ _ _ _ _ _ _
      | exact ih2 _ _ _ _ _ _ _ _ _ _ _ _ _
      | exact ih3 _ _ _ _ _ _ _ _ _ _
      | exact ih4 _ _ _ _ _ _ _
      | exact ih5 _ _ _ _
      | exact feed_All.mono _ _ _ _
      | exact feed_Covers.mono _ _ _
      | exact feed_Tell.mono _ _ _ _ _
      | exact hopperlaw14_live.mono _
      | exact hopperref13_Events.mono _ _ _
      | exact hopperref14_Covers.mono _ _ _
      | exact LeO.none _
      | refine LeO.ite ?_ ?_
      | refine LeO.bind ?_ (fun _ => ?_)
def hopperlaw14_FeedCovers.T18 : Bool × List (List Nat × List Nat) := (true, [([], []), ([], []), ([], []), ([1, 2], [1, 2]), ([3], [3]), ([4], [4]), ([5], [5]), ([0, 6, 5], [0, 6]), ([7, 7, 0, 1, 2, 3, 4, 5, 6, 7], [7])])
def hopperlaw14_FeedCovers.B18 : List Nat := [0, 0, 0, 6, 14, 30, 62, 127, 255]
theorem hopperlaw14_FeedCovers.tab18 : rtab .any (opsOf Try.f4 18) = hopperlaw14_FeedCovers.T18 := by kernel_rfl
theorem hopperlaw14_FeedCovers.bits18 : waitsOk hopperlaw14_FeedCovers.T18.2 hopperlaw14_FeedCovers.B18 = true := by kernel_rfl
set_option maxHeartbeats 60000000 in
set_option maxRecDepth 100000 in
theorem hopperlaw14_FeedCovers.callsT (k : Nat) (a0 : Int) (A1 : Option Addr) (c1 : Nat) (l1 : List Int) (w : World) (hr1 : Kd.C (Kd.int .i64) w A1 l1.length l1) (hc1 : l1.length ≤ c1) (h : hopperlaw14_FeedCovers.f k a0 l1 = some true) :
    Calls Try.prog 4 #[.int .i64 a0, .slice A1 l1.length c1] w fun e w' => e = .returned (.bool true) ∧ Below w.heap.size w w' := by
  have hu27 := Try.underlying27
  have hu36 := Try.underlying36
  have HR1 := Aside0.mk hr1
  have HC1 := Aside0.mk hc1
  clear hr1 hc1
  have HB := Aside0.mk (Below.refl w.heap.size w)
  have H : ((feed_New.f a0).bind fun bt336 => (if (l1.length : Int) > 100 then (hopperlaw14_FeedCovers.j0 k a0 l1 true bt336.1 bt336.2.1 bt336.2.2.1) else (hopperlaw14_FeedCovers.j0 k a0 l1 (bt336.2.2.2 != 0) bt336.1 bt336.2.1 bt336.2.2.1))) = some true := h
  clear h
  replace H := Option.bind_eq_some_iff.mp H
  obtain ⟨⟨t336, t337, t340, t341⟩, A30, H⟩ := H
  try dsimp only at H
  have A3 := Aside0.mk A30
  clear A30
  have HC4 := Aside0.mk H
  clear H
  go_enter Try.func4, Try.ntmps4
  go_upto_region 2 with (first | ((with_reducible refine gate_callee (f := 11) rfl ?_); refine goesL_ (some 18) rfl rfl Try.func11 (by kernel_rfl) rfl #[.int .i64 a0] rfl (by (try simp only [List.map_toArray, List.map_cons, List.map_nil]); first | done | rfl | (simp only [List.length_drop, List.length_take]; rfl)) ?_; (with_reducible refine (feed_New.calls a0 t336 t337 t340 t341 _ A3.out).mono ?_); rintro e w5 ⟨v338, rfl, ho0, hb⟩; refine ⟨_, rfl, ?_⟩; have HO339 := Aside0.mk (Kd.R_lower ho0 (below_size (LA HB.out))); replace HB := Aside0.mk (below_step (LA HB.out) hb); (try clear hb); (try clear hb2); (try clear hk); (try clear hi); (try clear ho0)) | ((with_reducible refine gate_dst (N := 5) rfl ?_); (try (refine gate_guard (by rfl) ?_; dsimp only)); refine box_event ?hg (N := 5) ?hd (cs := #[.int .i64 0, .slice none 0 0, .int .i64 0]) (t := 27) ?hr ?_; (case hd => rfl); (case hg => rfl); (case hr => first | (go_simp; done) | (go_simp; rfl)); intro gb342 hg w6 hbox hb; replace HO339 := Aside0.mk (Kd.R_below (Kd.RA HO339.out) hb); have BK342 := Aside0.mk (hbox); have GE342 := Aside0.mk (ge1 hg (LA HB.out)); replace HB := Aside0.mk (below_step (LA HB.out) hb); clear hb hbox hg; obtain ⟨hcz7_0, hcz7_1, hcz7_2, hfz7_0, hfz7_1, hfz7_2⟩ := cz3 BK342.out; obtain ⟨Ao8, co8, eo8⟩ := Kd.R_slice HO339.out; subst eo8))
  (try simp only [Act.put, PU])
  go_cut [27] (fun v27 wc => ∃ (kq : Nat) (x27_3 : Bool), v27 = .bool x27_3 ∧ Aside0 (hopperlaw14_FeedCovers.j0 kq a0 l1 x27_3 t336 t337 t340 = some true) ∧ Aside0 (kq ≤ k) ∧ Aside0 (Kd.R k36 36 wc w.heap.size (fun _ => True) (.slice Ao8 t337.length co8) t337) ∧ Aside0 (wc.heap[gb342]? = some (.cells #[.int .i64 t336, (.slice Ao8 t337.length co8), .int .i64 t340] 27 (0, 0))) ∧ Aside0 (Below w.heap.size w wc))
  case first =>
    have H := HC4.out
    clear HC4
    by_cases c9 : (l1.length : Int) > 100
    · rw [if_pos c9] at H
      have c9b0 : decide (100 < (l1.length : Int)) = true := decide_eq_true c9
      have c9b1 : decide (100 < l1.length) = true := decide_eq_true (by omega)
      clear c9
      (first | rw [c9b0] | (simp only [i64_w, i32_w]; rw [c9b0]) | skip)
      have H' := Aside0.mk H
      clear H
      go_wp2
      go_meet
      case rel => exact ⟨_, (true), (by first | (rw [HR_.out]; done) | rfl | (rw [HR_.out]; rfl) | (simp [HR_.out]; done) | (simp; done) | (simp [*]; done)), H', ⟨by first | omega | exact Nat.le_refl _⟩, ⟨by (with_reducible repeat (first | apply Kd.R_alloc | apply Kd.R_drewN | apply Kd.R_drew)); exact Kd.R_mono (Kd.R_mv (g := gb342) (Kd.R_types HO339.out BK342.out (by decide)) (fun _ hk => hk.2)) (fun _ hk => trivial)⟩, ⟨by exact BP BK342.out (by rfl)⟩, ⟨LG HB.out (G1 GE342.out G0)⟩⟩
    · rw [if_neg c9] at H
      have c9b0 : decide (100 < (l1.length : Int)) = false := decide_eq_false c9
      have c9b1 : decide (100 < l1.length) = false := decide_eq_false (by omega)
      clear c9
      (first | rw [c9b0] | (simp only [i64_w, i32_w]; rw [c9b0]) | skip)
      have H' := Aside0.mk H
      clear H
      go_wp2
      go_meet
      case rel => exact ⟨_, ((t341 != 0)), (by first | (rw [HR_.out]; done) | rfl | (rw [HR_.out]; rfl) | (simp [HR_.out]; done) | (simp; done) | (simp [*]; done)), H', ⟨by first | omega | exact Nat.le_refl _⟩, ⟨by (with_reducible repeat (first | apply Kd.R_alloc | apply Kd.R_drewN | apply Kd.R_drew)); exact Kd.R_mono (Kd.R_mv (g := gb342) (Kd.R_types HO339.out BK342.out (by decide)) (fun _ hk => hk.2)) (fun _ hk => trivial)⟩, ⟨by exact BP BK342.out (by rfl)⟩, ⟨LG HB.out (G1 GE342.out G0)⟩⟩
  case rest =>
    clear HC4
    try clear c1
    try clear p2
    try clear c4
    try clear c9
    try clear c9b0
    try clear c9b1
    try clear hcz7_0
    try clear hcz7_1
    try clear hcz7_2
    try clear hfz7_0
    try clear hfz7_1
    try clear hfz7_2
    obtain ⟨kq, x27_3, rfl, HA, HJ3, HO_343001, BK342, HB⟩ := hcut
    cases kq with
    | zero => exact absurd HA.out (by simp [hopperlaw14_FeedCovers.j0])
    | succ kj3 =>
      have H := HA.out
      clear HA
      simp only [hopperlaw14_FeedCovers.j0] at H
      by_cases c10 : x27_3 = true
      · subst c10
        have H1 : ((hopperlaw14_live.f kj3).bind fun t343 => (some t343)) = some true := by rw [if_pos rfl] at H; exact H
        clear H
        have H := H1
        clear H1
        replace H := Option.bind_eq_some_iff.mp H
        obtain ⟨t343, A110, H⟩ := H
        try dsimp only at H
        have A11 := Aside0.mk A110
        clear A110
        have HR_ := Aside0.mk (Option.some.inj H)
        clear H
        go_wp2_with (first | ((with_reducible refine gate_callee (f := 10) rfl ?_); refine goesL_ (some 28) rfl rfl Try.func10 (by kernel_rfl) rfl #[] rfl (by (try simp only [List.map_toArray, List.map_cons, List.map_nil]); first | done | rfl | (simp only [List.length_drop, List.length_take]; rfl)) ?_; (with_reducible refine (hopperlaw14_live.calls kj3  t343 _ A11.out).mono ?_); rintro e w12 ⟨rfl, hb⟩; refine ⟨_, rfl, ?_⟩; replace HB := Aside0.mk (below_step (LA HB.out) hb); (try clear HO_343001); (try clear BK342); (try clear hb); (try clear hb2); (try clear hk); (try clear hi)))
        go_ret
        exact ⟨by first | exact (congrArg (fun b => Ending.returned (.bool b)) HR_.out) | (rw [HR_.out]; done) | rfl | (rw [HR_.out]; rfl) | (simp [HR_.out]; done) | (simp [errW_none, errW_some] <;> rfl) | (simp [*, errW_none, errW_some] <;> rfl), LG HB.out (G1 GE342.out G0)⟩
      · replace c10 := Bool.eq_false_iff.mpr c10
        subst c10
        have H1 : (hopperlaw14_FeedCovers.l0 kj3 a0 l1 ([] : List (S36)) ([] : List (S36)) false 0 t336 t337 t340) = some true := by rw [if_neg (show ¬ (false = true) by decide)] at H; exact H
        clear H
        have H := H1
        clear H1
        have H' := Aside0.mk H
        clear H
        go_wp2
        go_loopg [7, 8, 9, 10] kj3 (fun kq v7 v8 v9 v10 w' => ∃ (x7_2 : List (S36)) (x8_2 : List (S36)) (x9_2 : Bool) (x10_2 : Int) (x343000_2 : Int) (x343001_2 : List (S36)) (x343002_2 : Int) (u343001 : Value), v9 = .bool x9_2 ∧ v10 = .int .i64 x10_2 ∧ Aside0 (hopperlaw14_FeedCovers.l0 kq a0 l1 x7_2 x8_2 x9_2 x10_2 x343000_2 x343001_2 x343002_2 = some true) ∧ Aside0 (kq ≤ kj3) ∧ Aside0 (Kd.R k36 36 w' w.heap.size (fun k_ => some k_ ≠ (v8 : Value).ownBlock) v7 x7_2) ∧ Aside0 (Kd.R k36 36 w' w.heap.size (fun k_ => some k_ ≠ (v7 : Value).ownBlock) v8 x8_2) ∧ Aside0 (Kd.V k36 36 w' w.heap.size (fun k_ => some k_ ≠ (v7 : Value).ownBlock ∧ some k_ ≠ (v8 : Value).ownBlock ∧ k_ ≠ gb342) u343001 x343001_2) ∧ Aside0 (w'.heap[gb342]? = some (.cells #[.int .i64 x343000_2, u343001, .int .i64 x343002_2] 27 (0, 0))) ∧ Aside0 (Below w.heap.size w w'))
        case atStart => exact ⟨(([] : List (S36))), (([] : List (S36))), (false), (0), (t336), (t337), (t340), (.slice Ao8 t337.length co8), (by first | (rw [HR_.out]; done) | rfl | (rw [HR_.out]; rfl) | (simp [HR_.out]; done) | (simp; done) | (simp [*]; done)), (by first | (rw [HR_.out]; done) | rfl | (rw [HR_.out]; rfl) | (simp [HR_.out]; done) | (simp; done) | (simp [*]; done)), H', ⟨Nat.le_refl _⟩, ⟨by first | exact Kd.R_nil _ _ _ _ _ | exact Kd.N_nil _ _ _ _ _ | exact Kd.V_nil _ _ _ _ _ | exact Kd.Q_nil _ _ _ _ _ | exact Kd.S_nil _ _ _ _ _⟩, ⟨by first | exact Kd.R_nil _ _ _ _ _ | exact Kd.N_nil _ _ _ _ _ | exact Kd.V_nil _ _ _ _ _ | exact Kd.Q_nil _ _ _ _ _ | exact Kd.S_nil _ _ _ _ _⟩, ⟨Kd.R_V (Kd.RA (Kd.R_mono (Kd.R_types HO_343001.out BK342.out (by decide)) (fun _ hk => ⟨(by simp [Value.ownBlock]), ⟨(by simp [Value.ownBlock]), hk.2⟩⟩)))⟩, ⟨by (with_reducible repeat (first | refine blk_drewN ?_ _ | refine blk_drew ?_ | refine blk_alloc ?_ _)); exact BK342.out⟩, ⟨LG HB.out (G1 GE342.out G0)⟩⟩
        case round =>
          clear H'
          try clear c1
          try clear p2
          try clear c4
          try clear c9
          try clear c9b0
          try clear c9b1
          try clear c10
          try clear c11
          try clear hcz7_0
          try clear hcz7_1
          try clear hcz7_2
          try clear hfz7_0
          try clear hfz7_1
          try clear hfz7_2
          try clear p2
          obtain ⟨x7_2, x8_2, x9_2, x10_2, x343000_2, x343001_2, x343002_2, u343001, rfl, rfl, HA, HK2, HO_7, HO_8, HO_343001, BK342, HB⟩ := hrel
          cases gk with
          | zero => exact absurd HA.out (by simp [hopperlaw14_FeedCovers.l0])
          | succ k2 =>
            have H := HA.out
            clear HA
            simp only [hopperlaw14_FeedCovers.l0] at H
            by_cases c13 : x10_2 < (l1.length : Int)
            · rw [if_pos c13] at H
              have c13b0 : decide (x10_2 < (l1.length : Int)) = true := decide_eq_true c13
              clear c13
              by_cases c14 : 0 ≤ x10_2
              rotate_left
              · rw [if_neg c14] at H
                exact absurd H (by simp)
              rw [if_pos c14] at H
              have c14b0 : decide (0 ≤ x10_2) = true := decide_eq_true c14
              clear c14
              by_cases c15 : (rd l1 x10_2) = 0
              · rw [if_pos c15] at H
                have c15b0 : ((rd l1 x10_2) == 0) = true := beq_iff_eq.mpr c15
                have c15b1 : ((rd l1 x10_2) != 0) = false := bne_eq_false_iff_eq.mpr c15
                clear c15
                replace H := Option.bind_eq_some_iff.mp H
                obtain ⟨⟨t345, t346, t349, t350, t351, t352, t353, t354, t355, t356, t357, t358⟩, A160, H⟩ := H
                try dsimp only at H
                have A16 := Aside0.mk A160
                clear A160
                have HC17 := Aside0.mk H
                clear H
                have p344 : 0 ≤ (x10_2 : Int) := of_decide_eq_true (by first | (with_reducible assumption) | assumption)
                have q344 : x10_2 < (l1.length : Int) := of_decide_eq_true (by first | (with_reducible assumption) | assumption)
                obtain ⟨ad344, e344, hx344_0⟩ := Kd.at_int HR1.out x10_2 p344 q344
                cases e344
                replace hx344_0 := (HB.out.cell (World.block_lt_of_cell? w _ hx344_0)).trans hx344_0
                replace p344 := eq_true p344
                replace q344 := eq_true q344
                have hcz18_0 : wr.cell? ⟨gb342, 0, none⟩ = some (.int .i64 x343000_2) := (blk_cell BK342.out 0).trans rfl
                have hcz18_1 : wr.cell? ⟨gb342, 1, none⟩ = some (u343001) := (blk_cell BK342.out 1).trans rfl
                have hcz18_2 : wr.cell? ⟨gb342, 2, none⟩ = some (.int .i64 x343002_2) := (blk_cell BK342.out 2).trans rfl
                have hfz18_0 := blk_frozen BK342.out 0
                have hfz18_1 := blk_frozen BK342.out 1
                have hfz18_2 := blk_frozen BK342.out 2
                obtain ⟨Ao19, co19, eo19⟩ := Kd.V_slice HO_343001.out
                subst eo19
                go_upto_if 47 with (first | ((with_reducible refine gate_callee (f := 13) rfl ?_); refine goesL_ (some 42) rfl rfl Try.func13 (by kernel_rfl) rfl #[.agg #[.int .i64 x343000_2, .slice Ao19 x343001_2.length co19, .int .i64 x343002_2]] rfl (by (try simp only [List.map_toArray, List.map_cons, List.map_nil]); first | done | rfl | (simp only [List.length_drop, List.length_take]; rfl)) ?_; (with_reducible refine (feed_Read.calls x343000_2 (fun k_ => (some k_ ≠ (u7 : Value).ownBlock ∧ (some k_ ≠ (u8 : Value).ownBlock ∧ k_ ≠ gb342))) _ _ x343001_2 x343002_2 t345 t346 t349 t350 t351 t352 t353 t354 t355 t356 t357 t358 _ ?side1 A16.out).mono ?_); (case side1 => exact HO_343001.out); rintro e w20 ⟨v347, rfl, ho0, hb⟩; refine ⟨_, rfl, ?_⟩; replace HO_343001 := Aside0.mk (Kd.V_below (Kd.VA HO_343001.out) hb); have HO348 := Aside0.mk (Kd.V_lower (Kd.V_mono (ok' := fun k_ => some k_ ≠ (u7 : Value).ownBlock ∧ some k_ ≠ (u8 : Value).ownBlock ∧ k_ ≠ gb342) ho0 (fun k_ hk_ => ⟨Or.elim hk_ (fun hs_ => hs_.1) (fun hn_ => (Kd.fresh' (Kd.R_lt (Kd.RA HO_7.out)) k_ hn_)), Or.elim hk_ (fun hs_ => hs_.2.1) (fun hn_ => (Kd.fresh' (Kd.R_lt (Kd.RA HO_8.out)) k_ hn_)), Or.elim hk_ (fun hs_ => hs_.2.2) (fun hn_ => (Kd.freshB (g := gb342) (o := .cells #[.int .i64 x343000_2, .slice Ao19 x343001_2.length co19, .int .i64 x343002_2] 27 (0, 0)) (BA BK342.out) k_ hn_))⟩)) (below_size (LA HB.out))); replace HO_7 := Aside0.mk (Kd.R_below (Kd.RA HO_7.out) hb); replace HO_8 := Aside0.mk (Kd.R_below (Kd.RA HO_8.out) hb); replace BK342 := Aside0.mk (blk_below (BA BK342.out) hb); replace HB := Aside0.mk (below_step (LA HB.out) hb); (try clear hb); (try clear hb2); (try clear hk); (try clear hi); (try clear ho0)) | ((with_reducible refine gate_dst (N := 11) rfl ?_); (try (refine gate_guard (by rfl) ?_; dsimp only)); refine box_event ?hg (N := 11) ?hd (cs := #[.int .i64 0, .slice none 0 0, .int .i64 0]) (t := 27) ?hr ?_; (case hd => rfl); (case hg => rfl); (case hr => first | (go_simp; done) | (go_simp; rfl)); intro gb359 hg w21 hbox hb; replace HO_7 := Aside0.mk (Kd.R_below (Kd.RA HO_7.out) hb); replace HO_8 := Aside0.mk (Kd.R_below (Kd.RA HO_8.out) hb); replace HO_343001 := Aside0.mk (Kd.V_below (Kd.V_elderB (Kd.VA HO_343001.out) gb359 (Nat.le_of_eq hg.symm)) hb); replace HO348 := Aside0.mk (Kd.V_below (Kd.V_elderB (Kd.VA HO348.out) gb359 (Nat.le_of_eq hg.symm)) hb); have BK359 := Aside0.mk (hbox); have GE359 := Aside0.mk (ge1 hg (LA HB.out)); replace HB := Aside0.mk (below_step (LA HB.out) hb); have NB342_359 := Aside0.mk ((by rw [hg]; exact Nat.ne_of_lt (blk_lt (g := gb342) (o := .cells #[.int .i64 x343000_2, .slice Ao19 x343001_2.length co19, .int .i64 x343002_2] 27 (0, 0)) (BA BK342.out)) : gb342 ≠ gb359)); have NB359_342 := Aside0.mk ((by rw [hg]; exact Nat.ne_of_gt (blk_lt (g := gb342) (o := .cells #[.int .i64 x343000_2, .slice Ao19 x343001_2.length co19, .int .i64 x343002_2] 27 (0, 0)) (BA BK342.out)) : gb359 ≠ gb342)); replace BK342 := Aside0.mk (blk_below (BA BK342.out) hb); clear hb hbox hg) | ((with_reducible refine gate_dst (N := 12) rfl ?_); (try (refine gate_guard (by rfl) ?_; dsimp only)); refine box_event ?hg (N := 12) ?hd (cs := #[.int .i64 0, .int .i64 0, .int .i64 0, .int .i64 0, .int .i64 0, .int .i64 0, .string (⟨#[]⟩ : ByteArray), .int .i64 0]) (t := 36) ?hr ?_; (case hd => rfl); (case hg => rfl); (case hr => first | (go_simp; done) | (go_simp; rfl)); intro gb360 hg w22 hbox hb; replace HO_7 := Aside0.mk (Kd.R_below (Kd.R_elderB (Kd.RA HO_7.out) gb360 (Nat.le_of_eq hg.symm)) hb); replace HO_8 := Aside0.mk (Kd.R_below (Kd.R_elderB (Kd.RA HO_8.out) gb360 (Nat.le_of_eq hg.symm)) hb); replace HO_343001 := Aside0.mk (Kd.V_below (Kd.V_elderB (Kd.VA HO_343001.out) gb360 (Nat.le_of_eq hg.symm)) hb); replace HO348 := Aside0.mk (Kd.V_below (Kd.V_elderB (Kd.VA HO348.out) gb360 (Nat.le_of_eq hg.symm)) hb); have BK360 := Aside0.mk (hbox); have GE360 := Aside0.mk (ge1 hg (LA HB.out)); replace HB := Aside0.mk (below_step (LA HB.out) hb); have NB342_360 := Aside0.mk ((by rw [hg]; exact Nat.ne_of_lt (blk_lt (g := gb342) (o := .cells #[.int .i64 x343000_2, .slice Ao19 x343001_2.length co19, .int .i64 x343002_2] 27 (0, 0)) (BA BK342.out)) : gb342 ≠ gb360)); have NB360_342 := Aside0.mk ((by rw [hg]; exact Nat.ne_of_gt (blk_lt (g := gb342) (o := .cells #[.int .i64 x343000_2, .slice Ao19 x343001_2.length co19, .int .i64 x343002_2] 27 (0, 0)) (BA BK342.out)) : gb360 ≠ gb342)); replace BK342 := Aside0.mk (blk_below (BA BK342.out) hb); have NB359_360 := Aside0.mk ((by rw [hg]; exact Nat.ne_of_lt (blk_lt (g := gb359) (o := .cells #[.int .i64 0, .slice none 0 0, .int .i64 0] 27 (0, 0)) (BA BK359.out)) : gb359 ≠ gb360)); have NB360_359 := Aside0.mk ((by rw [hg]; exact Nat.ne_of_gt (blk_lt (g := gb359) (o := .cells #[.int .i64 0, .slice none 0 0, .int .i64 0] 27 (0, 0)) (BA BK359.out)) : gb360 ≠ gb359)); replace BK359 := Aside0.mk (blk_below (BA BK359.out) hb); clear hb hbox hg; have hnb23 := NB359_342.out; have hnc23 := NB342_359.out; have hnb24 := NB359_360.out; have hnc24 := NB360_359.out; obtain ⟨hcz25_0, hcz25_1, hcz25_2, hfz25_0, hfz25_1, hfz25_2⟩ := cz3 BK359.out; obtain ⟨Ao26, co26, eo26⟩ := Kd.V_slice HO348.out; subst eo26; have hnb27 := NB360_342.out; have hnc27 := NB342_360.out; obtain ⟨hcz28_0, hcz28_1, hcz28_2, hcz28_3, hcz28_4, hcz28_5, hcz28_6, hcz28_7, hfz28_0, hfz28_1, hfz28_2, hfz28_3, hfz28_4, hfz28_5, hfz28_6, hfz28_7⟩ := cz8 BK360.out))
                (try simp only [Act.put, PU])
                go_cut [8] (fun v8 wc => ∃ (kq : Nat) (x8_16 : List (S36)), Aside0 (hopperlaw14_FeedCovers.j2 kq a0 l1 x7_2 x8_16 x9_2 x10_2 t358 x343000_2 x343001_2 x343002_2 t345 t346 t349 = some true) ∧ Aside0 (kq ≤ k2) ∧ Aside0 (Kd.R k36 36 wc w.heap.size (fun k_ => some k_ ≠ (v8 : Value).ownBlock ∧ k_ ≠ gb360) u7 x7_2) ∧ Aside0 (Kd.R k36 36 wc w.heap.size (fun k_ => some k_ ≠ (u7 : Value).ownBlock ∧ k_ ≠ gb360) v8 x8_16) ∧ Aside0 (Kd.V k36 36 wc w.heap.size (fun k_ => some k_ ≠ (u7 : Value).ownBlock ∧ some k_ ≠ (v8 : Value).ownBlock ∧ k_ ≠ gb342 ∧ k_ ≠ gb359 ∧ k_ ≠ gb360) (.slice Ao19 x343001_2.length co19) x343001_2) ∧ Aside0 (Kd.V k36 36 wc w.heap.size (fun k_ => some k_ ≠ (u7 : Value).ownBlock ∧ some k_ ≠ (v8 : Value).ownBlock ∧ k_ ≠ gb342 ∧ k_ ≠ gb359 ∧ k_ ≠ gb360) (.slice Ao26 t346.length co26) t346) ∧ Aside0 (wc.heap[gb342]? = some (.cells #[.int .i64 x343000_2, (.slice Ao19 x343001_2.length co19), .int .i64 x343002_2] 27 (0, 0))) ∧ Aside0 (wc.heap[gb359]? = some (.cells #[.int .i64 t345, (.slice Ao26 t346.length co26), .int .i64 t349] 27 (0, 0))) ∧ Aside0 (wc.heap[gb360]? = some (.cells #[.int .i64 t350, .int .i64 t351, .int .i64 t352, .int .i64 t353, .int .i64 t354, .int .i64 t355, .string t356, .int .i64 t357] 36 (0, 0))) ∧ Aside0 (Below w.heap.size w wc))
                case first =>
                  have H := HC17.out
                  clear HC17
                  by_cases c29 : t358 = 0
                  · rw [if_pos c29] at H
                    have c29b0 : (t358 == 0) = true := beq_iff_eq.mpr c29
                    have c29b1 : (t358 != 0) = false := bne_eq_false_iff_eq.mpr c29
                    clear c29
                    (first | rw [c29b0] | (simp only [i64_w, i32_w]; rw [c29b0]) | skip)
                    by_cases c30 : x8_2.length < 1954687338268
                    rotate_left
                    · rw [if_neg c30] at H
                      exact absurd H (by simp)
                    rw [if_pos c30] at H
                    have LMc30 := Aside0.mk c30
                    clear c30
                    obtain ⟨y361, hy361⟩ : ∃ y_ : List (S36), y_ = (x8_2 ++ [(⟨t350, (⟨t351, t352, t353, t354, t355, t356⟩ : S34), t357⟩ : S36)]) := ⟨_, rfl⟩
                    replace H : (hopperlaw14_FeedCovers.j2 k2 a0 l1 x7_2 y361 x9_2 x10_2 t358 x343000_2 x343001_2 x343002_2 t345 t346 t349) = some true := by first | (rw [hy361]; with_reducible exact H) | (have H2_ := (Option.bind_some _ _).symm.trans H; rw [hy361]; with_reducible exact H2_) | (have H2_ := (Option.bind_some _ _).symm.trans H; with_reducible exact H2_) | with_reducible exact H | (rw [hy361]; exact H) | exact H
                    have Ny361 := Aside0.mk hy361
                    clear hy361
                    have H' := Aside0.mk H
                    clear H
                    have hnb31 := NB360_342.out
                    have hnc31 := NB342_360.out
                    have hnb32 := NB360_359.out
                    have hnc32 := NB359_360.out
                    have hcz33_0 : w22.cell? ⟨gb360, 0, none⟩ = some (.int .i64 0) := (blk_cell BK360.out 0).trans rfl
                    have hcz33_1 : w22.cell? ⟨gb360, 1, none⟩ = some (.int .i64 0) := (blk_cell BK360.out 1).trans rfl
                    have hcz33_2 : w22.cell? ⟨gb360, 2, none⟩ = some (.int .i64 0) := (blk_cell BK360.out 2).trans rfl
                    have hcz33_3 : w22.cell? ⟨gb360, 3, none⟩ = some (.int .i64 0) := (blk_cell BK360.out 3).trans rfl
                    have hcz33_4 : w22.cell? ⟨gb360, 4, none⟩ = some (.int .i64 0) := (blk_cell BK360.out 4).trans rfl
                    have hcz33_5 : w22.cell? ⟨gb360, 5, none⟩ = some (.int .i64 0) := (blk_cell BK360.out 5).trans rfl
                    have hcz33_6 : w22.cell? ⟨gb360, 6, none⟩ = some (.string (⟨#[]⟩ : ByteArray)) := (blk_cell BK360.out 6).trans rfl
                    have hcz33_7 : w22.cell? ⟨gb360, 7, none⟩ = some (.int .i64 0) := (blk_cell BK360.out 7).trans rfl
                    have hfz33_0 := blk_frozen BK360.out 0
                    have hfz33_1 := blk_frozen BK360.out 1
                    have hfz33_2 := blk_frozen BK360.out 2
                    have hfz33_3 := blk_frozen BK360.out 3
                    have hfz33_4 := blk_frozen BK360.out 4
                    have hfz33_5 := blk_frozen BK360.out 5
                    have hfz33_6 := blk_frozen BK360.out 6
                    have hfz33_7 := blk_frozen BK360.out 7
                    go_wp2_with (first | ((with_reducible refine gate_builtin (b := .append) (xs := #[.tmp 48, .tmp 50]) rfl ?_); (try (refine gate_guard (by rfl) ?_; dsimp only)); at_builtin; refine Kd.R_append k36 (w0 := w) w.heap.size rfl (.tmp 48) (.tmp 50) 22 36 (.agg #[(.int .i64 0), (.int .i64 0), (.int .i64 0), (.int .i64 0), (.int .i64 0), (.int .i64 0), (.string ⟨#[]⟩), (.int .i64 0)]) 72 rfl Try.underlying22 info36 rfl (by decide) (by omega) u8 x8_2 (⟨t350, (⟨t351, t352, t353, t354, t355, t356⟩ : S34), t357⟩ : S36) [.int .i64 t350, .int .i64 t351, .int .i64 t352, .int .i64 t353, .int .i64 t354, .int .i64 t355, .string t356, .int .i64 t357] (fun k_ => some k_ ≠ (u7 : Value).ownBlock ∧ k_ ≠ gb360) (fun _ => False) rfl (by first | (go_simp; done) | (go_simp; rfl)) ?aP (fun _ hk => hk.elim) ?aF ?aO ?aB ?aS ?aL ?_; (case aP => exact k36_mkM _ _ _ (⟨t350, (⟨t351, t352, t353, t354, t355, t356⟩ : S34), t357⟩ : S36)); (case aB => exact (LG HB.out (G1 GE359.out (G1 GE360.out G0)))); (case aF => exact (fun k_ hk => ⟨Kd.fresh' (Kd.R_lt ((Kd.R_mono (Kd.R_mono (Kd.R_ms (gs := [gb360, gb359]) (Kd.R_mono (Kd.R_types HO_7.out BK359.out (by decide)) (fun k_ hk => (⟨hk, hk.1.2⟩ : _ ∧ k_ ≠ gb360))) (fun _ hk => N1 (hk.2) (N1 (hk.1.2) (N0)))) (fun _ h_ => h_.1)) (fun _ h_ => h_.1)))) k_ hk, Kd.freshB (g := gb360) (o := .cells #[.int .i64 t350, .int .i64 t351, .int .i64 t352, .int .i64 t353, .int .i64 t354, .int .i64 t355, .string t356, .int .i64 t357] 36 (0, 0)) (by (with_reducible repeat (first | refine blk_drewN ?_ _ | refine blk_drew ?_ | refine blk_alloc ?_ _)); refine blk_put (cs := #[.int .i64 t350, .int .i64 t351, .int .i64 t352, .int .i64 t353, .int .i64 t354, .int .i64 t355, .string t356, .int .i64 0]) ?_ 7 _ rfl; (with_reducible repeat (first | refine blk_drewN ?_ _ | refine blk_drew ?_ | refine blk_alloc ?_ _)); refine blk_put (cs := #[.int .i64 t350, .int .i64 t351, .int .i64 t352, .int .i64 t353, .int .i64 t354, .int .i64 t355, .string (⟨#[]⟩ : ByteArray), .int .i64 0]) ?_ 6 _ rfl; (with_reducible repeat (first | refine blk_drewN ?_ _ | refine blk_drew ?_ | refine blk_alloc ?_ _)); refine blk_put (cs := #[.int .i64 t350, .int .i64 t351, .int .i64 t352, .int .i64 t353, .int .i64 t354, .int .i64 0, .string (⟨#[]⟩ : ByteArray), .int .i64 0]) ?_ 5 _ rfl; (with_reducible repeat (first | refine blk_drewN ?_ _ | refine blk_drew ?_ | refine blk_alloc ?_ _)); refine blk_put (cs := #[.int .i64 t350, .int .i64 t351, .int .i64 t352, .int .i64 t353, .int .i64 0, .int .i64 0, .string (⟨#[]⟩ : ByteArray), .int .i64 0]) ?_ 4 _ rfl; (with_reducible repeat (first | refine blk_drewN ?_ _ | refine blk_drew ?_ | refine blk_alloc ?_ _)); refine blk_put (cs := #[.int .i64 t350, .int .i64 t351, .int .i64 t352, .int .i64 0, .int .i64 0, .int .i64 0, .string (⟨#[]⟩ : ByteArray), .int .i64 0]) ?_ 3 _ rfl; (with_reducible repeat (first | refine blk_drewN ?_ _ | refine blk_drew ?_ | refine blk_alloc ?_ _)); refine blk_put (cs := #[.int .i64 t350, .int .i64 t351, .int .i64 0, .int .i64 0, .int .i64 0, .int .i64 0, .string (⟨#[]⟩ : ByteArray), .int .i64 0]) ?_ 2 _ rfl; (with_reducible repeat (first | refine blk_drewN ?_ _ | refine blk_drew ?_ | refine blk_alloc ?_ _)); refine blk_put (cs := #[.int .i64 t350, .int .i64 0, .int .i64 0, .int .i64 0, .int .i64 0, .int .i64 0, .string (⟨#[]⟩ : ByteArray), .int .i64 0]) ?_ 1 _ rfl; (with_reducible repeat (first | refine blk_drewN ?_ _ | refine blk_drew ?_ | refine blk_alloc ?_ _)); refine blk_put (cs := #[.int .i64 0, .int .i64 0, .int .i64 0, .int .i64 0, .int .i64 0, .int .i64 0, .string (⟨#[]⟩ : ByteArray), .int .i64 0]) ?_ 0 _ rfl; exact BF BK360.out NB360_359.out) k_ hk⟩)); (case aO => exact (Kd.R_mono (Kd.R_ms (gs := [gb360, gb359]) (Kd.R_mono (Kd.R_types HO_8.out BK359.out (by decide)) (fun k_ hk => (⟨hk, hk.1.2⟩ : _ ∧ k_ ≠ gb360))) (fun _ hk => N1 (hk.2) (N1 (hk.1.2) (N0)))) (fun _ hk => ⟨hk.1.1.1, hk.1.1.2⟩))); (case aS => exact (below_size (LG HB.out (G1 GE359.out (G1 GE360.out G0))))); (case aL => have := LMc30.out; omega); intro v362 w34 ho hb hg hat; rw [← Ny361.out] at ho; replace HO_7 := Aside0.mk (Kd.R_after (ok := (fun k_ => k_ ≠ gb360)) (Kd.R_mono (Kd.R_ms (gs := [gb360, gb359]) (Kd.R_mono (Kd.R_types HO_7.out BK359.out (by decide)) (fun k_ hk => (⟨hk, hk.1.2⟩ : _ ∧ k_ ≠ gb360))) (fun _ hk => N1 (hk.2) (N1 (hk.1.2) (N0)))) (fun _ hk => ⟨hk.1.1.2, hk.1.1.1⟩)) hg hat); replace HO_343001 := Aside0.mk (Kd.V_afterv (ok := (fun k_ => some k_ ≠ (u7 : Value).ownBlock ∧ k_ ≠ gb342 ∧ k_ ≠ gb359 ∧ k_ ≠ gb360)) (Kd.V_mono (Kd.V_ms (gs := [gb360, gb359]) (Kd.V_mono (Kd.V_mono HO_343001.out (fun k_ hk => (⟨hk, hk.1.2⟩ : _ ∧ k_ ≠ gb359))) (fun k_ hk => (⟨hk, hk.1.2⟩ : _ ∧ k_ ≠ gb360))) (fun _ hk => N1 (hk.2) (N1 (hk.1.2) (N0)))) (fun _ hk => ⟨⟨hk.1.1.1.1.1, ⟨hk.1.1.1.1.2.2, ⟨hk.1.1.1.2, hk.1.1.2⟩⟩⟩, hk.1.1.1.1.2.1⟩)) hg hat); replace BK342 := Aside0.mk (blk_grown (g := gb342) (o := .cells #[.int .i64 x343000_2, .slice Ao19 x343001_2.length co19, .int .i64 x343002_2] 27 (0, 0)) (BM BK342.out (N1 NB342_360.out (N1 NB342_359.out N0))) hg (Kd.R_ne HO_8.out BK342.out (by decide))); replace HO348 := Aside0.mk (Kd.V_afterv (ok := (fun k_ => some k_ ≠ (u7 : Value).ownBlock ∧ k_ ≠ gb342 ∧ k_ ≠ gb359 ∧ k_ ≠ gb360)) (Kd.V_mono (Kd.V_ms (gs := [gb360, gb359]) (Kd.V_mono (Kd.V_mono HO348.out (fun k_ hk => (⟨hk, hk.1.2⟩ : _ ∧ k_ ≠ gb359))) (fun k_ hk => (⟨hk, hk.1.2⟩ : _ ∧ k_ ≠ gb360))) (fun _ hk => N1 (hk.2) (N1 (hk.1.2) (N0)))) (fun _ hk => ⟨⟨hk.1.1.1.1.1, ⟨hk.1.1.1.1.2.2, ⟨hk.1.1.1.2, hk.1.1.2⟩⟩⟩, hk.1.1.1.1.2.1⟩)) hg hat); replace BK359 := Aside0.mk (blk_grown (g := gb359) (o := .cells #[.int .i64 t345, .slice Ao26 t346.length co26, .int .i64 t349] 27 (0, 0)) (by (with_reducible repeat (first | refine blk_drewN ?_ _ | refine blk_drew ?_ | refine blk_alloc ?_ _)); refine blk_far ?_ NB359_360.out _; (with_reducible repeat (first | refine blk_drewN ?_ _ | refine blk_drew ?_ | refine blk_alloc ?_ _)); refine blk_far ?_ NB359_360.out _; (with_reducible repeat (first | refine blk_drewN ?_ _ | refine blk_drew ?_ | refine blk_alloc ?_ _)); refine blk_far ?_ NB359_360.out _; (with_reducible repeat (first | refine blk_drewN ?_ _ | refine blk_drew ?_ | refine blk_alloc ?_ _)); refine blk_far ?_ NB359_360.out _; (with_reducible repeat (first | refine blk_drewN ?_ _ | refine blk_drew ?_ | refine blk_alloc ?_ _)); refine blk_far ?_ NB359_360.out _; (with_reducible repeat (first | refine blk_drewN ?_ _ | refine blk_drew ?_ | refine blk_alloc ?_ _)); refine blk_far ?_ NB359_360.out _; (with_reducible repeat (first | refine blk_drewN ?_ _ | refine blk_drew ?_ | refine blk_alloc ?_ _)); refine blk_far ?_ NB359_360.out _; (with_reducible repeat (first | refine blk_drewN ?_ _ | refine blk_drew ?_ | refine blk_alloc ?_ _)); refine blk_far ?_ NB359_360.out _; exact BP BK359.out (by rfl)) hg (Kd.R_ne HO_8.out BK359.out (by decide))); replace BK360 := Aside0.mk (blk_grown (g := gb360) (o := .cells #[.int .i64 t350, .int .i64 t351, .int .i64 t352, .int .i64 t353, .int .i64 t354, .int .i64 t355, .string t356, .int .i64 t357] 36 (0, 0)) (by (with_reducible repeat (first | refine blk_drewN ?_ _ | refine blk_drew ?_ | refine blk_alloc ?_ _)); refine blk_put (cs := #[.int .i64 t350, .int .i64 t351, .int .i64 t352, .int .i64 t353, .int .i64 t354, .int .i64 t355, .string t356, .int .i64 0]) ?_ 7 _ rfl; (with_reducible repeat (first | refine blk_drewN ?_ _ | refine blk_drew ?_ | refine blk_alloc ?_ _)); refine blk_put (cs := #[.int .i64 t350, .int .i64 t351, .int .i64 t352, .int .i64 t353, .int .i64 t354, .int .i64 t355, .string (⟨#[]⟩ : ByteArray), .int .i64 0]) ?_ 6 _ rfl; (with_reducible repeat (first | refine blk_drewN ?_ _ | refine blk_drew ?_ | refine blk_alloc ?_ _)); refine blk_put (cs := #[.int .i64 t350, .int .i64 t351, .int .i64 t352, .int .i64 t353, .int .i64 t354, .int .i64 0, .string (⟨#[]⟩ : ByteArray), .int .i64 0]) ?_ 5 _ rfl; (with_reducible repeat (first | refine blk_drewN ?_ _ | refine blk_drew ?_ | refine blk_alloc ?_ _)); refine blk_put (cs := #[.int .i64 t350, .int .i64 t351, .int .i64 t352, .int .i64 t353, .int .i64 0, .int .i64 0, .string (⟨#[]⟩ : ByteArray), .int .i64 0]) ?_ 4 _ rfl; (with_reducible repeat (first | refine blk_drewN ?_ _ | refine blk_drew ?_ | refine blk_alloc ?_ _)); refine blk_put (cs := #[.int .i64 t350, .int .i64 t351, .int .i64 t352, .int .i64 0, .int .i64 0, .int .i64 0, .string (⟨#[]⟩ : ByteArray), .int .i64 0]) ?_ 3 _ rfl; (with_reducible repeat (first | refine blk_drewN ?_ _ | refine blk_drew ?_ | refine blk_alloc ?_ _)); refine blk_put (cs := #[.int .i64 t350, .int .i64 t351, .int .i64 0, .int .i64 0, .int .i64 0, .int .i64 0, .string (⟨#[]⟩ : ByteArray), .int .i64 0]) ?_ 2 _ rfl; (with_reducible repeat (first | refine blk_drewN ?_ _ | refine blk_drew ?_ | refine blk_alloc ?_ _)); refine blk_put (cs := #[.int .i64 t350, .int .i64 0, .int .i64 0, .int .i64 0, .int .i64 0, .int .i64 0, .string (⟨#[]⟩ : ByteArray), .int .i64 0]) ?_ 1 _ rfl; (with_reducible repeat (first | refine blk_drewN ?_ _ | refine blk_drew ?_ | refine blk_alloc ?_ _)); refine blk_put (cs := #[.int .i64 0, .int .i64 0, .int .i64 0, .int .i64 0, .int .i64 0, .int .i64 0, .string (⟨#[]⟩ : ByteArray), .int .i64 0]) ?_ 0 _ rfl; exact BF BK360.out NB360_359.out) hg (Kd.R_away HO_8.out (fun _ hk => hk.2))); replace HB := Aside0.mk (hb); have HO363 := Aside0.mk (ho); clear HO_8; clear ho hb hg hat))
                    go_meet
                    case rel => exact ⟨_, (y361), H', ⟨by have := HJ3.out; have := HK2.out; first | omega | exact Nat.le_refl _⟩, ⟨by (with_reducible repeat (first | apply Kd.R_alloc | apply Kd.R_drewN | apply Kd.R_drew)); exact Kd.R_mono HO_7.out (fun _ hk => ⟨hk.2, hk.1⟩)⟩, ⟨by (with_reducible repeat (first | apply Kd.R_alloc | apply Kd.R_drewN | apply Kd.R_drew)); exact HO363.out⟩, ⟨by (with_reducible repeat (first | apply Kd.V_alloc | apply Kd.V_drewN | apply Kd.V_drew)); exact Kd.V_mono HO_343001.out (fun _ hk => ⟨hk.1.1, ⟨hk.2, ⟨hk.1.2.1, ⟨hk.1.2.2.1, hk.1.2.2.2⟩⟩⟩⟩)⟩, ⟨by (with_reducible repeat (first | apply Kd.V_alloc | apply Kd.V_drewN | apply Kd.V_drew)); exact Kd.V_mono HO348.out (fun _ hk => ⟨hk.1.1, ⟨hk.2, ⟨hk.1.2.1, ⟨hk.1.2.2.1, hk.1.2.2.2⟩⟩⟩⟩)⟩, ⟨by (with_reducible repeat (first | refine blk_drewN ?_ _ | refine blk_drew ?_ | refine blk_alloc ?_ _)); exact BK342.out⟩, ⟨by (with_reducible repeat (first | refine blk_drewN ?_ _ | refine blk_drew ?_ | refine blk_alloc ?_ _)); exact BK359.out⟩, ⟨by (with_reducible repeat (first | refine blk_drewN ?_ _ | refine blk_drew ?_ | refine blk_alloc ?_ _)); exact BK360.out⟩, ⟨LG HB.out (G1 GE342.out (G1 GE359.out (G1 GE360.out G0)))⟩⟩
                  · rw [if_neg c29] at H
                    have c29b0 : (t358 == 0) = false := beq_eq_false_iff_ne.mpr c29
                    have c29b1 : (t358 != 0) = true := bne_iff_ne.mpr c29
                    (first | rw [c29b0] | (simp only [i64_w, i32_w]; rw [c29b0]) | skip)
                    have H' := Aside0.mk H
                    clear H
                    go_wp2
                    go_meet
                    case rel => exact ⟨_, (x8_2), H', ⟨by have := HJ3.out; have := HK2.out; first | omega | exact Nat.le_refl _⟩, ⟨by (with_reducible repeat (first | apply Kd.R_alloc | apply Kd.R_drewN | apply Kd.R_drew)); exact Kd.R_mono (Kd.R_ms (gs := [gb360, gb359]) (Kd.R_mono (Kd.R_types HO_7.out BK359.out (by decide)) (fun k_ hk => (⟨hk, hk.1.2⟩ : _ ∧ k_ ≠ gb360))) (fun _ hk => N1 (hk.2) (N1 (hk.1.2) (N0)))) (fun _ hk => ⟨hk.1.1.1, hk.1.1.2⟩)⟩, ⟨by (with_reducible repeat (first | apply Kd.R_alloc | apply Kd.R_drewN | apply Kd.R_drew)); exact Kd.R_mono (Kd.R_ms (gs := [gb360, gb359]) (Kd.R_mono (Kd.R_types HO_8.out BK359.out (by decide)) (fun k_ hk => (⟨hk, hk.1.2⟩ : _ ∧ k_ ≠ gb360))) (fun _ hk => N1 (hk.2) (N1 (hk.1.2) (N0)))) (fun _ hk => ⟨hk.1.1.1, hk.1.1.2⟩)⟩, ⟨by (with_reducible repeat (first | apply Kd.V_alloc | apply Kd.V_drewN | apply Kd.V_drew)); exact Kd.V_mono (Kd.V_ms (gs := [gb360, gb359]) (Kd.V_mono (Kd.V_mono HO_343001.out (fun k_ hk => (⟨hk, hk.1.2⟩ : _ ∧ k_ ≠ gb359))) (fun k_ hk => (⟨hk, hk.1.2⟩ : _ ∧ k_ ≠ gb360))) (fun _ hk => N1 (hk.2) (N1 (hk.1.2) (N0)))) (fun _ hk => ⟨hk.1.1.1.1.1, ⟨hk.1.1.1.1.2.1, ⟨hk.1.1.1.1.2.2, ⟨hk.1.1.1.2, hk.1.1.2⟩⟩⟩⟩)⟩, ⟨by (with_reducible repeat (first | apply Kd.V_alloc | apply Kd.V_drewN | apply Kd.V_drew)); exact Kd.V_mono (Kd.V_ms (gs := [gb360, gb359]) (Kd.V_mono (Kd.V_mono HO348.out (fun k_ hk => (⟨hk, hk.1.2⟩ : _ ∧ k_ ≠ gb359))) (fun k_ hk => (⟨hk, hk.1.2⟩ : _ ∧ k_ ≠ gb360))) (fun _ hk => N1 (hk.2) (N1 (hk.1.2) (N0)))) (fun _ hk => ⟨hk.1.1.1.1.1, ⟨hk.1.1.1.1.2.1, ⟨hk.1.1.1.1.2.2, ⟨hk.1.1.1.2, hk.1.1.2⟩⟩⟩⟩)⟩, ⟨by exact BM BK342.out (N1 NB342_360.out (N1 NB342_359.out N0))⟩, ⟨by (with_reducible repeat (first | refine blk_drewN ?_ _ | refine blk_drew ?_ | refine blk_alloc ?_ _)); refine blk_far ?_ NB359_360.out _; (with_reducible repeat (first | refine blk_drewN ?_ _ | refine blk_drew ?_ | refine blk_alloc ?_ _)); refine blk_far ?_ NB359_360.out _; (with_reducible repeat (first | refine blk_drewN ?_ _ | refine blk_drew ?_ | refine blk_alloc ?_ _)); refine blk_far ?_ NB359_360.out _; (with_reducible repeat (first | refine blk_drewN ?_ _ | refine blk_drew ?_ | refine blk_alloc ?_ _)); refine blk_far ?_ NB359_360.out _; (with_reducible repeat (first | refine blk_drewN ?_ _ | refine blk_drew ?_ | refine blk_alloc ?_ _)); refine blk_far ?_ NB359_360.out _; (with_reducible repeat (first | refine blk_drewN ?_ _ | refine blk_drew ?_ | refine blk_alloc ?_ _)); refine blk_far ?_ NB359_360.out _; (with_reducible repeat (first | refine blk_drewN ?_ _ | refine blk_drew ?_ | refine blk_alloc ?_ _)); refine blk_far ?_ NB359_360.out _; (with_reducible repeat (first | refine blk_drewN ?_ _ | refine blk_drew ?_ | refine blk_alloc ?_ _)); refine blk_far ?_ NB359_360.out _; exact BP BK359.out (by rfl)⟩, ⟨by (with_reducible repeat (first | refine blk_drewN ?_ _ | refine blk_drew ?_ | refine blk_alloc ?_ _)); refine blk_put (cs := #[.int .i64 t350, .int .i64 t351, .int .i64 t352, .int .i64 t353, .int .i64 t354, .int .i64 t355, .string t356, .int .i64 0]) ?_ 7 _ rfl; (with_reducible repeat (first | refine blk_drewN ?_ _ | refine blk_drew ?_ | refine blk_alloc ?_ _)); refine blk_put (cs := #[.int .i64 t350, .int .i64 t351, .int .i64 t352, .int .i64 t353, .int .i64 t354, .int .i64 t355, .string (⟨#[]⟩ : ByteArray), .int .i64 0]) ?_ 6 _ rfl; (with_reducible repeat (first | refine blk_drewN ?_ _ | refine blk_drew ?_ | refine blk_alloc ?_ _)); refine blk_put (cs := #[.int .i64 t350, .int .i64 t351, .int .i64 t352, .int .i64 t353, .int .i64 t354, .int .i64 0, .string (⟨#[]⟩ : ByteArray), .int .i64 0]) ?_ 5 _ rfl; (with_reducible repeat (first | refine blk_drewN ?_ _ | refine blk_drew ?_ | refine blk_alloc ?_ _)); refine blk_put (cs := #[.int .i64 t350, .int .i64 t351, .int .i64 t352, .int .i64 t353, .int .i64 0, .int .i64 0, .string (⟨#[]⟩ : ByteArray), .int .i64 0]) ?_ 4 _ rfl; (with_reducible repeat (first | refine blk_drewN ?_ _ | refine blk_drew ?_ | refine blk_alloc ?_ _)); refine blk_put (cs := #[.int .i64 t350, .int .i64 t351, .int .i64 t352, .int .i64 0, .int .i64 0, .int .i64 0, .string (⟨#[]⟩ : ByteArray), .int .i64 0]) ?_ 3 _ rfl; (with_reducible repeat (first | refine blk_drewN ?_ _ | refine blk_drew ?_ | refine blk_alloc ?_ _)); refine blk_put (cs := #[.int .i64 t350, .int .i64 t351, .int .i64 0, .int .i64 0, .int .i64 0, .int .i64 0, .string (⟨#[]⟩ : ByteArray), .int .i64 0]) ?_ 2 _ rfl; (with_reducible repeat (first | refine blk_drewN ?_ _ | refine blk_drew ?_ | refine blk_alloc ?_ _)); refine blk_put (cs := #[.int .i64 t350, .int .i64 0, .int .i64 0, .int .i64 0, .int .i64 0, .int .i64 0, .string (⟨#[]⟩ : ByteArray), .int .i64 0]) ?_ 1 _ rfl; (with_reducible repeat (first | refine blk_drewN ?_ _ | refine blk_drew ?_ | refine blk_alloc ?_ _)); refine blk_put (cs := #[.int .i64 0, .int .i64 0, .int .i64 0, .int .i64 0, .int .i64 0, .int .i64 0, .string (⟨#[]⟩ : ByteArray), .int .i64 0]) ?_ 0 _ rfl; exact BF BK360.out NB360_359.out⟩, ⟨LG HB.out (G1 GE342.out (G1 GE359.out (G1 GE360.out G0)))⟩⟩
                case rest =>
                  clear HC17
                  try clear c1
                  try clear c2
                  try clear p2
                  try clear c3
                  try clear p3
                  try clear q3
                  try clear hx3
                  try clear c4
                  try clear c9
                  try clear c9b0
                  try clear c9b1
                  try clear c10
                  try clear c11
                  try clear c13
                  try clear c13b0
                  try clear c14
                  try clear c14b0
                  try clear c15
                  try clear c15b0
                  try clear c15b1
                  try clear c23
                  try clear c24
                  try clear c27
                  try clear c29
                  try clear c29b0
                  try clear c29b1
                  try clear c30
                  try clear c31
                  try clear c32
                  try clear p34
                  try clear q34
                  try clear hx34
                  try clear hcz18_0
                  try clear hcz18_1
                  try clear hcz18_2
                  try clear hcz25_0
                  try clear hcz25_1
                  try clear hcz25_2
                  try clear hcz28_0
                  try clear hcz28_1
                  try clear hcz28_2
                  try clear hcz28_3
                  try clear hcz28_4
                  try clear hcz28_5
                  try clear hcz28_6
                  try clear hcz28_7
                  try clear hcz33_0
                  try clear hcz33_1
                  try clear hcz33_2
                  try clear hcz33_3
                  try clear hcz33_4
                  try clear hcz33_5
                  try clear hcz33_6
                  try clear hcz33_7
                  try clear hcz7_0
                  try clear hcz7_1
                  try clear hcz7_2
                  try clear hfz18_0
                  try clear hfz18_1
                  try clear hfz18_2
                  try clear hfz25_0
                  try clear hfz25_1
                  try clear hfz25_2
                  try clear hfz28_0
                  try clear hfz28_1
                  try clear hfz28_2
                  try clear hfz28_3
                  try clear hfz28_4
                  try clear hfz28_5
                  try clear hfz28_6
                  try clear hfz28_7
                  try clear hfz33_0
                  try clear hfz33_1
                  try clear hfz33_2
                  try clear hfz33_3
                  try clear hfz33_4
                  try clear hfz33_5
                  try clear hfz33_6
                  try clear hfz33_7
                  try clear hfz7_0
                  try clear hfz7_1
                  try clear hfz7_2
                  try clear hx344_0
                  try clear p2
                  try clear p344
                  try clear q344
                  obtain ⟨kq, x8_16, HA, HJ16, HO_7, HO_8, HO_343001, HO_360001, BK342, BK359, BK360, HB⟩ := hcut
                  cases kq with
                  | zero => exact absurd HA.out (by simp [hopperlaw14_FeedCovers.j2])
                  | succ kj16 =>
                    have H := HA.out
                    clear HA
                    simp only [hopperlaw14_FeedCovers.j2] at H
                    have HC35 := Aside0.mk H
                    clear H
                    go_upto_region 14 with (fail)
                    go_cut [59] (fun v59 wc => ∃ (kq : Nat) (x59_34 : Bool), v59 = .bool x59_34 ∧ Aside0 (hopperlaw14_FeedCovers.j3 kq a0 l1 x7_2 x8_16 x9_2 x10_2 x59_34 t345 t346 t349 = some true) ∧ Aside0 (kq ≤ kj16) ∧ Aside0 (Kd.R k36 36 wc w.heap.size (fun k_ => some k_ ≠ (u8 : Value).ownBlock ∧ k_ ≠ gb360) u7 x7_2) ∧ Aside0 (Kd.R k36 36 wc w.heap.size (fun k_ => some k_ ≠ (u7 : Value).ownBlock ∧ k_ ≠ gb360) u8 x8_16) ∧ Aside0 (Kd.V k36 36 wc w.heap.size (fun k_ => some k_ ≠ (u7 : Value).ownBlock ∧ some k_ ≠ (u8 : Value).ownBlock ∧ k_ ≠ gb342 ∧ k_ ≠ gb359 ∧ k_ ≠ gb360) (.slice Ao19 x343001_2.length co19) x343001_2) ∧ Aside0 (Kd.V k36 36 wc w.heap.size (fun k_ => some k_ ≠ (u7 : Value).ownBlock ∧ some k_ ≠ (u8 : Value).ownBlock ∧ k_ ≠ gb342 ∧ k_ ≠ gb359 ∧ k_ ≠ gb360) (.slice Ao26 t346.length co26) t346) ∧ Aside0 (wc.heap[gb342]? = some (.cells #[.int .i64 x343000_2, (.slice Ao19 x343001_2.length co19), .int .i64 x343002_2] 27 (0, 0))) ∧ Aside0 (wc.heap[gb359]? = some (.cells #[.int .i64 t345, (.slice Ao26 t346.length co26), .int .i64 t349] 27 (0, 0))) ∧ Aside0 (wc.heap[gb360]? = some (.cells #[.int .i64 t350, .int .i64 t351, .int .i64 t352, .int .i64 t353, .int .i64 t354, .int .i64 t355, .string t356, .int .i64 t357] 36 (0, 0))) ∧ Aside0 (Below w.heap.size w wc))
                    case first =>
                      have H := HC35.out
                      clear HC35
                      by_cases c36 : t358 = 0
                      · rw [if_pos c36] at H
                        have c36b0 : (t358 == 0) = true := beq_iff_eq.mpr c36
                        have c36b1 : (t358 != 0) = false := bne_eq_false_iff_eq.mpr c36
                        clear c36
                        (first | rw [c36b0] | (simp only [i64_w, i32_w]; rw [c36b0]) | skip)
                        have H' := Aside0.mk H
                        clear H
                        go_wp2
                        go_meet
                        case rel => exact ⟨_, (false), (by first | (rw [HR_.out]; done) | rfl | (rw [HR_.out]; rfl) | (simp [HR_.out]; done) | (simp; done) | (simp [*]; done)), H', ⟨by have := HJ3.out; have := HK2.out; have := HJ16.out; first | omega | exact Nat.le_refl _⟩, ⟨by (with_reducible repeat (first | apply Kd.R_alloc | apply Kd.R_drewN | apply Kd.R_drew)); exact HO_7.out⟩, ⟨by (with_reducible repeat (first | apply Kd.R_alloc | apply Kd.R_drewN | apply Kd.R_drew)); exact HO_8.out⟩, ⟨by (with_reducible repeat (first | apply Kd.V_alloc | apply Kd.V_drewN | apply Kd.V_drew)); exact HO_343001.out⟩, ⟨by (with_reducible repeat (first | apply Kd.V_alloc | apply Kd.V_drewN | apply Kd.V_drew)); exact HO_360001.out⟩, ⟨by (with_reducible repeat (first | refine blk_drewN ?_ _ | refine blk_drew ?_ | refine blk_alloc ?_ _)); exact BK342.out⟩, ⟨by (with_reducible repeat (first | refine blk_drewN ?_ _ | refine blk_drew ?_ | refine blk_alloc ?_ _)); exact BK359.out⟩, ⟨by (with_reducible repeat (first | refine blk_drewN ?_ _ | refine blk_drew ?_ | refine blk_alloc ?_ _)); exact BK360.out⟩, ⟨LG HB.out (G1 GE342.out (G1 GE359.out (G1 GE360.out G0)))⟩⟩
                      · rw [if_neg c36] at H
                        have c36b0 : (t358 == 0) = false := beq_eq_false_iff_ne.mpr c36
                        have c36b1 : (t358 != 0) = true := bne_iff_ne.mpr c36
                        (first | rw [c36b0] | (simp only [i64_w, i32_w]; rw [c36b0]) | skip)
                        have H' := Aside0.mk H
                        clear H
                        have hnb37 := NB342_359.out
                        have hnc37 := NB359_342.out
                        have hnb38 := NB342_360.out
                        have hnc38 := NB360_342.out
                        have hcz39_0 : wc.cell? ⟨gb342, 0, none⟩ = some (.int .i64 x343000_2) := (blk_cell BK342.out 0).trans rfl
                        have hcz39_1 : wc.cell? ⟨gb342, 1, none⟩ = some (.slice Ao19 x343001_2.length co19) := (blk_cell BK342.out 1).trans rfl
                        have hcz39_2 : wc.cell? ⟨gb342, 2, none⟩ = some (.int .i64 x343002_2) := (blk_cell BK342.out 2).trans rfl
                        have hfz39_0 := blk_frozen BK342.out 0
                        have hfz39_1 := blk_frozen BK342.out 1
                        have hfz39_2 := blk_frozen BK342.out 2
                        go_wp2
                        go_meet
                        case rel => exact ⟨_, (decide ((x343001_2.length : Int) > 0)), (by first | (rw [HR_.out]; done) | rfl | (rw [HR_.out]; rfl) | (simp [HR_.out]; done) | (simp; done) | (simp [*]; done)), H', ⟨by have := HJ3.out; have := HK2.out; have := HJ16.out; first | omega | exact Nat.le_refl _⟩, ⟨by (with_reducible repeat (first | apply Kd.R_alloc | apply Kd.R_drewN | apply Kd.R_drew)); exact HO_7.out⟩, ⟨by (with_reducible repeat (first | apply Kd.R_alloc | apply Kd.R_drewN | apply Kd.R_drew)); exact HO_8.out⟩, ⟨by (with_reducible repeat (first | apply Kd.V_alloc | apply Kd.V_drewN | apply Kd.V_drew)); exact HO_343001.out⟩, ⟨by (with_reducible repeat (first | apply Kd.V_alloc | apply Kd.V_drewN | apply Kd.V_drew)); exact HO_360001.out⟩, ⟨by (with_reducible repeat (first | refine blk_drewN ?_ _ | refine blk_drew ?_ | refine blk_alloc ?_ _)); exact BK342.out⟩, ⟨by (with_reducible repeat (first | refine blk_drewN ?_ _ | refine blk_drew ?_ | refine blk_alloc ?_ _)); exact BK359.out⟩, ⟨by (with_reducible repeat (first | refine blk_drewN ?_ _ | refine blk_drew ?_ | refine blk_alloc ?_ _)); exact BK360.out⟩, ⟨LG HB.out (G1 GE342.out (G1 GE359.out (G1 GE360.out G0)))⟩⟩
                    case rest =>
                      clear HC35
                      try clear c1
                      try clear c2
                      try clear p2
                      try clear c3
                      try clear p3
                      try clear q3
                      try clear hx3
                      try clear c4
                      try clear c9
                      try clear c9b0
                      try clear c9b1
                      try clear c10
                      try clear c11
                      try clear c13
                      try clear c13b0
                      try clear c14
                      try clear c14b0
                      try clear c15
                      try clear c15b0
                      try clear c15b1
                      try clear c23
                      try clear c24
                      try clear c27
                      try clear c29
                      try clear c29b0
                      try clear c29b1
                      try clear c30
                      try clear c31
                      try clear c32
                      try clear p34
                      try clear q34
                      try clear hx34
                      try clear c36
                      try clear c36b0
                      try clear c36b1
                      try clear c37
                      try clear c38
                      try clear hcz18_0
                      try clear hcz18_1
                      try clear hcz18_2
                      try clear hcz25_0
                      try clear hcz25_1
                      try clear hcz25_2
                      try clear hcz28_0
                      try clear hcz28_1
                      try clear hcz28_2
                      try clear hcz28_3
                      try clear hcz28_4
                      try clear hcz28_5
                      try clear hcz28_6
                      try clear hcz28_7
                      try clear hcz33_0
                      try clear hcz33_1
                      try clear hcz33_2
                      try clear hcz33_3
                      try clear hcz33_4
                      try clear hcz33_5
                      try clear hcz33_6
                      try clear hcz33_7
                      try clear hcz39_0
                      try clear hcz39_1
                      try clear hcz39_2
                      try clear hcz7_0
                      try clear hcz7_1
                      try clear hcz7_2
                      try clear hfz18_0
                      try clear hfz18_1
                      try clear hfz18_2
                      try clear hfz25_0
                      try clear hfz25_1
                      try clear hfz25_2
                      try clear hfz28_0
                      try clear hfz28_1
                      try clear hfz28_2
                      try clear hfz28_3
                      try clear hfz28_4
                      try clear hfz28_5
                      try clear hfz28_6
                      try clear hfz28_7
                      try clear hfz33_0
                      try clear hfz33_1
                      try clear hfz33_2
                      try clear hfz33_3
                      try clear hfz33_4
                      try clear hfz33_5
                      try clear hfz33_6
                      try clear hfz33_7
                      try clear hfz39_0
                      try clear hfz39_1
                      try clear hfz39_2
                      try clear hfz7_0
                      try clear hfz7_1
                      try clear hfz7_2
                      try clear hx344_0
                      try clear p2
                      try clear p3
                      try clear p34
                      try clear p344
                      try clear q3
                      try clear q34
                      try clear q344
                      obtain ⟨kq, x59_34, rfl, HA, HJ34, HO_7, HO_8, HO_343001, HO_360001, BK342, BK359, BK360, HB⟩ := hcut
                      cases kq with
                      | zero => exact absurd HA.out (by simp [hopperlaw14_FeedCovers.j3])
                      | succ kj34 =>
                        have H := HA.out
                        clear HA
                        simp only [hopperlaw14_FeedCovers.j3] at H
                        by_cases c40 : x59_34 = true
                        · subst c40
                          have H1 : (some false) = some true := by rw [if_pos rfl] at H; exact H
                          clear H
                          have H := H1
                          clear H1
                          exact absurd H (by simp)
                        · replace c40 := Bool.eq_false_iff.mpr c40
                          subst c40
                          have H1 : (hopperlaw14_FeedCovers.l0 kj34 a0 l1 x7_2 x8_16 x9_2 (wrap64 (x10_2 + 1)) t345 t346 t349) = some true := by rw [if_neg (show ¬ (false = true) by decide)] at H; exact H
                          clear H
                          have H := H1
                          clear H1
                          have H' := Aside0.mk H
                          clear H
                          have hnb41 := NB359_342.out
                          have hnc41 := NB342_359.out
                          have hnb42 := NB359_360.out
                          have hnc42 := NB360_359.out
                          have hcz43_0 : wc.cell? ⟨gb359, 0, none⟩ = some (.int .i64 t345) := (blk_cell BK359.out 0).trans rfl
                          have hcz43_1 : wc.cell? ⟨gb359, 1, none⟩ = some (.slice Ao26 t346.length co26) := (blk_cell BK359.out 1).trans rfl
                          have hcz43_2 : wc.cell? ⟨gb359, 2, none⟩ = some (.int .i64 t349) := (blk_cell BK359.out 2).trans rfl
                          have hfz43_0 := blk_frozen BK359.out 0
                          have hfz43_1 := blk_frozen BK359.out 1
                          have hfz43_2 := blk_frozen BK359.out 2
                          have hnb44 := NB342_360.out
                          have hnc44 := NB360_342.out
                          have hcz45_0 : wc.cell? ⟨gb342, 0, none⟩ = some (.int .i64 x343000_2) := (blk_cell BK342.out 0).trans rfl
                          have hcz45_1 : wc.cell? ⟨gb342, 1, none⟩ = some (.slice Ao19 x343001_2.length co19) := (blk_cell BK342.out 1).trans rfl
                          have hcz45_2 : wc.cell? ⟨gb342, 2, none⟩ = some (.int .i64 x343002_2) := (blk_cell BK342.out 2).trans rfl
                          have hfz45_0 := blk_frozen BK342.out 0
                          have hfz45_1 := blk_frozen BK342.out 1
                          have hfz45_2 := blk_frozen BK342.out 2
                          go_wp2
                          go_roundg kj34
                          case measure => have := HJ3.out; have := HK2.out; have := HJ16.out; have := HJ34.out; omega
                          case rel => exact ⟨(x7_2), (x8_16), (x9_2), (wrap64 (x10_2 + 1)), (t345), (t346), (t349), (.slice Ao26 t346.length co26), (by first | (rw [HR_.out]; done) | rfl | (rw [HR_.out]; rfl) | (simp [HR_.out]; done) | (simp; done) | (simp [*]; done)), (by first | (rw [HR_.out]; done) | rfl | (rw [HR_.out]; rfl) | (simp [HR_.out]; done) | (simp; done) | (simp [*]; done)), H', ⟨by have := HJ3.out; have := HK2.out; have := HJ16.out; have := HJ34.out; omega⟩, ⟨by (with_reducible repeat (first | apply Kd.R_alloc | apply Kd.R_drewN | apply Kd.R_drew)); exact Kd.R_mono (Kd.R_mv (g := gb342) (Kd.R_types HO_7.out BK342.out (by decide)) (fun _ hk => hk.2)) (fun _ hk => hk.1.1)⟩, ⟨by (with_reducible repeat (first | apply Kd.R_alloc | apply Kd.R_drewN | apply Kd.R_drew)); exact Kd.R_mono (Kd.R_mv (g := gb342) (Kd.R_types HO_8.out BK342.out (by decide)) (fun _ hk => hk.2)) (fun _ hk => hk.1.1)⟩, ⟨by (with_reducible repeat (first | apply Kd.V_alloc | apply Kd.V_drewN | apply Kd.V_drew)); exact Kd.V_mono (Kd.V_mv (g := gb342) (Kd.V_mono HO_360001.out (fun k_ hk => (⟨hk, hk.2.2.1⟩ : _ ∧ k_ ≠ gb342))) (fun _ hk => hk.2)) (fun _ hk => ⟨hk.1.1, ⟨hk.1.2.1, hk.1.2.2.1⟩⟩)⟩, ⟨by exact BP BK342.out (by rfl)⟩, ⟨LG HB.out (G1 GE342.out (G1 GE359.out (G1 GE360.out G0)))⟩⟩
              · rw [if_neg c15] at H
                have c15b0 : ((rd l1 x10_2) == 0) = false := beq_eq_false_iff_ne.mpr c15
                have c15b1 : ((rd l1 x10_2) != 0) = true := bne_iff_ne.mpr c15
                replace H := Option.bind_eq_some_iff.mp H
                obtain ⟨⟨t365, t366, t367, t368, t369, t370, t371, t372⟩, A460, H⟩ := H
                try dsimp only at H
                have A46 := Aside0.mk A460
                clear A460
                by_cases c47 : x7_2.length < 1954687338268
                rotate_left
                · rw [if_neg c47] at H
                  exact absurd H (by simp)
                rw [if_pos c47] at H
                have LMc47 := Aside0.mk c47
                clear c47
                obtain ⟨y373, hy373⟩ : ∃ y_ : List (S36), y_ = (x7_2 ++ [(⟨t365, (⟨t366, t367, t368, t369, t370, t371⟩ : S34), t372⟩ : S36)]) := ⟨_, rfl⟩
                replace H : ((hopperlaw14_event.f (rd l1 x10_2)).bind fun bt377 => ((feed_Tell.f k2 x343000_2 x343001_2 x343002_2 (([(⟨bt377.1, (⟨bt377.2.1, bt377.2.2.1, bt377.2.2.2.1, bt377.2.2.2.2.1, bt377.2.2.2.2.2.1, bt377.2.2.2.2.2.2.1⟩ : S34), bt377.2.2.2.2.2.2.2⟩ : S36)] : List (S36)))).bind fun bt388 => (if x9_2 = true then (hopperlaw14_FeedCovers.l0 k2 a0 l1 y373 x8_2 true (wrap64 (x10_2 + 1)) bt388.1 bt388.2.1 bt388.2.2) else (hopperlaw14_FeedCovers.l0 k2 a0 l1 y373 x8_2 (decide (bt388.2.2 > 0)) (wrap64 (x10_2 + 1)) bt388.1 bt388.2.1 bt388.2.2)))) = some true := by first | (rw [hy373]; with_reducible exact H) | (have H2_ := (Option.bind_some _ _).symm.trans H; rw [hy373]; with_reducible exact H2_) | (have H2_ := (Option.bind_some _ _).symm.trans H; with_reducible exact H2_) | with_reducible exact H | (rw [hy373]; exact H) | exact H
                have Ny373 := Aside0.mk hy373
                clear hy373
                replace H := Option.bind_eq_some_iff.mp H
                obtain ⟨⟨t377, t378, t379, t380, t381, t382, t383, t384⟩, A480, H⟩ := H
                try dsimp only at H
                have A48 := Aside0.mk A480
                clear A480
                obtain ⟨y385, hy385⟩ : ∃ y_ : List (S36), y_ = (([(⟨t377, (⟨t378, t379, t380, t381, t382, t383⟩ : S34), t384⟩ : S36)] : List (S36))) := ⟨_, rfl⟩
                replace H : ((feed_Tell.f k2 x343000_2 x343001_2 x343002_2 y385).bind fun bt388 => (if x9_2 = true then (hopperlaw14_FeedCovers.l0 k2 a0 l1 y373 x8_2 true (wrap64 (x10_2 + 1)) bt388.1 bt388.2.1 bt388.2.2) else (hopperlaw14_FeedCovers.l0 k2 a0 l1 y373 x8_2 (decide (bt388.2.2 > 0)) (wrap64 (x10_2 + 1)) bt388.1 bt388.2.1 bt388.2.2))) = some true := by first | (rw [hy385]; with_reducible exact H) | (have H2_ := (Option.bind_some _ _).symm.trans H; rw [hy385]; with_reducible exact H2_) | (have H2_ := (Option.bind_some _ _).symm.trans H; with_reducible exact H2_) | with_reducible exact H | (rw [hy385]; exact H) | exact H
                have Ny385 := Aside0.mk hy385
                clear hy385
                replace H := Option.bind_eq_some_iff.mp H
                obtain ⟨⟨t388, t389, t392⟩, A490, H⟩ := H
                try dsimp only at H
                have A49 := Aside0.mk A490
                clear A490
                by_cases c50 : x9_2 = true
                · subst c50
                  have H1 : (hopperlaw14_FeedCovers.l0 k2 a0 l1 y373 x8_2 true (wrap64 (x10_2 + 1)) t388 t389 t392) = some true := by rw [if_pos rfl] at H; exact H
                  clear H
                  have H := H1
                  clear H1
                  have H' := Aside0.mk H
                  clear H
                  have p344 : 0 ≤ (x10_2 : Int) := of_decide_eq_true (by first | (with_reducible assumption) | assumption)
                  have q344 : x10_2 < (l1.length : Int) := of_decide_eq_true (by first | (with_reducible assumption) | assumption)
                  obtain ⟨ad344, e344, hx344_0⟩ := Kd.at_int HR1.out x10_2 p344 q344
                  cases e344
                  replace hx344_0 := (HB.out.cell (World.block_lt_of_cell? w _ hx344_0)).trans hx344_0
                  replace p344 := eq_true p344
                  replace q344 := eq_true q344
                  have p364 : 0 ≤ (x10_2 : Int) := of_decide_eq_true (by first | (with_reducible assumption) | assumption)
                  have q364 : x10_2 < (l1.length : Int) := of_decide_eq_true (by first | (with_reducible assumption) | assumption)
                  obtain ⟨ad364, e364, hx364_0⟩ := Kd.at_int HR1.out x10_2 p364 q364
                  obtain rfl : ad344 = ad364 := (by injection e364)
                  replace hx364_0 := (HB.out.cell (World.block_lt_of_cell? w _ hx364_0)).trans hx364_0
                  replace p364 := eq_true p364
                  replace q364 := eq_true q364
                  try go_wp2_with (first | ((with_reducible refine gate_callee (f := 23) rfl ?_); refine goesL_ (some 66) rfl rfl Try.func23 (by kernel_rfl) rfl #[.int .i64 (rd l1 x10_2)] rfl (by (try simp only [List.map_toArray, List.map_cons, List.map_nil]); first | done | rfl | (simp only [List.length_drop, List.length_take]; rfl)) ?_; (with_reducible refine (hopperlaw14_event.calls (rd l1 x10_2) t365 t366 t367 t368 t369 t370 t371 t372 _ A46.out).mono ?_); rintro e w51 ⟨rfl, hb⟩; refine ⟨_, rfl, ?_⟩; replace HO_7 := Aside0.mk (Kd.R_below (Kd.RA HO_7.out) hb); replace HO_8 := Aside0.mk (Kd.R_below (Kd.RA HO_8.out) hb); replace HO_343001 := Aside0.mk (Kd.V_below (Kd.VA HO_343001.out) hb); replace BK342 := Aside0.mk (blk_below (BA BK342.out) hb); replace HB := Aside0.mk (below_step (LA HB.out) hb); (try clear hb); (try clear hb2); (try clear hk); (try clear hi)) | ((with_reducible refine gate_builtin (b := .append) (xs := #[.tmp 61, .tmp 67]) rfl ?_); (try (refine gate_guard (by rfl) ?_; dsimp only)); at_builtin; refine Kd.R_append k36 (w0 := w) w.heap.size rfl (.tmp 61) (.tmp 67) 22 36 (.agg #[(.int .i64 0), (.int .i64 0), (.int .i64 0), (.int .i64 0), (.int .i64 0), (.int .i64 0), (.string ⟨#[]⟩), (.int .i64 0)]) 72 rfl Try.underlying22 info36 rfl (by decide) (by omega) u7 x7_2 (⟨t365, (⟨t366, t367, t368, t369, t370, t371⟩ : S34), t372⟩ : S36) [.int .i64 t365, .int .i64 t366, .int .i64 t367, .int .i64 t368, .int .i64 t369, .int .i64 t370, .string t371, .int .i64 t372] (fun k_ => some k_ ≠ (u8 : Value).ownBlock) (fun _ => False) rfl rfl ?aP (fun _ hk => hk.elim) ?aF ?aO ?aB ?aS ?aL ?_; (case aP => exact k36_mkM _ _ _ (⟨t365, (⟨t366, t367, t368, t369, t370, t371⟩ : S34), t372⟩ : S36)); (case aB => exact (LA HB.out)); (case aF => exact (fun k_ hk => Kd.fresh' (Kd.R_lt (Kd.RA HO_8.out)) k_ hk)); (case aO => exact (Kd.RA HO_7.out)); (case aS => exact (below_size (LA HB.out))); (case aL => have := LMc47.out; omega); intro v374 w52 ho hb hg hat; rw [← Ny373.out] at ho; replace HO_8 := Aside0.mk (Kd.R_after (ok := (fun _ => True)) (Kd.RA (Kd.R_mono HO_8.out (fun _ hk => ⟨trivial, hk⟩))) hg hat); replace HO_343001 := Aside0.mk (Kd.V_afterv (ok := (fun k_ => some k_ ≠ (u8 : Value).ownBlock ∧ k_ ≠ gb342)) (Kd.VA (Kd.V_mono HO_343001.out (fun _ hk => ⟨⟨hk.2.1, hk.2.2⟩, hk.1⟩))) hg hat); replace BK342 := Aside0.mk (blk_grown (g := gb342) (o := .cells #[.int .i64 x343000_2, u343001, .int .i64 x343002_2] 27 (0, 0)) (BA BK342.out) hg (Kd.R_ne HO_7.out BK342.out (by decide))); replace HB := Aside0.mk (hb); have HO375 := Aside0.mk (ho); clear HO_7; clear ho hb hg hat))
                  have n0_ := Aside0.mk (Kd.R_drew HO_8.out)
                  have n1_ := Aside0.mk (Kd.V_drew HO_343001.out)
                  have n2_ := Aside0.mk (Kd.R_drew HO375.out)
                  have n3_ := Aside0.mk (blk_drew BK342.out)
                  have n4_ := Aside0.mk (below_drew1 HB.out)
                  clear HO_8
                  clear HO_343001
                  clear HO375
                  clear BK342
                  clear HB
                  have HO_8 := n0_
                  have HO_343001 := n1_
                  have HO375 := n2_
                  have BK342 := n3_
                  have HB := n4_
                  clear n0_ n1_ n2_ n3_ n4_
                  have p376 : 0 ≤ (x10_2 : Int) := of_decide_eq_true (by first | (with_reducible assumption) | assumption)
                  have q376 : x10_2 < (l1.length : Int) := of_decide_eq_true (by first | (with_reducible assumption) | assumption)
                  obtain ⟨ad376, e376, hx376_0⟩ := Kd.at_int HR1.out x10_2 p376 q376
                  have hw376_0 := hx376_0
                  obtain rfl : ad344 = ad376 := (by injection e376)
                  replace hx376_0 := (HB.out.cell (World.block_lt_of_cell? w _ hx376_0)).trans hx376_0
                  replace p376 := eq_true p376
                  replace q376 := eq_true q376
                  refine start_ (n := 9) (S := fun w' => w'.cell? ⟨gb342, 0, none⟩ = some (.int .i64 x343000_2) ∧ w'.cell? ⟨gb342, 1, none⟩ = some (u343001) ∧ w'.cell? ⟨gb342, 2, none⟩ = some (.int .i64 x343002_2) ∧ w'.cell? (ad344.add (x10_2).toNat) = some (.int .i64 (rd l1 x10_2))) (ds := [8]) (tf 0 9) (by kernel_rfl) rfl rfl ⟨(blk_cell BK342.out 0).trans rfl, (blk_cell BK342.out 1).trans rfl, (blk_cell BK342.out 2).trans rfl, ((HB.out.cell (World.block_lt_of_cell? w _ hw376_0)).trans hw376_0)⟩ (fun hHeld => ?_); refine with_tabW hopperlaw14_FeedCovers.tab18 hopperlaw14_FeedCovers.bits18 (fun HT_ HW_ => ?_)
                  generalize w52.drew = w53 at HO_8 HO_343001 HO375 BK342 HB hx376_0 hHeld ⊢
                  refine pure_ (i := 1) (N := some 70) (v := ?_) (a' := ?_) #[false, true, false, false, false, false, false, false, false] rfl rfl (any_of HT_.out (by kernel_rfl)) (fun _ _ _ h => h) (Or.inl ⟨by rfl, ?_⟩) ?_ ?_
                  rotate_left
                  · intro w'
                    go_simp
                    with_reducible rfl
                  rotate_left
                  · simp only [Act.put, PU, i64_w, i32_w]
                    rfl
                  refine pure_ (i := 2) (N := some 71) (v := ?_) (a' := ?_) #[false, true, true, false, false, false, false, false, false] rfl rfl (any_of HT_.out (by kernel_rfl)) (fun _ _ _ h => h) (Or.inl ⟨by rfl, ?_⟩) ?_ ?_
                  rotate_left
                  · intro w'
                    go_simp
                    with_reducible rfl
                  rotate_left
                  · simp only [Act.put, PU, i64_w, i32_w]
                    rfl
                  refine pure_ (i := 3) (N := some 72) (v := ?_) (a' := ?_) #[false, true, true, true, false, false, false, false, false] rfl rfl (any_of HT_.out (by kernel_rfl)) (fun _ _ _ h => h) (Or.inl ⟨by rfl, ?_⟩) ?_ ?_
                  rotate_left
                  · intro w'
                    go_simp
                    with_reducible rfl
                  rotate_left
                  · simp only [Act.put, PU, i64_w, i32_w]
                    rfl
                  refine take_ (i := 0) (N := some 69) (v := ?_) (a' := ?_) (tf 4 9) rfl rfl (take_ofW HT_.out HW_.out (by kernel_rfl)) (fun _ _ _ h => h) (Or.inl ⟨by rfl, ?_⟩) hHeld ?_ ?_
                  rotate_left
                  · rintro w' ⟨s0, s1, s2, s3⟩
                    go_simp
                    with_reducible rfl
                  rotate_left
                  · simp only [Act.put, PU, i64_w, i32_w]
                    rfl
                  refine take_ (i := 4) (N := some 73) (v := ?_) (a' := ?_) (tf 5 9) rfl rfl (take_ofW HT_.out HW_.out (by kernel_rfl)) (fun _ _ _ h => h) (Or.inl ⟨by rfl, ?_⟩) hHeld ?_ ?_
                  rotate_left
                  · rintro w' ⟨s0, s1, s2, s3⟩
                    go_simp
                    with_reducible rfl
                  rotate_left
                  · simp only [Act.put, PU, i64_w, i32_w]
                    rfl
                  refine one_ (i := 5) (N := some 74) (tf 6 9) rfl rfl (one_of HT_.out (by kernel_rfl)) (by decide) (fun K hK => ?_)
                  refine goes_ Try.func23 (by kernel_rfl) rfl #[.int .i64 (rd l1 x10_2)] (by rfl) rfl rfl (by (try simp only [List.map_toArray, List.map_cons, List.map_nil]); first | done | rfl | (simp only [List.length_drop, List.length_take]; rfl)) ?_
                  with_reducible refine (hopperlaw14_event.calls (rd l1 x10_2) t377 t378 t379 t380 t381 t382 t383 t384 _ A48.out).mono ?_
                  rintro e w54 ⟨rfl, hb⟩
                  refine ⟨_, rfl, ?_⟩
                  have n0_ := Aside0.mk (Kd.R_below (Kd.RA HO_8.out) hb)
                  have n1_ := Aside0.mk (Kd.V_below (Kd.VA HO_343001.out) hb)
                  have n2_ := Aside0.mk (Kd.R_below (Kd.RA HO375.out) hb)
                  have n3_ := Aside0.mk (blk_below (BA BK342.out) hb)
                  have n4_ := Aside0.mk (below_step (LG HB.out (G1 GE342.out G0)) hb)
                  clear HO_8
                  clear HO_343001
                  clear HO375
                  clear BK342
                  clear HB
                  have HO_8 := n0_
                  have HO_343001 := n1_
                  have HO375 := n2_
                  have BK342 := n3_
                  have HB := n4_
                  clear n0_ n1_ n2_ n3_ n4_
                  (try clear hb)
                  (try clear hb2)
                  (try clear hk)
                  (try clear hi)
                  refine hK.out _ _ ⟨(blk_cell BK342.out 0).trans rfl, (blk_cell BK342.out 1).trans rfl, (blk_cell BK342.out 2).trans rfl, ((HB.out.cell (World.block_lt_of_cell? w _ hw376_0)).trans hw376_0)⟩ (fun hHeld => ?_)
                  clear hK K
                  refine norm_ (a' := ?_) ?_ ?_
                  rotate_left
                  · show Act.put _ (some 74) _ = _
                    simp only [Act.put, PU, i64_w, i32_w]
                    rfl
                  refine one_ (i := 6) (N := some 75) (tf 7 9) rfl rfl (one_of HT_.out (by kernel_rfl)) (by decide) (fun K hK => ?_)
                  refine Kd.R_lit_step k36 _ 36 ?hg (N := 75) ?hd (xs := ([(⟨t377, (⟨t378, t379, t380, t381, t382, t383⟩ : S34), t384⟩ : S36)] : List (S36))) (inner := [.int .i64 t377, .int .i64 t378, .int .i64 t379, .int .i64 t380, .int .i64 t381, .int .i64 t382, .string t383, .int .i64 t384]) (ok := fun _ => True) (okp := fun _ => True) ?hr ?hp (fun _ hk => hk) trivial (Below.refl _ _) (Nat.le_refl _) (by simp) ?_; (case hd => rfl); (case hg => rfl); (case hr => first | (go_simp; done) | (go_simp; rfl)); (case hp => exact (Reps.c8 (show Kd.M k36 _ _ _ (⟨t377, (⟨t378, t379, t380, t381, t382, t383⟩ : S34), t384⟩ : S36) [.int .i64 t377, .int .i64 t378, .int .i64 t379, .int .i64 t380, .int .i64 t381, .int .i64 t382, .string t383, .int .i64 t384] from (k36_mkM _ _ _ (⟨t377, (⟨t378, t379, t380, t381, t382, t383⟩ : S34), t384⟩ : S36) )) (Reps.none _ _)))
                  intro v386 w55 ho56 hb hg_ hnew_
                  clear hg_ hnew_
                  (first | rw [← Ny385.out] at ho56 | (simp only [Int.reduceToNat] at ho56; rw [← Ny385.out] at ho56))
                  have n0_ := Aside0.mk (Kd.R_elder' (Kd.RA HO_8.out) (Kd.R_base ho56) hb)
                  have n1_ := Aside0.mk (Kd.V_elder' (Kd.VA HO_343001.out) (Kd.R_base ho56) hb)
                  have n2_ := Aside0.mk (Kd.R_elder' (Kd.RA HO375.out) (Kd.R_base ho56) hb)
                  have n3_ := Aside0.mk (Kd.R_lower (Kd.R_new' (Kd.R_new' ho56 (Kd.R_lt (Kd.RA HO_8.out))) (Kd.R_lt (Kd.RA HO375.out))) (below_size (LG HB.out (G1 GE342.out G0))))
                  have n4_ := Aside0.mk (blk_below (BA BK342.out) hb)
                  have n5_ := Aside0.mk (below_step (LG HB.out (G1 GE342.out G0)) hb)
                  clear HO_8
                  clear HO_343001
                  clear HO375
                  clear BK342
                  clear HB
                  have HO_8 := n0_
                  have HO_343001 := n1_
                  have HO375 := n2_
                  have HO387 := n3_
                  have BK342 := n4_
                  have HB := n5_
                  clear n0_ n1_ n2_ n3_ n4_ n5_
                  clear hb ho56
                  obtain ⟨Ao57, co57, eo57⟩ := Kd.V_slice HO_343001.out
                  (first | subst eo57 | (injection eo57 with f1_ f2_ f3_; have f4_ := f1_.symm; have f5_ := f3_.symm; clear f1_ f2_ f3_; subst f4_; subst f5_))
                  obtain ⟨Ao58, co58, eo58⟩ := Kd.R_slice HO387.out
                  (first | subst eo58 | (injection eo58 with f1_ f2_ f3_; have f4_ := f1_.symm; have f5_ := f3_.symm; clear f1_ f2_ f3_; subst f4_; subst f5_))
                  refine hK.out _ _ ⟨(blk_cell BK342.out 0).trans rfl, (blk_cell BK342.out 1).trans rfl, (blk_cell BK342.out 2).trans rfl, ((HB.out.cell (World.block_lt_of_cell? w _ hw376_0)).trans hw376_0)⟩ (fun hHeld => ?_)
                  clear hK K
                  refine norm_ (a' := ?_) ?_ ?_
                  rotate_left
                  · show Act.put _ (some 75) _ = _
                    simp only [Act.put, PU, i64_w, i32_w]
                    rfl
                  refine one_ (i := 7) (N := some 76) (tf 8 9) rfl rfl (one_of HT_.out (by kernel_rfl)) (by decide) (fun K hK => ?_)
                  refine goes_ Try.func19 (by kernel_rfl) rfl #[.agg #[.int .i64 x343000_2, .slice Ao57 x343001_2.length co57, .int .i64 x343002_2], .slice Ao58 y385.length co58] (by rfl) rfl rfl (by (try simp only [List.map_toArray, List.map_cons, List.map_nil]); first | done | rfl | (simp only [List.length_drop, List.length_take]; rfl)) ?_
                  with_reducible refine (feed_Tell.calls k2 x343000_2 _ _ x343001_2 x343002_2 _ _ y385 t388 t389 t392 _ ?side1 ?side2 ?side3 ?side4 A49.out).mono ?_
                  (case side1 => exact Kd.CA (Kd.V_reads' HO_343001.out).2.2)
                  (case side2 => exact (Kd.V_reads' HO_343001.out).2.1)
                  (case side3 => exact Kd.CA (Kd.R_reads' HO387.out).2.2)
                  (case side4 => exact (Kd.R_reads' HO387.out).2.1)
                  rintro e w59 ⟨v390, rfl, ho0, hb⟩
                  refine ⟨_, rfl, ?_⟩
                  have n0_ := Aside0.mk (Kd.R_elder' (Kd.RA HO_8.out) (Kd.R_base ho0) hb)
                  have n1_ := Aside0.mk (Kd.V_elder' (Kd.VA HO_343001.out) (Kd.R_base ho0) hb)
                  have n2_ := Aside0.mk (Kd.R_elder' (Kd.RA HO375.out) (Kd.R_base ho0) hb)
                  have n3_ := Aside0.mk (Kd.R_elder' (Kd.RA HO387.out) (Kd.R_base ho0) hb)
                  have n4_ := Aside0.mk (Kd.R_lower (Kd.R_new' (Kd.R_new' (Kd.R_new' ho0 (Kd.R_lt (Kd.RA HO_8.out))) (Kd.R_lt (Kd.RA HO375.out))) (Kd.R_lt (Kd.RA HO387.out))) (below_size (LG HB.out (G1 GE342.out G0))))
                  have n5_ := Aside0.mk (blk_below (BA BK342.out) hb)
                  have n6_ := Aside0.mk (below_step (LG HB.out (G1 GE342.out G0)) hb)
                  clear HO_8
                  clear HO_343001
                  clear HO375
                  clear HO387
                  clear BK342
                  clear HB
                  have HO_8 := n0_
                  have HO_343001 := n1_
                  have HO375 := n2_
                  have HO387 := n3_
                  have HO391 := n4_
                  have BK342 := n5_
                  have HB := n6_
                  clear n0_ n1_ n2_ n3_ n4_ n5_ n6_
                  (try clear hb)
                  (try clear hb2)
                  (try clear hk)
                  (try clear hi)
                  (try clear ho0)
                  obtain ⟨Ao61, co61, eo61⟩ := Kd.R_slice HO391.out
                  (first | subst eo61 | (injection eo61 with f1_ f2_ f3_; have f4_ := f1_.symm; have f5_ := f3_.symm; clear f1_ f2_ f3_; subst f4_; subst f5_))
                  refine hK.out _ _ ⟨(blk_cell BK342.out 0).trans rfl, (blk_cell BK342.out 1).trans rfl, (blk_cell BK342.out 2).trans rfl, ((HB.out.cell (World.block_lt_of_cell? w _ hw376_0)).trans hw376_0)⟩ (fun hHeld => ?_)
                  clear hK K
                  refine norm_ (a' := ?_) ?_ ?_
                  rotate_left
                  · show Act.put _ (some 76) _ = _
                    simp only [Act.put, PU, i64_w, i32_w]
                    rfl
                  refine last_ (i := 8) (N := none) (tf 9 9) rfl rfl (one_of HT_.out (by kernel_rfl)) (by decide) (fun K hK => ?_)
                  have hs60 : w59.cell? ⟨gb342, 0, none⟩ = some (.int .i64 x343000_2) := (blk_cell BK342.out 0).trans rfl
                  have hfs60 := blk_frozen BK342.out 0
                  have hs62 : w59.cell? ⟨gb342, 1, none⟩ = some (.slice Ao57 x343001_2.length co57) := (blk_cell BK342.out 1).trans rfl
                  have hfs62 := blk_frozen BK342.out 1
                  have hs63 : w59.cell? ⟨gb342, 2, none⟩ = some (.int .i64 x343002_2) := (blk_cell BK342.out 2).trans rfl
                  have hfs63 := blk_frozen BK342.out 2
                  refine skip_ (w1 := ?_) (by rfl) rfl ?_ ?_
                  rotate_left
                  · go_simp
                    rfl
                  refine hK.out _ _ ?_
                  clear hK K
                  refine done_ (done_of HT_.out (by kernel_rfl)) ?_
                  try go_wp2
                  go_roundg k2
                  case measure => have := HJ3.out; have := HK2.out; omega
                  case rel => exact ⟨(y373), (x8_2), (true), (wrap64 (x10_2 + 1)), (t388), (t389), (t392), (.slice Ao61 t389.length co61), (by first | (rw [HR_.out]; done) | rfl | (rw [HR_.out]; rfl) | (simp [HR_.out]; done) | (simp; done) | (simp [*]; done)), (by first | (rw [HR_.out]; done) | rfl | (rw [HR_.out]; rfl) | (simp [HR_.out]; done) | (simp; done) | (simp [*]; done)), H', ⟨by have := HJ3.out; have := HK2.out; omega⟩, ⟨by (with_reducible repeat (first | apply Kd.R_alloc | apply Kd.R_drewN | apply Kd.R_drew)); exact Kd.R_mono (Kd.R_mv (g := gb342) (Kd.R_types HO375.out BK342.out (by decide)) (fun _ hk => hk.2)) (fun _ hk => hk.1.1.1)⟩, ⟨by (with_reducible repeat (first | apply Kd.R_alloc | apply Kd.R_drewN | apply Kd.R_drew)); exact Kd.R_mono (Kd.R_mv (g := gb342) (Kd.R_types HO_8.out BK342.out (by decide)) (fun _ hk => hk.2)) (fun _ hk => hk.1.1.1.2)⟩, ⟨Kd.R_V (Kd.R_mono (Kd.R_mv (g := gb342) (Kd.R_types (Kd.R_types HO391.out BK342.out (by decide)) BK342.out (by decide)) (fun _ hk => hk.2)) (fun _ hk => ⟨hk.1.1.1.2, ⟨hk.1.1.1.1.2, hk.1.2⟩⟩))⟩, ⟨by exact BP BK342.out (by rfl)⟩, ⟨LG HB.out (G1 GE342.out G0)⟩⟩
                · replace c50 := Bool.eq_false_iff.mpr c50
                  subst c50
                  have H1 : (hopperlaw14_FeedCovers.l0 k2 a0 l1 y373 x8_2 (decide (t392 > 0)) (wrap64 (x10_2 + 1)) t388 t389 t392) = some true := by rw [if_neg (show ¬ (false = true) by decide)] at H; exact H
                  clear H
                  have H := H1
                  clear H1
                  have H' := Aside0.mk H
                  clear H
                  have p344 : 0 ≤ (x10_2 : Int) := of_decide_eq_true (by first | (with_reducible assumption) | assumption)
                  have q344 : x10_2 < (l1.length : Int) := of_decide_eq_true (by first | (with_reducible assumption) | assumption)
                  obtain ⟨ad344, e344, hx344_0⟩ := Kd.at_int HR1.out x10_2 p344 q344
                  cases e344
                  replace hx344_0 := (HB.out.cell (World.block_lt_of_cell? w _ hx344_0)).trans hx344_0
                  replace p344 := eq_true p344
                  replace q344 := eq_true q344
                  have p364 : 0 ≤ (x10_2 : Int) := of_decide_eq_true (by first | (with_reducible assumption) | assumption)
                  have q364 : x10_2 < (l1.length : Int) := of_decide_eq_true (by first | (with_reducible assumption) | assumption)
                  obtain ⟨ad364, e364, hx364_0⟩ := Kd.at_int HR1.out x10_2 p364 q364
                  obtain rfl : ad344 = ad364 := (by injection e364)
                  replace hx364_0 := (HB.out.cell (World.block_lt_of_cell? w _ hx364_0)).trans hx364_0
                  replace p364 := eq_true p364
                  replace q364 := eq_true q364
                  try go_wp2_with (first | ((with_reducible refine gate_callee (f := 23) rfl ?_); refine goesL_ (some 66) rfl rfl Try.func23 (by kernel_rfl) rfl #[.int .i64 (rd l1 x10_2)] rfl (by (try simp only [List.map_toArray, List.map_cons, List.map_nil]); first | done | rfl | (simp only [List.length_drop, List.length_take]; rfl)) ?_; (with_reducible refine (hopperlaw14_event.calls (rd l1 x10_2) t365 t366 t367 t368 t369 t370 t371 t372 _ A46.out).mono ?_); rintro e w64 ⟨rfl, hb⟩; refine ⟨_, rfl, ?_⟩; replace HO_7 := Aside0.mk (Kd.R_below (Kd.RA HO_7.out) hb); replace HO_8 := Aside0.mk (Kd.R_below (Kd.RA HO_8.out) hb); replace HO_343001 := Aside0.mk (Kd.V_below (Kd.VA HO_343001.out) hb); replace BK342 := Aside0.mk (blk_below (BA BK342.out) hb); replace HB := Aside0.mk (below_step (LA HB.out) hb); (try clear hb); (try clear hb2); (try clear hk); (try clear hi)) | ((with_reducible refine gate_builtin (b := .append) (xs := #[.tmp 61, .tmp 67]) rfl ?_); (try (refine gate_guard (by rfl) ?_; dsimp only)); at_builtin; refine Kd.R_append k36 (w0 := w) w.heap.size rfl (.tmp 61) (.tmp 67) 22 36 (.agg #[(.int .i64 0), (.int .i64 0), (.int .i64 0), (.int .i64 0), (.int .i64 0), (.int .i64 0), (.string ⟨#[]⟩), (.int .i64 0)]) 72 rfl Try.underlying22 info36 rfl (by decide) (by omega) u7 x7_2 (⟨t365, (⟨t366, t367, t368, t369, t370, t371⟩ : S34), t372⟩ : S36) [.int .i64 t365, .int .i64 t366, .int .i64 t367, .int .i64 t368, .int .i64 t369, .int .i64 t370, .string t371, .int .i64 t372] (fun k_ => some k_ ≠ (u8 : Value).ownBlock) (fun _ => False) rfl rfl ?aP (fun _ hk => hk.elim) ?aF ?aO ?aB ?aS ?aL ?_; (case aP => exact k36_mkM _ _ _ (⟨t365, (⟨t366, t367, t368, t369, t370, t371⟩ : S34), t372⟩ : S36)); (case aB => exact (LA HB.out)); (case aF => exact (fun k_ hk => Kd.fresh' (Kd.R_lt (Kd.RA HO_8.out)) k_ hk)); (case aO => exact (Kd.RA HO_7.out)); (case aS => exact (below_size (LA HB.out))); (case aL => have := LMc47.out; omega); intro v374 w65 ho hb hg hat; rw [← Ny373.out] at ho; replace HO_8 := Aside0.mk (Kd.R_after (ok := (fun _ => True)) (Kd.RA (Kd.R_mono HO_8.out (fun _ hk => ⟨trivial, hk⟩))) hg hat); replace HO_343001 := Aside0.mk (Kd.V_afterv (ok := (fun k_ => some k_ ≠ (u8 : Value).ownBlock ∧ k_ ≠ gb342)) (Kd.VA (Kd.V_mono HO_343001.out (fun _ hk => ⟨⟨hk.2.1, hk.2.2⟩, hk.1⟩))) hg hat); replace BK342 := Aside0.mk (blk_grown (g := gb342) (o := .cells #[.int .i64 x343000_2, u343001, .int .i64 x343002_2] 27 (0, 0)) (BA BK342.out) hg (Kd.R_ne HO_7.out BK342.out (by decide))); replace HB := Aside0.mk (hb); have HO375 := Aside0.mk (ho); clear HO_7; clear ho hb hg hat))
                  have n0_ := Aside0.mk (Kd.R_drew HO_8.out)
                  have n1_ := Aside0.mk (Kd.V_drew HO_343001.out)
                  have n2_ := Aside0.mk (Kd.R_drew HO375.out)
                  have n3_ := Aside0.mk (blk_drew BK342.out)
                  have n4_ := Aside0.mk (below_drew1 HB.out)
                  clear HO_8
                  clear HO_343001
                  clear HO375
                  clear BK342
                  clear HB
                  have HO_8 := n0_
                  have HO_343001 := n1_
                  have HO375 := n2_
                  have BK342 := n3_
                  have HB := n4_
                  clear n0_ n1_ n2_ n3_ n4_
                  have p376 : 0 ≤ (x10_2 : Int) := of_decide_eq_true (by first | (with_reducible assumption) | assumption)
                  have q376 : x10_2 < (l1.length : Int) := of_decide_eq_true (by first | (with_reducible assumption) | assumption)
                  obtain ⟨ad376, e376, hx376_0⟩ := Kd.at_int HR1.out x10_2 p376 q376
                  have hw376_0 := hx376_0
                  obtain rfl : ad344 = ad376 := (by injection e376)
                  replace hx376_0 := (HB.out.cell (World.block_lt_of_cell? w _ hx376_0)).trans hx376_0
                  replace p376 := eq_true p376
                  replace q376 := eq_true q376
                  refine start_ (n := 9) (S := fun w' => w'.cell? ⟨gb342, 0, none⟩ = some (.int .i64 x343000_2) ∧ w'.cell? ⟨gb342, 1, none⟩ = some (u343001) ∧ w'.cell? ⟨gb342, 2, none⟩ = some (.int .i64 x343002_2) ∧ w'.cell? (ad344.add (x10_2).toNat) = some (.int .i64 (rd l1 x10_2))) (ds := [8]) (tf 0 9) (by kernel_rfl) rfl rfl ⟨(blk_cell BK342.out 0).trans rfl, (blk_cell BK342.out 1).trans rfl, (blk_cell BK342.out 2).trans rfl, ((HB.out.cell (World.block_lt_of_cell? w _ hw376_0)).trans hw376_0)⟩ (fun hHeld => ?_); refine with_tabW hopperlaw14_FeedCovers.tab18 hopperlaw14_FeedCovers.bits18 (fun HT_ HW_ => ?_)
                  generalize w65.drew = w66 at HO_8 HO_343001 HO375 BK342 HB hx376_0 hHeld ⊢
                  refine pure_ (i := 1) (N := some 70) (v := ?_) (a' := ?_) #[false, true, false, false, false, false, false, false, false] rfl rfl (any_of HT_.out (by kernel_rfl)) (fun _ _ _ h => h) (Or.inl ⟨by rfl, ?_⟩) ?_ ?_
                  rotate_left
                  · intro w'
                    go_simp
                    with_reducible rfl
                  rotate_left
                  · simp only [Act.put, PU, i64_w, i32_w]
                    rfl
                  refine pure_ (i := 2) (N := some 71) (v := ?_) (a' := ?_) #[false, true, true, false, false, false, false, false, false] rfl rfl (any_of HT_.out (by kernel_rfl)) (fun _ _ _ h => h) (Or.inl ⟨by rfl, ?_⟩) ?_ ?_
                  rotate_left
                  · intro w'
                    go_simp
                    with_reducible rfl
                  rotate_left
                  · simp only [Act.put, PU, i64_w, i32_w]
                    rfl
                  refine pure_ (i := 3) (N := some 72) (v := ?_) (a' := ?_) #[false, true, true, true, false, false, false, false, false] rfl rfl (any_of HT_.out (by kernel_rfl)) (fun _ _ _ h => h) (Or.inl ⟨by rfl, ?_⟩) ?_ ?_
                  rotate_left
                  · intro w'
                    go_simp
                    with_reducible rfl
                  rotate_left
                  · simp only [Act.put, PU, i64_w, i32_w]
                    rfl
                  refine take_ (i := 0) (N := some 69) (v := ?_) (a' := ?_) (tf 4 9) rfl rfl (take_ofW HT_.out HW_.out (by kernel_rfl)) (fun _ _ _ h => h) (Or.inl ⟨by rfl, ?_⟩) hHeld ?_ ?_
                  rotate_left
                  · rintro w' ⟨s0, s1, s2, s3⟩
                    go_simp
                    with_reducible rfl
                  rotate_left
                  · simp only [Act.put, PU, i64_w, i32_w]
                    rfl
                  refine take_ (i := 4) (N := some 73) (v := ?_) (a' := ?_) (tf 5 9) rfl rfl (take_ofW HT_.out HW_.out (by kernel_rfl)) (fun _ _ _ h => h) (Or.inl ⟨by rfl, ?_⟩) hHeld ?_ ?_
                  rotate_left
                  · rintro w' ⟨s0, s1, s2, s3⟩
                    go_simp
                    with_reducible rfl
                  rotate_left
                  · simp only [Act.put, PU, i64_w, i32_w]
                    rfl
                  refine one_ (i := 5) (N := some 74) (tf 6 9) rfl rfl (one_of HT_.out (by kernel_rfl)) (by decide) (fun K hK => ?_)
                  refine goes_ Try.func23 (by kernel_rfl) rfl #[.int .i64 (rd l1 x10_2)] (by rfl) rfl rfl (by (try simp only [List.map_toArray, List.map_cons, List.map_nil]); first | done | rfl | (simp only [List.length_drop, List.length_take]; rfl)) ?_
                  with_reducible refine (hopperlaw14_event.calls (rd l1 x10_2) t377 t378 t379 t380 t381 t382 t383 t384 _ A48.out).mono ?_
                  rintro e w67 ⟨rfl, hb⟩
                  refine ⟨_, rfl, ?_⟩
                  have n0_ := Aside0.mk (Kd.R_below (Kd.RA HO_8.out) hb)
                  have n1_ := Aside0.mk (Kd.V_below (Kd.VA HO_343001.out) hb)
                  have n2_ := Aside0.mk (Kd.R_below (Kd.RA HO375.out) hb)
                  have n3_ := Aside0.mk (blk_below (BA BK342.out) hb)
                  have n4_ := Aside0.mk (below_step (LG HB.out (G1 GE342.out G0)) hb)
                  clear HO_8
                  clear HO_343001
                  clear HO375
                  clear BK342
                  clear HB
                  have HO_8 := n0_
                  have HO_343001 := n1_
                  have HO375 := n2_
                  have BK342 := n3_
                  have HB := n4_
                  clear n0_ n1_ n2_ n3_ n4_
                  (try clear hb)
                  (try clear hb2)
                  (try clear hk)
                  (try clear hi)
                  refine hK.out _ _ ⟨(blk_cell BK342.out 0).trans rfl, (blk_cell BK342.out 1).trans rfl, (blk_cell BK342.out 2).trans rfl, ((HB.out.cell (World.block_lt_of_cell? w _ hw376_0)).trans hw376_0)⟩ (fun hHeld => ?_)
                  clear hK K
                  refine norm_ (a' := ?_) ?_ ?_
                  rotate_left
                  · show Act.put _ (some 74) _ = _
                    simp only [Act.put, PU, i64_w, i32_w]
                    rfl
                  refine one_ (i := 6) (N := some 75) (tf 7 9) rfl rfl (one_of HT_.out (by kernel_rfl)) (by decide) (fun K hK => ?_)
                  refine Kd.R_lit_step k36 _ 36 ?hg (N := 75) ?hd (xs := ([(⟨t377, (⟨t378, t379, t380, t381, t382, t383⟩ : S34), t384⟩ : S36)] : List (S36))) (inner := [.int .i64 t377, .int .i64 t378, .int .i64 t379, .int .i64 t380, .int .i64 t381, .int .i64 t382, .string t383, .int .i64 t384]) (ok := fun _ => True) (okp := fun _ => True) ?hr ?hp (fun _ hk => hk) trivial (Below.refl _ _) (Nat.le_refl _) (by simp) ?_; (case hd => rfl); (case hg => rfl); (case hr => first | (go_simp; done) | (go_simp; rfl)); (case hp => exact (Reps.c8 (show Kd.M k36 _ _ _ (⟨t377, (⟨t378, t379, t380, t381, t382, t383⟩ : S34), t384⟩ : S36) [.int .i64 t377, .int .i64 t378, .int .i64 t379, .int .i64 t380, .int .i64 t381, .int .i64 t382, .string t383, .int .i64 t384] from (k36_mkM _ _ _ (⟨t377, (⟨t378, t379, t380, t381, t382, t383⟩ : S34), t384⟩ : S36) )) (Reps.none _ _)))
                  intro v386 w68 ho69 hb hg_ hnew_
                  clear hg_ hnew_
                  (first | rw [← Ny385.out] at ho69 | (simp only [Int.reduceToNat] at ho69; rw [← Ny385.out] at ho69))
                  have n0_ := Aside0.mk (Kd.R_elder' (Kd.RA HO_8.out) (Kd.R_base ho69) hb)
                  have n1_ := Aside0.mk (Kd.V_elder' (Kd.VA HO_343001.out) (Kd.R_base ho69) hb)
                  have n2_ := Aside0.mk (Kd.R_elder' (Kd.RA HO375.out) (Kd.R_base ho69) hb)
                  have n3_ := Aside0.mk (Kd.R_lower (Kd.R_new' (Kd.R_new' ho69 (Kd.R_lt (Kd.RA HO_8.out))) (Kd.R_lt (Kd.RA HO375.out))) (below_size (LG HB.out (G1 GE342.out G0))))
                  have n4_ := Aside0.mk (blk_below (BA BK342.out) hb)
                  have n5_ := Aside0.mk (below_step (LG HB.out (G1 GE342.out G0)) hb)
                  clear HO_8
                  clear HO_343001
                  clear HO375
                  clear BK342
                  clear HB
                  have HO_8 := n0_
                  have HO_343001 := n1_
                  have HO375 := n2_
                  have HO387 := n3_
                  have BK342 := n4_
                  have HB := n5_
                  clear n0_ n1_ n2_ n3_ n4_ n5_
                  clear hb ho69
                  obtain ⟨Ao70, co70, eo70⟩ := Kd.V_slice HO_343001.out
                  (first | subst eo70 | (injection eo70 with f1_ f2_ f3_; have f4_ := f1_.symm; have f5_ := f3_.symm; clear f1_ f2_ f3_; subst f4_; subst f5_))
                  obtain ⟨Ao71, co71, eo71⟩ := Kd.R_slice HO387.out
                  (first | subst eo71 | (injection eo71 with f1_ f2_ f3_; have f4_ := f1_.symm; have f5_ := f3_.symm; clear f1_ f2_ f3_; subst f4_; subst f5_))
                  refine hK.out _ _ ⟨(blk_cell BK342.out 0).trans rfl, (blk_cell BK342.out 1).trans rfl, (blk_cell BK342.out 2).trans rfl, ((HB.out.cell (World.block_lt_of_cell? w _ hw376_0)).trans hw376_0)⟩ (fun hHeld => ?_)
                  clear hK K
                  refine norm_ (a' := ?_) ?_ ?_
                  rotate_left
                  · show Act.put _ (some 75) _ = _
                    simp only [Act.put, PU, i64_w, i32_w]
                    rfl
                  refine one_ (i := 7) (N := some 76) (tf 8 9) rfl rfl (one_of HT_.out (by kernel_rfl)) (by decide) (fun K hK => ?_)
                  refine goes_ Try.func19 (by kernel_rfl) rfl #[.agg #[.int .i64 x343000_2, .slice Ao70 x343001_2.length co70, .int .i64 x343002_2], .slice Ao71 y385.length co71] (by rfl) rfl rfl (by (try simp only [List.map_toArray, List.map_cons, List.map_nil]); first | done | rfl | (simp only [List.length_drop, List.length_take]; rfl)) ?_
                  with_reducible refine (feed_Tell.calls k2 x343000_2 _ _ x343001_2 x343002_2 _ _ y385 t388 t389 t392 _ ?side1 ?side2 ?side3 ?side4 A49.out).mono ?_
                  (case side1 => exact Kd.CA (Kd.V_reads' HO_343001.out).2.2)
                  (case side2 => exact (Kd.V_reads' HO_343001.out).2.1)
                  (case side3 => exact Kd.CA (Kd.R_reads' HO387.out).2.2)
                  (case side4 => exact (Kd.R_reads' HO387.out).2.1)
                  rintro e w72 ⟨v390, rfl, ho0, hb⟩
                  refine ⟨_, rfl, ?_⟩
                  have n0_ := Aside0.mk (Kd.R_elder' (Kd.RA HO_8.out) (Kd.R_base ho0) hb)
                  have n1_ := Aside0.mk (Kd.V_elder' (Kd.VA HO_343001.out) (Kd.R_base ho0) hb)
                  have n2_ := Aside0.mk (Kd.R_elder' (Kd.RA HO375.out) (Kd.R_base ho0) hb)
                  have n3_ := Aside0.mk (Kd.R_elder' (Kd.RA HO387.out) (Kd.R_base ho0) hb)
                  have n4_ := Aside0.mk (Kd.R_lower (Kd.R_new' (Kd.R_new' (Kd.R_new' ho0 (Kd.R_lt (Kd.RA HO_8.out))) (Kd.R_lt (Kd.RA HO375.out))) (Kd.R_lt (Kd.RA HO387.out))) (below_size (LG HB.out (G1 GE342.out G0))))
                  have n5_ := Aside0.mk (blk_below (BA BK342.out) hb)
                  have n6_ := Aside0.mk (below_step (LG HB.out (G1 GE342.out G0)) hb)
                  clear HO_8
                  clear HO_343001
                  clear HO375
                  clear HO387
                  clear BK342
                  clear HB
                  have HO_8 := n0_
                  have HO_343001 := n1_
                  have HO375 := n2_
                  have HO387 := n3_
                  have HO391 := n4_
                  have BK342 := n5_
                  have HB := n6_
                  clear n0_ n1_ n2_ n3_ n4_ n5_ n6_
                  (try clear hb)
                  (try clear hb2)
                  (try clear hk)
                  (try clear hi)
                  (try clear ho0)
                  obtain ⟨Ao74, co74, eo74⟩ := Kd.R_slice HO391.out
                  (first | subst eo74 | (injection eo74 with f1_ f2_ f3_; have f4_ := f1_.symm; have f5_ := f3_.symm; clear f1_ f2_ f3_; subst f4_; subst f5_))
                  refine hK.out _ _ ⟨(blk_cell BK342.out 0).trans rfl, (blk_cell BK342.out 1).trans rfl, (blk_cell BK342.out 2).trans rfl, ((HB.out.cell (World.block_lt_of_cell? w _ hw376_0)).trans hw376_0)⟩ (fun hHeld => ?_)
                  clear hK K
                  refine norm_ (a' := ?_) ?_ ?_
                  rotate_left
                  · show Act.put _ (some 76) _ = _
                    simp only [Act.put, PU, i64_w, i32_w]
                    rfl
                  refine last_ (i := 8) (N := none) (tf 9 9) rfl rfl (one_of HT_.out (by kernel_rfl)) (by decide) (fun K hK => ?_)
                  have hs73 : w72.cell? ⟨gb342, 0, none⟩ = some (.int .i64 x343000_2) := (blk_cell BK342.out 0).trans rfl
                  have hfs73 := blk_frozen BK342.out 0
                  have hs75 : w72.cell? ⟨gb342, 1, none⟩ = some (.slice Ao70 x343001_2.length co70) := (blk_cell BK342.out 1).trans rfl
                  have hfs75 := blk_frozen BK342.out 1
                  have hs76 : w72.cell? ⟨gb342, 2, none⟩ = some (.int .i64 x343002_2) := (blk_cell BK342.out 2).trans rfl
                  have hfs76 := blk_frozen BK342.out 2
                  refine skip_ (w1 := ?_) (by rfl) rfl ?_ ?_
                  rotate_left
                  · go_simp
                    rfl
                  refine hK.out _ _ ?_
                  clear hK K
                  refine done_ (done_of HT_.out (by kernel_rfl)) ?_
                  have hcz77_0 : w72.cell? ⟨gb342, 0, none⟩ = some (.int .i64 x343000_2) := (blk_cell BK342.out 0).trans rfl
                  have hcz77_1 : w72.cell? ⟨gb342, 1, none⟩ = some (.slice Ao70 x343001_2.length co70) := (blk_cell BK342.out 1).trans rfl
                  have hcz77_2 : w72.cell? ⟨gb342, 2, none⟩ = some (.int .i64 x343002_2) := (blk_cell BK342.out 2).trans rfl
                  have hfz77_0 := blk_frozen BK342.out 0
                  have hfz77_1 := blk_frozen BK342.out 1
                  have hfz77_2 := blk_frozen BK342.out 2
                  try go_wp2
                  go_roundg k2
                  case measure => have := HJ3.out; have := HK2.out; omega
                  case rel => exact ⟨(y373), (x8_2), (decide (t392 > 0)), (wrap64 (x10_2 + 1)), (t388), (t389), (t392), (.slice Ao74 t389.length co74), (by first | (rw [HR_.out]; done) | rfl | (rw [HR_.out]; rfl) | (simp [HR_.out]; done) | (simp; done) | (simp [*]; done)), (by first | (rw [HR_.out]; done) | rfl | (rw [HR_.out]; rfl) | (simp [HR_.out]; done) | (simp; done) | (simp [*]; done)), H', ⟨by have := HJ3.out; have := HK2.out; omega⟩, ⟨by (with_reducible repeat (first | apply Kd.R_alloc | apply Kd.R_drewN | apply Kd.R_drew)); exact Kd.R_mono (Kd.R_mv (g := gb342) (Kd.R_types HO375.out BK342.out (by decide)) (fun _ hk => hk.2)) (fun _ hk => hk.1.1.1)⟩, ⟨by (with_reducible repeat (first | apply Kd.R_alloc | apply Kd.R_drewN | apply Kd.R_drew)); exact Kd.R_mono (Kd.R_mv (g := gb342) (Kd.R_types HO_8.out BK342.out (by decide)) (fun _ hk => hk.2)) (fun _ hk => hk.1.1.1.2)⟩, ⟨Kd.R_V (Kd.R_mono (Kd.R_mv (g := gb342) (Kd.R_types (Kd.R_types HO391.out BK342.out (by decide)) BK342.out (by decide)) (fun _ hk => hk.2)) (fun _ hk => ⟨hk.1.1.1.2, ⟨hk.1.1.1.1.2, hk.1.2⟩⟩))⟩, ⟨by exact BP BK342.out (by rfl)⟩, ⟨LG HB.out (G1 GE342.out G0)⟩⟩
            · rw [if_neg c13] at H
              have c13b0 : decide (x10_2 < (l1.length : Int)) = false := decide_eq_false c13
              clear c13
              have HC78 := Aside0.mk H
              clear H
              go_upto_region 20 with (fail)
              go_cut [92] (fun v92 wc => ∃ (kq : Nat) (x92_77 : Bool), v92 = .bool x92_77 ∧ Aside0 (hopperlaw14_FeedCovers.j4 kq x7_2 x8_2 x9_2 x92_77 x343000_2 x343001_2 x343002_2 = some true) ∧ Aside0 (kq ≤ k2) ∧ Aside0 (Kd.R k36 36 wc w.heap.size (fun k_ => some k_ ≠ (u8 : Value).ownBlock) u7 x7_2) ∧ Aside0 (Kd.R k36 36 wc w.heap.size (fun k_ => some k_ ≠ (u7 : Value).ownBlock) u8 x8_2) ∧ Aside0 (Kd.V k36 36 wc w.heap.size (fun k_ => some k_ ≠ (u7 : Value).ownBlock ∧ some k_ ≠ (u8 : Value).ownBlock ∧ k_ ≠ gb342) u343001 x343001_2) ∧ Aside0 (wc.heap[gb342]? = some (.cells #[.int .i64 x343000_2, u343001, .int .i64 x343002_2] 27 (0, 0))) ∧ Aside0 (Below w.heap.size w wc))
              case first =>
                have H := HC78.out
                clear HC78
                by_cases c79 : (x343001_2.length : Int) > a0
                · rw [if_pos c79] at H
                  have c79b0 : decide (a0 < (x343001_2.length : Int)) = true := decide_eq_true c79
                  clear c79
                  (first | rw [c79b0] | (simp only [i64_w, i32_w]; rw [c79b0]) | skip)
                  have H' := Aside0.mk H
                  clear H
                  have hcz80_0 : wr.cell? ⟨gb342, 0, none⟩ = some (.int .i64 x343000_2) := (blk_cell BK342.out 0).trans rfl
                  have hcz80_1 : wr.cell? ⟨gb342, 1, none⟩ = some (u343001) := (blk_cell BK342.out 1).trans rfl
                  have hcz80_2 : wr.cell? ⟨gb342, 2, none⟩ = some (.int .i64 x343002_2) := (blk_cell BK342.out 2).trans rfl
                  have hfz80_0 := blk_frozen BK342.out 0
                  have hfz80_1 := blk_frozen BK342.out 1
                  have hfz80_2 := blk_frozen BK342.out 2
                  obtain ⟨Ao81, co81, eo81⟩ := Kd.V_slice HO_343001.out
                  subst eo81
                  go_wp2
                  go_meet
                  case rel => exact ⟨_, (true), (by first | (rw [HR_.out]; done) | rfl | (rw [HR_.out]; rfl) | (simp [HR_.out]; done) | (simp; done) | (simp [*]; done)), H', ⟨by have := HJ3.out; have := HK2.out; first | omega | exact Nat.le_refl _⟩, ⟨by (with_reducible repeat (first | apply Kd.R_alloc | apply Kd.R_drewN | apply Kd.R_drew)); exact HO_7.out⟩, ⟨by (with_reducible repeat (first | apply Kd.R_alloc | apply Kd.R_drewN | apply Kd.R_drew)); exact HO_8.out⟩, ⟨by (with_reducible repeat (first | apply Kd.V_alloc | apply Kd.V_drewN | apply Kd.V_drew)); exact HO_343001.out⟩, ⟨by (with_reducible repeat (first | refine blk_drewN ?_ _ | refine blk_drew ?_ | refine blk_alloc ?_ _)); exact BK342.out⟩, ⟨LG HB.out (G1 GE342.out G0)⟩⟩
                · rw [if_neg c79] at H
                  have c79b0 : decide (a0 < (x343001_2.length : Int)) = false := decide_eq_false c79
                  clear c79
                  (first | rw [c79b0] | (simp only [i64_w, i32_w]; rw [c79b0]) | skip)
                  have H' := Aside0.mk H
                  clear H
                  have hcz82_0 : wr.cell? ⟨gb342, 0, none⟩ = some (.int .i64 x343000_2) := (blk_cell BK342.out 0).trans rfl
                  have hcz82_1 : wr.cell? ⟨gb342, 1, none⟩ = some (u343001) := (blk_cell BK342.out 1).trans rfl
                  have hcz82_2 : wr.cell? ⟨gb342, 2, none⟩ = some (.int .i64 x343002_2) := (blk_cell BK342.out 2).trans rfl
                  have hfz82_0 := blk_frozen BK342.out 0
                  have hfz82_1 := blk_frozen BK342.out 1
                  have hfz82_2 := blk_frozen BK342.out 2
                  obtain ⟨Ao83, co83, eo83⟩ := Kd.V_slice HO_343001.out
                  subst eo83
                  go_wp2
                  go_meet
                  case rel => exact ⟨_, (decide (x343002_2 < 0)), (by first | (rw [HR_.out]; done) | rfl | (rw [HR_.out]; rfl) | (simp [HR_.out]; done) | (simp; done) | (simp [*]; done)), H', ⟨by have := HJ3.out; have := HK2.out; first | omega | exact Nat.le_refl _⟩, ⟨by (with_reducible repeat (first | apply Kd.R_alloc | apply Kd.R_drewN | apply Kd.R_drew)); exact HO_7.out⟩, ⟨by (with_reducible repeat (first | apply Kd.R_alloc | apply Kd.R_drewN | apply Kd.R_drew)); exact HO_8.out⟩, ⟨by (with_reducible repeat (first | apply Kd.V_alloc | apply Kd.V_drewN | apply Kd.V_drew)); exact HO_343001.out⟩, ⟨by (with_reducible repeat (first | refine blk_drewN ?_ _ | refine blk_drew ?_ | refine blk_alloc ?_ _)); exact BK342.out⟩, ⟨LG HB.out (G1 GE342.out G0)⟩⟩
              case rest =>
                clear HC78
                try clear c1
                try clear c2
                try clear p2
                try clear p3
                try clear q3
                try clear hx3
                try clear c4
                try clear c5
                try clear p6
                try clear c7
                try clear c8
                try clear c13
                try clear c13b0
                try clear c14
                try clear c15
                try clear c15b0
                try clear c15b1
                try clear c19
                try clear c23
                try clear p34
                try clear q34
                try clear hx34
                try clear p36
                try clear q36
                try clear hx36
                try clear p37
                try clear q37
                try clear hx37
                try clear c40
                try clear c41
                try clear c42
                try clear c44
                try clear c47
                try clear c50
                try clear p64
                try clear c79
                try clear c79b0
                try clear hcz43_0
                try clear hcz43_1
                try clear hcz43_2
                try clear hcz45_0
                try clear hcz45_1
                try clear hcz45_2
                try clear hcz77_0
                try clear hcz77_1
                try clear hcz77_2
                try clear hcz80_0
                try clear hcz80_1
                try clear hcz80_2
                try clear hcz82_0
                try clear hcz82_1
                try clear hcz82_2
                try clear hfz25_0
                try clear hfz25_1
                try clear hfz25_2
                try clear hfz28_0
                try clear hfz28_1
                try clear hfz28_2
                try clear hfz28_3
                try clear hfz28_4
                try clear hfz28_5
                try clear hfz28_6
                try clear hfz28_7
                try clear hfz33_0
                try clear hfz33_1
                try clear hfz33_2
                try clear hfz33_3
                try clear hfz33_4
                try clear hfz33_5
                try clear hfz33_6
                try clear hfz33_7
                try clear hfz39_0
                try clear hfz39_1
                try clear hfz39_2
                try clear hfz43_0
                try clear hfz43_1
                try clear hfz43_2
                try clear hfz45_0
                try clear hfz45_1
                try clear hfz45_2
                try clear hfz77_0
                try clear hfz77_1
                try clear hfz77_2
                try clear hfz7_0
                try clear hfz7_1
                try clear hfz7_2
                try clear hfz80_0
                try clear hfz80_1
                try clear hfz80_2
                try clear hfz82_0
                try clear hfz82_1
                try clear hfz82_2
                try clear hx344_0
                try clear hx364_0
                try clear hx376_0
                try clear p2
                try clear p3
                try clear p34
                try clear p344
                try clear p364
                try clear p376
                try clear q3
                try clear q34
                try clear q344
                try clear q364
                try clear q376
                obtain ⟨kq, x92_77, rfl, HA, HJ77, HO_7, HO_8, HO_343001, BK342, HB⟩ := hcut
                cases kq with
                | zero => exact absurd HA.out (by simp [hopperlaw14_FeedCovers.j4])
                | succ kj77 =>
                  have H := HA.out
                  clear HA
                  simp only [hopperlaw14_FeedCovers.j4] at H
                  by_cases c84 : x92_77 = true
                  · subst c84
                    have H1 : (some false) = some true := by rw [if_pos rfl] at H; exact H
                    clear H
                    have H := H1
                    clear H1
                    exact absurd H (by simp)
                  · replace c84 := Bool.eq_false_iff.mpr c84
                    subst c84
                    have H1 : ((feed_All.f kj77 x343000_2 x343001_2 x343002_2).bind fun bt393 => (if x8_2.length + bt393.2.2.2.length < 1954687338268 then ((some (x8_2 ++ bt393.2.2.2 : List (S36))).bind fun y402 => ((feed_Covers.f kj77 y402 x7_2).bind fun t405 => (if t405 = true then ((hopperref14_Covers.f kj77 y402 x7_2).bind fun t406 => (if t406 = true then (if (bt393.2.1.length : Int) > 0 then (hopperlaw14_FeedCovers.j5 kj77 x7_2 y402 x9_2 true) else (hopperlaw14_FeedCovers.j5 kj77 x7_2 y402 x9_2 (bt393.2.2.1 != 0))) else (hopperlaw14_FeedCovers.j5 kj77 x7_2 y402 x9_2 true))) else (hopperlaw14_FeedCovers.j5 kj77 x7_2 y402 x9_2 true)))) else (none))) = some true := by rw [if_neg (show ¬ (false = true) by decide)] at H; exact H
                    clear H
                    have H := H1
                    clear H1
                    replace H := Option.bind_eq_some_iff.mp H
                    obtain ⟨⟨t393, t394, t397, t398⟩, A850, H⟩ := H
                    try dsimp only at H
                    have A85 := Aside0.mk A850
                    clear A850
                    by_cases c86 : x8_2.length + t398.length < 1954687338268
                    rotate_left
                    · rw [if_neg c86] at H
                      exact absurd H (by simp)
                    rw [if_pos c86] at H
                    have LMc86 := Aside0.mk c86
                    clear c86
                    obtain ⟨y402, hy402⟩ : ∃ y_ : List (S36), y_ = (x8_2 ++ t398) := ⟨_, rfl⟩
                    replace H : ((feed_Covers.f kj77 y402 x7_2).bind fun t405 => (if t405 = true then ((hopperref14_Covers.f kj77 y402 x7_2).bind fun t406 => (if t406 = true then (if (t394.length : Int) > 0 then (hopperlaw14_FeedCovers.j5 kj77 x7_2 y402 x9_2 true) else (hopperlaw14_FeedCovers.j5 kj77 x7_2 y402 x9_2 (t397 != 0))) else (hopperlaw14_FeedCovers.j5 kj77 x7_2 y402 x9_2 true))) else (hopperlaw14_FeedCovers.j5 kj77 x7_2 y402 x9_2 true))) = some true := by first | (rw [hy402]; with_reducible exact H) | (have H2_ := (Option.bind_some _ _).symm.trans H; rw [hy402]; with_reducible exact H2_) | (have H2_ := (Option.bind_some _ _).symm.trans H; with_reducible exact H2_) | with_reducible exact H | (rw [hy402]; exact H) | exact H
                    have Ny402 := Aside0.mk hy402
                    clear hy402
                    have HC87 := Aside0.mk H
                    clear H
                    have hcz88_0 : wc.cell? ⟨gb342, 0, none⟩ = some (.int .i64 x343000_2) := (blk_cell BK342.out 0).trans rfl
                    have hcz88_1 : wc.cell? ⟨gb342, 1, none⟩ = some (u343001) := (blk_cell BK342.out 1).trans rfl
                    have hcz88_2 : wc.cell? ⟨gb342, 2, none⟩ = some (.int .i64 x343002_2) := (blk_cell BK342.out 2).trans rfl
                    have hfz88_0 := blk_frozen BK342.out 0
                    have hfz88_1 := blk_frozen BK342.out 1
                    have hfz88_2 := blk_frozen BK342.out 2
                    obtain ⟨Ao89, co89, eo89⟩ := Kd.V_slice HO_343001.out
                    subst eo89
                    go_upto_region 24 with (first | ((with_reducible refine gate_callee (f := 15) rfl ?_); refine goesL_ (some 95) rfl rfl Try.func15 (by kernel_rfl) rfl #[.agg #[.int .i64 x343000_2, .slice Ao89 x343001_2.length co89, .int .i64 x343002_2]] rfl (by (try simp only [List.map_toArray, List.map_cons, List.map_nil]); first | done | rfl | (simp only [List.length_drop, List.length_take]; rfl)) ?_; (with_reducible refine (feed_All.calls kj77 x343000_2 (fun k_ => (some k_ ≠ (u7 : Value).ownBlock ∧ (some k_ ≠ (u8 : Value).ownBlock ∧ k_ ≠ gb342))) _ _ x343001_2 x343002_2 t393 t394 t397 t398 _ ?side1 A85.out).mono ?_); (case side1 => exact HO_343001.out); rintro e w90 ⟨v395, v399, rfl, ho0, ho1, hb⟩; refine ⟨_, rfl, ?_⟩; replace HO_343001 := Aside0.mk (Kd.V_elder' (Kd.VA HO_343001.out) (Kd.R_base ho1) hb); have HO396 := Aside0.mk (Kd.V_lower (Kd.V_mono (ok' := fun k_ => some k_ ≠ (v399 : Value).ownBlock ∧ some k_ ≠ (u7 : Value).ownBlock ∧ some k_ ≠ (u8 : Value).ownBlock ∧ k_ ≠ gb342) ho0 (fun k_ hk_ => ⟨hk_.2, Or.elim hk_.1 (fun hs_ => hs_.1) (fun hn_ => (Kd.fresh' (Kd.R_lt (Kd.RA HO_7.out)) k_ hn_)), Or.elim hk_.1 (fun hs_ => hs_.2.1) (fun hn_ => (Kd.fresh' (Kd.R_lt (Kd.RA HO_8.out)) k_ hn_)), Or.elim hk_.1 (fun hs_ => hs_.2.2) (fun hn_ => (Kd.freshB (g := gb342) (o := .cells #[.int .i64 x343000_2, .slice Ao89 x343001_2.length co89, .int .i64 x343002_2] 27 (0, 0)) (BA BK342.out) k_ hn_))⟩)) (below_size (LA HB.out))); have HO400 := Aside0.mk (Kd.R_lower (Kd.R_new' (Kd.R_new' (Kd.R_mono (ok' := fun k_ => True) ho1 (fun _ hk_ => trivial)) (Kd.R_lt (Kd.RA HO_7.out))) (Kd.R_lt (Kd.RA HO_8.out))) (below_size (LA HB.out))); replace HO_7 := Aside0.mk (Kd.R_elder' (Kd.RA HO_7.out) (Kd.R_base ho1) hb); replace HO_8 := Aside0.mk (Kd.R_elder' (Kd.RA HO_8.out) (Kd.R_base ho1) hb); replace BK342 := Aside0.mk (blk_below (BA BK342.out) hb); replace HB := Aside0.mk (below_step (LA HB.out) hb); (try clear hb); (try clear hb2); (try clear hk); (try clear hi); (try clear ho0); (try clear ho1)) | ((with_reducible refine gate_dst (N := 14) rfl ?_); (try (refine gate_guard (by rfl) ?_; dsimp only)); refine box_event ?hg (N := 14) ?hd (cs := #[.int .i64 0, .slice none 0 0, .int .i64 0]) (t := 27) ?hr ?_; (case hd => rfl); (case hg => rfl); (case hr => first | (go_simp; done) | (go_simp; rfl)); intro gb401 hg w91 hbox hb; replace HO_7 := Aside0.mk (Kd.R_below (Kd.RA HO_7.out) hb); replace HO_8 := Aside0.mk (Kd.R_below (Kd.RA HO_8.out) hb); replace HO_343001 := Aside0.mk (Kd.V_below (Kd.V_elderB (Kd.VA HO_343001.out) gb401 (Nat.le_of_eq hg.symm)) hb); replace HO396 := Aside0.mk (Kd.V_below (Kd.V_elderB (Kd.VA HO396.out) gb401 (Nat.le_of_eq hg.symm)) hb); replace HO400 := Aside0.mk (Kd.R_below (Kd.RA HO400.out) hb); have BK401 := Aside0.mk (hbox); have GE401 := Aside0.mk (ge1 hg (LA HB.out)); replace HB := Aside0.mk (below_step (LA HB.out) hb); have NB342_401 := Aside0.mk ((by rw [hg]; exact Nat.ne_of_lt (blk_lt (g := gb342) (o := .cells #[.int .i64 x343000_2, .slice Ao89 x343001_2.length co89, .int .i64 x343002_2] 27 (0, 0)) (BA BK342.out)) : gb342 ≠ gb401)); have NB401_342 := Aside0.mk ((by rw [hg]; exact Nat.ne_of_gt (blk_lt (g := gb342) (o := .cells #[.int .i64 x343000_2, .slice Ao89 x343001_2.length co89, .int .i64 x343002_2] 27 (0, 0)) (BA BK342.out)) : gb401 ≠ gb342)); replace BK342 := Aside0.mk (blk_below (BA BK342.out) hb); clear hb hbox hg; have hnb92 := NB401_342.out; have hnc92 := NB342_401.out; obtain ⟨hcz93_0, hcz93_1, hcz93_2, hfz93_0, hfz93_1, hfz93_2⟩ := cz3 BK401.out; obtain ⟨Ao94, co94, eo94⟩ := Kd.V_slice HO396.out; subst eo94; obtain ⟨Ao96, co96, eo96⟩ := Kd.R_slice HO400.out; subst eo96) | ((with_reducible refine gate_builtin (b := .append) (xs := #[.tmp 98, .tmp 99]) rfl ?_); (try (refine gate_guard (by rfl) ?_; dsimp only)); at_builtin; refine Kd.R_append_rows k36 (w0 := w) w.heap.size rfl (.tmp 98) (.tmp 99) 22 36 (.agg #[(.int .i64 0), (.int .i64 0), (.int .i64 0), (.int .i64 0), (.int .i64 0), (.int .i64 0), (.string ⟨#[]⟩), (.int .i64 0)]) 72 rfl Try.underlying22 info36 rfl (by decide) (by omega) u8 x8_2 t398 _ _ _ (fun k_ => some k_ ≠ (u7 : Value).ownBlock ∧ some k_ ≠ (.slice Ao96 t398.length co96 : Value).ownBlock) (fun _ => False) rfl rfl ?aO ?aR (fun _ _ h => h) (fun _ h => h.elim) ?aF ?aB ?aS ?aL ?_; (case aR => refine (Kd.R_reads' (e := 36) (base := w.heap.size) (ok := fun k_ => ((True ∧ some k_ ≠ (u7 : Value).ownBlock) ∧ some k_ ≠ (u8 : Value).ownBlock)) (n := t398.length) (c := co96) ?_).2.2; exact ((Kd.R_mono (Kd.R_mv (g := gb401) (Kd.R_types HO400.out BK401.out (by decide)) (fun _ hk => hk.2)) (fun _ h_ => h_.1)))); (case aB => exact (LG HB.out (G1 GE401.out G0))); (case aF => exact (fun k_ hk => ⟨Kd.fresh' (Kd.R_lt ((Kd.R_mono (Kd.R_mv (g := gb401) (Kd.R_types HO_7.out BK401.out (by decide)) (fun _ hk => hk.2)) (fun _ h_ => h_.1)))) k_ hk, Kd.fresh' (Kd.R_lt ((Kd.R_mono (Kd.R_mv (g := gb401) (Kd.R_types HO400.out BK401.out (by decide)) (fun _ hk => hk.2)) (fun _ h_ => h_.1)))) k_ hk⟩)); (case aO => exact (Kd.R_mono (Kd.R_mv (g := gb401) (Kd.R_types HO_8.out BK401.out (by decide)) (fun _ hk => hk.2)) (fun _ hk => ⟨hk.1.1, hk.1.2⟩))); (case aS => exact (below_size (LG HB.out (G1 GE401.out G0)))); (case aL => have := LMc86.out; omega); intro v403 w95 ho hb hg hat; rw [← Ny402.out] at ho; replace HO_7 := Aside0.mk (Kd.R_after (ok := (fun k_ => some k_ ≠ (.slice Ao96 t398.length co96 : Value).ownBlock)) (Kd.R_mono (Kd.R_mv (g := gb401) (Kd.R_types HO_7.out BK401.out (by decide)) (fun _ hk => hk.2)) (fun _ hk => ⟨hk.1.2, hk.1.1⟩)) hg hat); replace HO_343001 := Aside0.mk (Kd.V_afterv (ok := (fun k_ => some k_ ≠ (u7 : Value).ownBlock ∧ some k_ ≠ (.slice Ao96 t398.length co96 : Value).ownBlock ∧ k_ ≠ gb342 ∧ k_ ≠ gb401)) (Kd.V_mono (Kd.V_mv (g := gb401) (Kd.V_mono HO_343001.out (fun k_ hk => (⟨hk, hk.2⟩ : _ ∧ k_ ≠ gb401))) (fun _ hk => hk.2)) (fun _ hk => ⟨⟨hk.1.1.1.1, ⟨hk.1.1.2, ⟨hk.1.1.1.2.2, hk.1.2⟩⟩⟩, hk.1.1.1.2.1⟩)) hg hat); replace BK342 := Aside0.mk (blk_grown (g := gb342) (o := .cells #[.int .i64 x343000_2, .slice Ao89 x343001_2.length co89, .int .i64 x343002_2] 27 (0, 0)) (BF BK342.out NB342_401.out) hg (Kd.R_ne HO_8.out BK342.out (by decide))); replace HO396 := Aside0.mk (Kd.V_afterv (ok := (fun k_ => some k_ ≠ (u7 : Value).ownBlock ∧ some k_ ≠ (.slice Ao96 t398.length co96 : Value).ownBlock ∧ k_ ≠ gb342 ∧ k_ ≠ gb401)) (Kd.V_mono (Kd.V_mv (g := gb401) (Kd.V_mono HO396.out (fun k_ hk => (⟨hk, hk.2⟩ : _ ∧ k_ ≠ gb401))) (fun _ hk => hk.2)) (fun _ hk => ⟨⟨hk.1.1.2.1, ⟨hk.1.1.1, ⟨hk.1.1.2.2.2, hk.1.2⟩⟩⟩, hk.1.1.2.2.1⟩)) hg hat); replace HO400 := Aside0.mk (Kd.R_after (ok := (fun k_ => some k_ ≠ (u7 : Value).ownBlock)) (Kd.R_mono (Kd.R_mv (g := gb401) (Kd.R_types HO400.out BK401.out (by decide)) (fun _ hk => hk.2)) (fun _ hk => ⟨hk.1.1.2, hk.1.2⟩)) hg hat); replace BK401 := Aside0.mk (blk_grown (g := gb401) (o := .cells #[.int .i64 t393, .slice Ao94 t394.length co94, .int .i64 t397] 27 (0, 0)) (BP BK401.out (by rfl)) hg (Kd.R_ne HO_8.out BK401.out (by decide))); replace HB := Aside0.mk (hb); have HO404 := Aside0.mk (ho); clear HO_8; clear ho hb hg hat))
                    (try simp only [Act.put, PU])
                    go_cut [121] (fun v121 wc => ∃ (kq : Nat) (x121_86 : Bool), v121 = .bool x121_86 ∧ Aside0 (hopperlaw14_FeedCovers.j5 kq x7_2 y402 x9_2 x121_86 = some true) ∧ Aside0 (kq ≤ kj77) ∧ Aside0 (Kd.R k36 36 wc w.heap.size (fun k_ => some k_ ≠ (v403 : Value).ownBlock) u7 x7_2) ∧ Aside0 (Kd.R k36 36 wc w.heap.size (fun k_ => some k_ ≠ (u7 : Value).ownBlock) v403 y402) ∧ Aside0 (Kd.V k36 36 wc w.heap.size (fun k_ => some k_ ≠ (u7 : Value).ownBlock ∧ some k_ ≠ (v403 : Value).ownBlock ∧ k_ ≠ gb342 ∧ k_ ≠ gb401) (.slice Ao89 x343001_2.length co89) x343001_2) ∧ Aside0 (Kd.V k36 36 wc w.heap.size (fun k_ => some k_ ≠ (u7 : Value).ownBlock ∧ some k_ ≠ (v403 : Value).ownBlock ∧ k_ ≠ gb342 ∧ k_ ≠ gb401) (.slice Ao94 t394.length co94) t394) ∧ Aside0 (wc.heap[gb342]? = some (.cells #[.int .i64 x343000_2, (.slice Ao89 x343001_2.length co89), .int .i64 x343002_2] 27 (0, 0))) ∧ Aside0 (wc.heap[gb401]? = some (.cells #[.int .i64 t393, (.slice Ao94 t394.length co94), .int .i64 t397] 27 (0, 0))) ∧ Aside0 (Below w.heap.size w wc))
                    case first =>
                      have H := HC87.out
                      clear HC87
                      replace H := Option.bind_eq_some_iff.mp H
                      obtain ⟨t405, A970, H⟩ := H
                      try dsimp only at H
                      have A97 := Aside0.mk A970
                      clear A970
                      by_cases c98 : t405 = true
                      · subst c98
                        have H1 : ((hopperref14_Covers.f kj77 y402 x7_2).bind fun t406 => (if t406 = true then (if (t394.length : Int) > 0 then (hopperlaw14_FeedCovers.j5 kj77 x7_2 y402 x9_2 true) else (hopperlaw14_FeedCovers.j5 kj77 x7_2 y402 x9_2 (t397 != 0))) else (hopperlaw14_FeedCovers.j5 kj77 x7_2 y402 x9_2 true))) = some true := by rw [if_pos rfl] at H; exact H
                        clear H
                        have H := H1
                        clear H1
                        replace H := Option.bind_eq_some_iff.mp H
                        obtain ⟨t406, A990, H⟩ := H
                        try dsimp only at H
                        have A99 := Aside0.mk A990
                        clear A990
                        by_cases c100 : t406 = true
                        · subst c100
                          have H1 : (if (t394.length : Int) > 0 then (hopperlaw14_FeedCovers.j5 kj77 x7_2 y402 x9_2 true) else (hopperlaw14_FeedCovers.j5 kj77 x7_2 y402 x9_2 (t397 != 0))) = some true := by rw [if_pos rfl] at H; exact H
                          clear H
                          have H := H1
                          clear H1
                          by_cases c101 : (t394.length : Int) > 0
                          · rw [if_pos c101] at H
                            have c101b0 : decide (0 < (t394.length : Int)) = true := decide_eq_true c101
                            have c101b1 : decide (0 < t394.length) = true := decide_eq_true (by omega)
                            clear c101
                            (first | rw [c101b0] | (simp only [i64_w, i32_w]; rw [c101b0]) | skip)
                            have H' := Aside0.mk H
                            clear H
                            obtain ⟨Ao102, co102, eo102⟩ := Kd.R_slice HO404.out
                            subst eo102
                            obtain ⟨Ao103, co103, eo103⟩ := Kd.R_slice HO_7.out
                            subst eo103
                            go_wp2_with (first | ((with_reducible refine gate_callee (f := 21) rfl ?_); refine goesL_ (some 103) rfl rfl Try.func21 (by kernel_rfl) rfl #[.slice Ao102 y402.length co102, .slice Ao103 x7_2.length co103] rfl (by (try simp only [List.map_toArray, List.map_cons, List.map_nil]); first | done | rfl | (simp only [List.length_drop, List.length_take]; rfl)) ?_; (with_reducible refine (feed_Covers.calls kj77 _ _ y402 (fun k_ => some k_ = (.slice Ao103 x7_2.length co103 : Value).ownBlock) _ _ x7_2 true _ ?side1 ?side2 ?side3 A97.out).mono ?_); (case side1 => exact Kd.CA (Kd.R_reads' HO404.out).2.2); (case side2 => exact (Kd.R_reads' HO404.out).2.1); (case side3 => exact Kd.R_V (Kd.R_tight rfl (Kd.R_types (Kd.R_types (HO_7.out) BK342.out (by decide)) BK401.out (by decide)))); rintro e w104 ⟨rfl, hb⟩; refine ⟨_, rfl, ?_⟩; replace HO_7 := Aside0.mk (Kd.R_below (Kd.RA HO_7.out) hb); replace HO_343001 := Aside0.mk (Kd.V_below (Kd.VA HO_343001.out) hb); replace HO396 := Aside0.mk (Kd.V_below (Kd.VA HO396.out) hb); replace HO404 := Aside0.mk (Kd.R_below (Kd.RA HO404.out) hb); replace BK342 := Aside0.mk (blk_below (BA BK342.out) hb); replace BK401 := Aside0.mk (blk_below (BA BK401.out) hb); replace HB := Aside0.mk (below_step (LA HB.out) hb); (try clear HO400); (try clear hb); (try clear hb2); (try clear hk); (try clear hi)) | (go_at_call 22; (with_reducible refine (hopperref14_Covers.calls kj77 _ _ y402 _ _ x7_2 true _ ?side1 ?side2 ?side3 ?side4 A99.out).mono ?_); (case side1 => exact Kd.CA (Kd.R_reads' HO404.out).2.2); (case side2 => exact (Kd.R_reads' HO404.out).2.1); (case side3 => exact Kd.CA (Kd.R_reads' HO_7.out).2.2); (case side4 => exact (Kd.R_reads' HO_7.out).2.1); rintro e w' ⟨rfl, ⟨nd, rfl⟩⟩; have hnb105 := NB401_342.out; have hnc105 := NB342_401.out; obtain ⟨hcz106_0, hcz106_1, hcz106_2, hfz106_0, hfz106_1, hfz106_2⟩ := cz3 BK401.out))
                            go_meet
                            case rel => exact ⟨_, (true), (by first | (rw [HR_.out]; done) | rfl | (rw [HR_.out]; rfl) | (simp [HR_.out]; done) | (simp; done) | (simp [*]; done)), H', ⟨by have := HJ3.out; have := HK2.out; have := HJ77.out; first | omega | exact Nat.le_refl _⟩, ⟨by (with_reducible repeat (first | apply Kd.R_alloc | apply Kd.R_drewN | apply Kd.R_drew)); exact Kd.R_mono HO_7.out (fun _ hk => hk.2)⟩, ⟨by (with_reducible repeat (first | apply Kd.R_alloc | apply Kd.R_drewN | apply Kd.R_drew)); exact Kd.R_mono HO404.out (fun _ hk => hk.1)⟩, ⟨by (with_reducible repeat (first | apply Kd.V_alloc | apply Kd.V_drewN | apply Kd.V_drew)); exact Kd.V_mono HO_343001.out (fun _ hk => ⟨hk.1.1, ⟨hk.2, ⟨hk.1.2.2.1, hk.1.2.2.2⟩⟩⟩)⟩, ⟨by (with_reducible repeat (first | apply Kd.V_alloc | apply Kd.V_drewN | apply Kd.V_drew)); exact Kd.V_mono HO396.out (fun _ hk => ⟨hk.1.1, ⟨hk.2, ⟨hk.1.2.2.1, hk.1.2.2.2⟩⟩⟩)⟩, ⟨by (with_reducible repeat (first | refine blk_drewN ?_ _ | refine blk_drew ?_ | refine blk_alloc ?_ _)); exact BK342.out⟩, ⟨by (with_reducible repeat (first | refine blk_drewN ?_ _ | refine blk_drew ?_ | refine blk_alloc ?_ _)); exact BK401.out⟩, ⟨LG HB.out (G1 GE342.out (G1 GE401.out G0))⟩⟩
                          · rw [if_neg c101] at H
                            have c101b0 : decide (0 < (t394.length : Int)) = false := decide_eq_false c101
                            have c101b1 : decide (0 < t394.length) = false := decide_eq_false (by omega)
                            clear c101
                            (first | rw [c101b0] | (simp only [i64_w, i32_w]; rw [c101b0]) | skip)
                            have H' := Aside0.mk H
                            clear H
                            obtain ⟨Ao107, co107, eo107⟩ := Kd.R_slice HO404.out
                            subst eo107
                            obtain ⟨Ao108, co108, eo108⟩ := Kd.R_slice HO_7.out
                            subst eo108
                            go_wp2_with (first | ((with_reducible refine gate_callee (f := 21) rfl ?_); refine goesL_ (some 103) rfl rfl Try.func21 (by kernel_rfl) rfl #[.slice Ao107 y402.length co107, .slice Ao108 x7_2.length co108] rfl (by (try simp only [List.map_toArray, List.map_cons, List.map_nil]); first | done | rfl | (simp only [List.length_drop, List.length_take]; rfl)) ?_; (with_reducible refine (feed_Covers.calls kj77 _ _ y402 (fun k_ => some k_ = (.slice Ao108 x7_2.length co108 : Value).ownBlock) _ _ x7_2 true _ ?side1 ?side2 ?side3 A97.out).mono ?_); (case side1 => exact Kd.CA (Kd.R_reads' HO404.out).2.2); (case side2 => exact (Kd.R_reads' HO404.out).2.1); (case side3 => exact Kd.R_V (Kd.R_tight rfl (Kd.R_types (Kd.R_types (HO_7.out) BK342.out (by decide)) BK401.out (by decide)))); rintro e w109 ⟨rfl, hb⟩; refine ⟨_, rfl, ?_⟩; replace HO_7 := Aside0.mk (Kd.R_below (Kd.RA HO_7.out) hb); replace HO_343001 := Aside0.mk (Kd.V_below (Kd.VA HO_343001.out) hb); replace HO396 := Aside0.mk (Kd.V_below (Kd.VA HO396.out) hb); replace HO404 := Aside0.mk (Kd.R_below (Kd.RA HO404.out) hb); replace BK342 := Aside0.mk (blk_below (BA BK342.out) hb); replace BK401 := Aside0.mk (blk_below (BA BK401.out) hb); replace HB := Aside0.mk (below_step (LA HB.out) hb); (try clear HO400); (try clear hb); (try clear hb2); (try clear hk); (try clear hi)) | (go_at_call 22; (with_reducible refine (hopperref14_Covers.calls kj77 _ _ y402 _ _ x7_2 true _ ?side1 ?side2 ?side3 ?side4 A99.out).mono ?_); (case side1 => exact Kd.CA (Kd.R_reads' HO404.out).2.2); (case side2 => exact (Kd.R_reads' HO404.out).2.1); (case side3 => exact Kd.CA (Kd.R_reads' HO_7.out).2.2); (case side4 => exact (Kd.R_reads' HO_7.out).2.1); rintro e w' ⟨rfl, ⟨nd, rfl⟩⟩; have hnb110 := NB401_342.out; have hnc110 := NB342_401.out; obtain ⟨hcz111_0, hcz111_1, hcz111_2, hfz111_0, hfz111_1, hfz111_2⟩ := cz3 BK401.out))
                            go_meet
                            case rel => exact ⟨_, ((t397 != 0)), (by first | (rw [HR_.out]; done) | rfl | (rw [HR_.out]; rfl) | (simp [HR_.out]; done) | (simp; done) | (simp [*]; done)), H', ⟨by have := HJ3.out; have := HK2.out; have := HJ77.out; first | omega | exact Nat.le_refl _⟩, ⟨by (with_reducible repeat (first | apply Kd.R_alloc | apply Kd.R_drewN | apply Kd.R_drew)); exact Kd.R_mono HO_7.out (fun _ hk => hk.2)⟩, ⟨by (with_reducible repeat (first | apply Kd.R_alloc | apply Kd.R_drewN | apply Kd.R_drew)); exact Kd.R_mono HO404.out (fun _ hk => hk.1)⟩, ⟨by (with_reducible repeat (first | apply Kd.V_alloc | apply Kd.V_drewN | apply Kd.V_drew)); exact Kd.V_mono HO_343001.out (fun _ hk => ⟨hk.1.1, ⟨hk.2, ⟨hk.1.2.2.1, hk.1.2.2.2⟩⟩⟩)⟩, ⟨by (with_reducible repeat (first | apply Kd.V_alloc | apply Kd.V_drewN | apply Kd.V_drew)); exact Kd.V_mono HO396.out (fun _ hk => ⟨hk.1.1, ⟨hk.2, ⟨hk.1.2.2.1, hk.1.2.2.2⟩⟩⟩)⟩, ⟨by (with_reducible repeat (first | refine blk_drewN ?_ _ | refine blk_drew ?_ | refine blk_alloc ?_ _)); exact BK342.out⟩, ⟨by (with_reducible repeat (first | refine blk_drewN ?_ _ | refine blk_drew ?_ | refine blk_alloc ?_ _)); exact BK401.out⟩, ⟨LG HB.out (G1 GE342.out (G1 GE401.out G0))⟩⟩
                        · replace c100 := Bool.eq_false_iff.mpr c100
                          subst c100
                          have H1 : (hopperlaw14_FeedCovers.j5 kj77 x7_2 y402 x9_2 true) = some true := by rw [if_neg (show ¬ (false = true) by decide)] at H; exact H
                          clear H
                          have H := H1
                          clear H1
                          have H' := Aside0.mk H
                          clear H
                          obtain ⟨Ao112, co112, eo112⟩ := Kd.R_slice HO404.out
                          subst eo112
                          obtain ⟨Ao113, co113, eo113⟩ := Kd.R_slice HO_7.out
                          subst eo113
                          go_wp2_with (first | ((with_reducible refine gate_callee (f := 21) rfl ?_); refine goesL_ (some 103) rfl rfl Try.func21 (by kernel_rfl) rfl #[.slice Ao112 y402.length co112, .slice Ao113 x7_2.length co113] rfl (by (try simp only [List.map_toArray, List.map_cons, List.map_nil]); first | done | rfl | (simp only [List.length_drop, List.length_take]; rfl)) ?_; (with_reducible refine (feed_Covers.calls kj77 _ _ y402 (fun k_ => some k_ = (.slice Ao113 x7_2.length co113 : Value).ownBlock) _ _ x7_2 true _ ?side1 ?side2 ?side3 A97.out).mono ?_); (case side1 => exact Kd.CA (Kd.R_reads' HO404.out).2.2); (case side2 => exact (Kd.R_reads' HO404.out).2.1); (case side3 => exact Kd.R_V (Kd.R_tight rfl (Kd.R_types (Kd.R_types (HO_7.out) BK342.out (by decide)) BK401.out (by decide)))); rintro e w114 ⟨rfl, hb⟩; refine ⟨_, rfl, ?_⟩; replace HO_7 := Aside0.mk (Kd.R_below (Kd.RA HO_7.out) hb); replace HO_343001 := Aside0.mk (Kd.V_below (Kd.VA HO_343001.out) hb); replace HO396 := Aside0.mk (Kd.V_below (Kd.VA HO396.out) hb); replace HO404 := Aside0.mk (Kd.R_below (Kd.RA HO404.out) hb); replace BK342 := Aside0.mk (blk_below (BA BK342.out) hb); replace BK401 := Aside0.mk (blk_below (BA BK401.out) hb); replace HB := Aside0.mk (below_step (LA HB.out) hb); (try clear HO400); (try clear hb); (try clear hb2); (try clear hk); (try clear hi)) | (go_at_call 22; (with_reducible refine (hopperref14_Covers.calls kj77 _ _ y402 _ _ x7_2 false _ ?side1 ?side2 ?side3 ?side4 A99.out).mono ?_); (case side1 => exact Kd.CA (Kd.R_reads' HO404.out).2.2); (case side2 => exact (Kd.R_reads' HO404.out).2.1); (case side3 => exact Kd.CA (Kd.R_reads' HO_7.out).2.2); (case side4 => exact (Kd.R_reads' HO_7.out).2.1); rintro e w' ⟨rfl, ⟨nd, rfl⟩⟩))
                          go_meet
                          case rel => exact ⟨_, (true), (by first | (rw [HR_.out]; done) | rfl | (rw [HR_.out]; rfl) | (simp [HR_.out]; done) | (simp; done) | (simp [*]; done)), H', ⟨by have := HJ3.out; have := HK2.out; have := HJ77.out; first | omega | exact Nat.le_refl _⟩, ⟨by (with_reducible repeat (first | apply Kd.R_alloc | apply Kd.R_drewN | apply Kd.R_drew)); exact Kd.R_mono HO_7.out (fun _ hk => hk.2)⟩, ⟨by (with_reducible repeat (first | apply Kd.R_alloc | apply Kd.R_drewN | apply Kd.R_drew)); exact Kd.R_mono HO404.out (fun _ hk => hk.1)⟩, ⟨by (with_reducible repeat (first | apply Kd.V_alloc | apply Kd.V_drewN | apply Kd.V_drew)); exact Kd.V_mono HO_343001.out (fun _ hk => ⟨hk.1.1, ⟨hk.2, ⟨hk.1.2.2.1, hk.1.2.2.2⟩⟩⟩)⟩, ⟨by (with_reducible repeat (first | apply Kd.V_alloc | apply Kd.V_drewN | apply Kd.V_drew)); exact Kd.V_mono HO396.out (fun _ hk => ⟨hk.1.1, ⟨hk.2, ⟨hk.1.2.2.1, hk.1.2.2.2⟩⟩⟩)⟩, ⟨by (with_reducible repeat (first | refine blk_drewN ?_ _ | refine blk_drew ?_ | refine blk_alloc ?_ _)); exact BK342.out⟩, ⟨by (with_reducible repeat (first | refine blk_drewN ?_ _ | refine blk_drew ?_ | refine blk_alloc ?_ _)); exact BK401.out⟩, ⟨LG HB.out (G1 GE342.out (G1 GE401.out G0))⟩⟩
                      · replace c98 := Bool.eq_false_iff.mpr c98
                        subst c98
                        have H1 : (hopperlaw14_FeedCovers.j5 kj77 x7_2 y402 x9_2 true) = some true := by rw [if_neg (show ¬ (false = true) by decide)] at H; exact H
                        clear H
                        have H := H1
                        clear H1
                        have H' := Aside0.mk H
                        clear H
                        obtain ⟨Ao115, co115, eo115⟩ := Kd.R_slice HO404.out
                        subst eo115
                        obtain ⟨Ao116, co116, eo116⟩ := Kd.R_slice HO_7.out
                        subst eo116
                        go_wp2_with (first | ((with_reducible refine gate_callee (f := 21) rfl ?_); refine goesL_ (some 103) rfl rfl Try.func21 (by kernel_rfl) rfl #[.slice Ao115 y402.length co115, .slice Ao116 x7_2.length co116] rfl (by (try simp only [List.map_toArray, List.map_cons, List.map_nil]); first | done | rfl | (simp only [List.length_drop, List.length_take]; rfl)) ?_; (with_reducible refine (feed_Covers.calls kj77 _ _ y402 (fun k_ => some k_ = (.slice Ao116 x7_2.length co116 : Value).ownBlock) _ _ x7_2 false _ ?side1 ?side2 ?side3 A97.out).mono ?_); (case side1 => exact Kd.CA (Kd.R_reads' HO404.out).2.2); (case side2 => exact (Kd.R_reads' HO404.out).2.1); (case side3 => exact Kd.R_V (Kd.R_tight rfl (Kd.R_types (Kd.R_types (HO_7.out) BK342.out (by decide)) BK401.out (by decide)))); rintro e w117 ⟨rfl, hb⟩; refine ⟨_, rfl, ?_⟩; replace HO_7 := Aside0.mk (Kd.R_below (Kd.RA HO_7.out) hb); replace HO_343001 := Aside0.mk (Kd.V_below (Kd.VA HO_343001.out) hb); replace HO396 := Aside0.mk (Kd.V_below (Kd.VA HO396.out) hb); replace HO404 := Aside0.mk (Kd.R_below (Kd.RA HO404.out) hb); replace BK342 := Aside0.mk (blk_below (BA BK342.out) hb); replace BK401 := Aside0.mk (blk_below (BA BK401.out) hb); replace HB := Aside0.mk (below_step (LA HB.out) hb); (try clear HO400); (try clear hb); (try clear hb2); (try clear hk); (try clear hi)))
                        go_meet
                        case rel => exact ⟨_, (true), (by first | (rw [HR_.out]; done) | rfl | (rw [HR_.out]; rfl) | (simp [HR_.out]; done) | (simp; done) | (simp [*]; done)), H', ⟨by have := HJ3.out; have := HK2.out; have := HJ77.out; first | omega | exact Nat.le_refl _⟩, ⟨by (with_reducible repeat (first | apply Kd.R_alloc | apply Kd.R_drewN | apply Kd.R_drew)); exact Kd.R_mono HO_7.out (fun _ hk => hk.2)⟩, ⟨by (with_reducible repeat (first | apply Kd.R_alloc | apply Kd.R_drewN | apply Kd.R_drew)); exact Kd.R_mono HO404.out (fun _ hk => hk.1)⟩, ⟨by (with_reducible repeat (first | apply Kd.V_alloc | apply Kd.V_drewN | apply Kd.V_drew)); exact Kd.V_mono HO_343001.out (fun _ hk => ⟨hk.1.1, ⟨hk.2, ⟨hk.1.2.2.1, hk.1.2.2.2⟩⟩⟩)⟩, ⟨by (with_reducible repeat (first | apply Kd.V_alloc | apply Kd.V_drewN | apply Kd.V_drew)); exact Kd.V_mono HO396.out (fun _ hk => ⟨hk.1.1, ⟨hk.2, ⟨hk.1.2.2.1, hk.1.2.2.2⟩⟩⟩)⟩, ⟨by (with_reducible repeat (first | refine blk_drewN ?_ _ | refine blk_drew ?_ | refine blk_alloc ?_ _)); exact BK342.out⟩, ⟨by (with_reducible repeat (first | refine blk_drewN ?_ _ | refine blk_drew ?_ | refine blk_alloc ?_ _)); exact BK401.out⟩, ⟨LG HB.out (G1 GE342.out (G1 GE401.out G0))⟩⟩
                    case rest =>
                      clear HC87
                      try clear c1
                      try clear c2
                      try clear p2
                      try clear p3
                      try clear q3
                      try clear hx3
                      try clear c4
                      try clear c5
                      try clear p6
                      try clear c7
                      try clear c8
                      try clear c9
                      try clear c10
                      try clear c11
                      try clear c13
                      try clear c13b0
                      try clear c14
                      try clear c15
                      try clear c15b0
                      try clear c15b1
                      try clear c19
                      try clear c21
                      try clear c23
                      try clear p34
                      try clear q34
                      try clear hx34
                      try clear p36
                      try clear q36
                      try clear hx36
                      try clear p37
                      try clear q37
                      try clear hx37
                      try clear c40
                      try clear c41
                      try clear c42
                      try clear c44
                      try clear c47
                      try clear c50
                      try clear p64
                      try clear c79
                      try clear c79b0
                      try clear c84
                      try clear c86
                      try clear c92
                      try clear c98
                      try clear c100
                      try clear c101
                      try clear c101b0
                      try clear c101b1
                      try clear c105
                      try clear c110
                      try clear hcz106_0
                      try clear hcz106_1
                      try clear hcz106_2
                      try clear hcz111_0
                      try clear hcz111_1
                      try clear hcz111_2
                      try clear hcz43_0
                      try clear hcz43_1
                      try clear hcz43_2
                      try clear hcz45_0
                      try clear hcz45_1
                      try clear hcz45_2
                      try clear hcz77_0
                      try clear hcz77_1
                      try clear hcz77_2
                      try clear hcz80_0
                      try clear hcz80_1
                      try clear hcz80_2
                      try clear hcz82_0
                      try clear hcz82_1
                      try clear hcz82_2
                      try clear hcz88_0
                      try clear hcz88_1
                      try clear hcz88_2
                      try clear hcz93_0
                      try clear hcz93_1
                      try clear hcz93_2
                      try clear hfz106_0
                      try clear hfz106_1
                      try clear hfz106_2
                      try clear hfz111_0
                      try clear hfz111_1
                      try clear hfz111_2
                      try clear hfz25_0
                      try clear hfz25_1
                      try clear hfz25_2
                      try clear hfz28_0
                      try clear hfz28_1
                      try clear hfz28_2
                      try clear hfz28_3
                      try clear hfz28_4
                      try clear hfz28_5
                      try clear hfz28_6
                      try clear hfz28_7
                      try clear hfz33_0
                      try clear hfz33_1
                      try clear hfz33_2
                      try clear hfz33_3
                      try clear hfz33_4
                      try clear hfz33_5
                      try clear hfz33_6
                      try clear hfz33_7
                      try clear hfz39_0
                      try clear hfz39_1
                      try clear hfz39_2
                      try clear hfz43_0
                      try clear hfz43_1
                      try clear hfz43_2
                      try clear hfz45_0
                      try clear hfz45_1
                      try clear hfz45_2
                      try clear hfz77_0
                      try clear hfz77_1
                      try clear hfz77_2
                      try clear hfz7_0
                      try clear hfz7_1
                      try clear hfz7_2
                      try clear hfz80_0
                      try clear hfz80_1
                      try clear hfz80_2
                      try clear hfz82_0
                      try clear hfz82_1
                      try clear hfz82_2
                      try clear hfz88_0
                      try clear hfz88_1
                      try clear hfz88_2
                      try clear hfz93_0
                      try clear hfz93_1
                      try clear hfz93_2
                      try clear hx344_0
                      try clear hx364_0
                      try clear hx376_0
                      try clear p2
                      try clear p3
                      try clear p34
                      try clear p344
                      try clear p36
                      try clear p364
                      try clear p37
                      try clear p376
                      try clear p6
                      try clear p64
                      try clear q3
                      try clear q34
                      try clear q344
                      try clear q36
                      try clear q364
                      try clear q37
                      try clear q376
                      obtain ⟨kq, x121_86, rfl, HA, HJ86, HO_7, HO_8, HO_343001, HO_402001, BK342, BK401, HB⟩ := hcut
                      cases kq with
                      | zero => exact absurd HA.out (by simp [hopperlaw14_FeedCovers.j5])
                      | succ kj86 =>
                        have H := HA.out
                        clear HA
                        simp only [hopperlaw14_FeedCovers.j5] at H
                        by_cases c118 : x121_86 = true
                        · subst c118
                          have H1 : (some false) = some true := by rw [if_pos rfl] at H; exact H
                          clear H
                          have H := H1
                          clear H1
                          exact absurd H (by simp)
                        · replace c118 := Bool.eq_false_iff.mpr c118
                          subst c118
                          have H1 : (if x9_2 = true then ((hopperlaw14_live.f kj86).bind fun t407 => (some t407)) else ((hopperref13_Events.f kj86 y402 x7_2).bind fun t408 => (if t408 = true then ((hopperlaw14_live.f kj86).bind fun t409 => (some t409)) else (some false)))) = some true := by rw [if_neg (show ¬ (false = true) by decide)] at H; exact H
                          clear H
                          have H := H1
                          clear H1
                          by_cases c119 : x9_2 = true
                          · subst c119
                            have H1 : ((hopperlaw14_live.f kj86).bind fun t407 => (some t407)) = some true := by rw [if_pos rfl] at H; exact H
                            clear H
                            have H := H1
                            clear H1
                            replace H := Option.bind_eq_some_iff.mp H
                            obtain ⟨t407, A1200, H⟩ := H
                            try dsimp only at H
                            have A120 := Aside0.mk A1200
                            clear A1200
                            have HR_ := Aside0.mk (Option.some.inj H)
                            clear H
                            go_wp2_with (first | (go_at_call 10; (with_reducible refine (hopperlaw14_live.calls kj86  t407 _ A120.out).mono ?_); rintro e w121 ⟨rfl, hb⟩; replace HB := Aside0.mk (below_step (LA HB.out) hb); (try clear HO_7); (try clear HO_8); (try clear HO_343001); (try clear HO_402001); (try clear BK342); (try clear BK401); (try clear hb); (try clear hb2); (try clear hk); (try clear hi)))
                            go_ret
                            exact ⟨by first | exact (congrArg (fun b => Ending.returned (.bool b)) HR_.out) | (rw [HR_.out]; done) | rfl | (rw [HR_.out]; rfl) | (simp [HR_.out]; done) | (simp [errW_none, errW_some] <;> rfl) | (simp [*, errW_none, errW_some] <;> rfl), LG HB.out (G1 GE342.out (G1 GE401.out G0))⟩
                          · replace c119 := Bool.eq_false_iff.mpr c119
                            subst c119
                            have H1 : ((hopperref13_Events.f kj86 y402 x7_2).bind fun t408 => (if t408 = true then ((hopperlaw14_live.f kj86).bind fun t409 => (some t409)) else (some false))) = some true := by rw [if_neg (show ¬ (false = true) by decide)] at H; exact H
                            clear H
                            have H := H1
                            clear H1
                            replace H := Option.bind_eq_some_iff.mp H
                            obtain ⟨t408, A1220, H⟩ := H
                            try dsimp only at H
                            have A122 := Aside0.mk A1220
                            clear A1220
                            by_cases c123 : t408 = true
                            rotate_left
                            · replace c123 := Bool.eq_false_iff.mpr c123
                              subst c123
                              have H1 : (some false) = some true := by rw [if_neg (show ¬ (false = true) by decide)] at H; exact H
                              clear H
                              have H := H1
                              clear H1
                              exact absurd H (by simp)
                            subst c123
                            have H1 : ((hopperlaw14_live.f kj86).bind fun t409 => (some t409)) = some true := by rw [if_pos rfl] at H; exact H
                            clear H
                            have H := H1
                            clear H1
                            replace H := Option.bind_eq_some_iff.mp H
                            obtain ⟨t409, A1240, H⟩ := H
                            try dsimp only at H
                            have A124 := Aside0.mk A1240
                            clear A1240
                            have HR_ := Aside0.mk (Option.some.inj H)
                            clear H
                            obtain ⟨Ao125, co125, eo125⟩ := Kd.R_slice HO_8.out
                            subst eo125
                            obtain ⟨Ao126, co126, eo126⟩ := Kd.R_slice HO_7.out
                            subst eo126
                            go_wp2_with (first | (go_at_call 18; (with_reducible refine (hopperref13_Events.calls kj86 _ _ y402 _ _ x7_2 true _ ?side1 ?side2 ?side3 ?side4 A122.out).mono ?_); (case side1 => exact Kd.CA (Kd.R_reads' HO_8.out).2.2); (case side2 => exact (Kd.R_reads' HO_8.out).2.1); (case side3 => exact Kd.CA (Kd.R_reads' HO_7.out).2.2); (case side4 => exact (Kd.R_reads' HO_7.out).2.1); rintro e w' ⟨rfl, ⟨nd, rfl⟩⟩) | (go_at_call 10; (with_reducible refine (hopperlaw14_live.calls kj86  t409 _ A124.out).mono ?_); rintro e w127 ⟨rfl, hb⟩; replace HB := Aside0.mk (below_step (LA HB.out) hb); (try clear HO_7); (try clear HO_8); (try clear HO_343001); (try clear HO_402001); (try clear BK342); (try clear BK401); (try clear hb); (try clear hb2); (try clear hk); (try clear hi)))
                            go_ret
                            exact ⟨by first | exact (congrArg (fun b => Ending.returned (.bool b)) HR_.out) | (rw [HR_.out]; done) | rfl | (rw [HR_.out]; rfl) | (simp [HR_.out]; done) | (simp [errW_none, errW_some] <;> rfl) | (simp [*, errW_none, errW_some] <;> rfl), LG HB.out (G1 GE342.out (G1 GE401.out G0))⟩

-- GIVEN hopperlaw14_FeedCovers

end Go.Proofs.Ythmnedlaecekkaa.PFeedCovers
