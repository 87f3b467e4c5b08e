/- What the functions that the law reaches answer, each as a plain Lean function, with a proof that the call in memory comes to that answer. Written by wip/tools/given.py of this session out of the print.py of the kit, with stand-ins for some functions. -/
import Derived.Test.YthmnedlaecekkaaPFeedTellsx0
import Derived.Test.YthmnedlaecekkaaPFeedTellsx1
import Derived.Test.YthmnedlaecekkaaPFeedTellsx2
import Derived.Test.YthmnedlaecekkaaPFeedTellsx3
import Derived.Test.YthmnedlaecekkaaPFeedTellsx4
import Derived.Test.YthmnedlaecekkaaPFeedTellsx5
import Derived.Test.YthmnedlaecekkaaPFeedTellsx6
import Derived.Test.YthmnedlaecekkaaPFeedTellsx7
namespace Go.Proofs.Ythmnedlaecekkaa.PFeedTells
open Go.RowKit Go.Proofs.YthmnedlaecekkaaW.PrintWords Go.Proofs.YthmnedlaecekkaaW.PrintLast Go.Proofs.YthmnedlaecekkaaW.PrintMore
attribute [local go_sem] max2_int min2_int max_two min_two max_three min_three max_four min_four   -- for this text's walks alone
set_option linter.unusedVariables false
set_option linter.unusedSimpArgs false

attribute [local go_sem high] eqA36
/-! ### hopperlaw14_FeedTells: function 3 -/
mutual
def hopperlaw14_FeedTells.j0 : Nat → List (S36) → Int → Bool → Int → List (S36) → Int → Option (Bool)
  | 0, _, _, _, _, _, _ => none
  | k + 1, x1, x2, x30, x385000, x385001, x385002 => if x30 = true then ((hopperlaw14_live.f k).bind fun t387 => (some t387)) else ((feed_New.f x2).bind fun bt389 => ((hopperref14_New.f x2).bind fun bt396 => ((feed_Read.f x385000 x385001 x385002).bind fun bt403 => ((hopperref14_Read.f x385000 x385001 x385002).bind fun bt419 => ((feed_All.f k x385000 x385001 x385002).bind fun bt435 => ((hopperref14_All.f k x385000 x385001 x385002).bind fun bt444 => ((hopperref14_Same.f k bt389.1 bt389.2.1 bt389.2.2.1 bt396.1 bt396.2.1 bt396.2.2.1).bind fun t453 => (if t453 = true then (if bt389.2.2.2 = bt396.2.2.2 then ((hopperref14_Same.f k bt403.1 bt403.2.1 bt403.2.2.1 bt419.1 bt419.2.1 bt419.2.2.1).bind fun t454 => (if t454 = true then (if (!(bt403.2.2.2.1 == bt419.2.2.2.1) || ((!(bt403.2.2.2.2.1 == bt419.2.2.2.2.1) || (!(bt403.2.2.2.2.2.1 == bt419.2.2.2.2.2.1) || (!(bt403.2.2.2.2.2.2.1 == bt419.2.2.2.2.2.2.1) || (!(bt403.2.2.2.2.2.2.2.1 == bt419.2.2.2.2.2.2.2.1) || (!(bt403.2.2.2.2.2.2.2.2.1 == bt419.2.2.2.2.2.2.2.2.1) || (!(bt403.2.2.2.2.2.2.2.2.2.1.toList == bt419.2.2.2.2.2.2.2.2.2.1.toList))))))) || (!(bt403.2.2.2.2.2.2.2.2.2.2.1 == bt419.2.2.2.2.2.2.2.2.2.2.1)))) = true then (hopperlaw14_FeedTells.j1 k x1 true x385000 x385001 x385002 x385000 x385001 x385002) else (if bt403.2.2.2.2.2.2.2.2.2.2.2 = bt419.2.2.2.2.2.2.2.2.2.2.2 then ((hopperref14_Same.f k bt435.1 bt435.2.1 bt435.2.2.1 bt444.1 bt444.2.1 bt444.2.2.1).bind fun t455 => (if t455 = true then ((hopperref13_Events.f k bt435.2.2.2 bt444.2.2.2).bind fun t456 => (hopperlaw14_FeedTells.j1 k x1 (!t456) x385000 x385001 x385002 x385000 x385001 x385002)) else (hopperlaw14_FeedTells.j1 k x1 true x385000 x385001 x385002 x385000 x385001 x385002))) else (hopperlaw14_FeedTells.j1 k x1 true x385000 x385001 x385002 x385000 x385001 x385002))) else (hopperlaw14_FeedTells.j1 k x1 true x385000 x385001 x385002 x385000 x385001 x385002))) else (hopperlaw14_FeedTells.j1 k x1 true x385000 x385001 x385002 x385000 x385001 x385002)) else (hopperlaw14_FeedTells.j1 k x1 true x385000 x385001 x385002 x385000 x385001 x385002)))))))))
def hopperlaw14_FeedTells.j1 : Nat → List (S36) → Bool → Int → List (S36) → Int → Int → List (S36) → Int → Option (Bool)
  | 0, _, _, _, _, _, _, _, _ => none
  | k + 1, x1, x101, x385000, x385001, x385002, x389000, x389001, x389002 => if x101 = true then (some false) else ((feed_Tell.f k x389000 x389001 x389002 x1).bind fun bt457 => ((hopperref14_Tell.f k x385000 x385001 x385002 x1).bind fun bt462 => ((hopperref14_Same.f k bt457.1 bt457.2.1 bt457.2.2 bt462.1 bt462.2.1 bt462.2.2).bind fun t467 => (if t467 = true then ((feed_Covers.f k x385001 x1).bind fun t468 => ((hopperref14_Covers.f k x385001 x1).bind fun t469 => (if (t468 == t469) = true then ((hopperlaw14_live.f k).bind fun t470 => (some t470)) else (some false)))) else (some false)))))
end
def hopperlaw14_FeedTells.f (k : Nat) (a0_0 : Int) (l0_1 : List (S36)) (a0_2 : Int) (l1 : List (S36)) (a2 : Int) : Option (Bool) := (hopperref14_Few.f k l0_1 60).bind fun t385 => (if t385 = true then ((hopperref14_Few.f k l1 60).bind fun t386 => (hopperlaw14_FeedTells.j0 k l1 a2 (!t386) a0_0 l0_1 a0_2)) else (hopperlaw14_FeedTells.j0 k l1 a2 true a0_0 l0_1 a0_2))
theorem hopperlaw14_FeedTells.mono_l : ∀ k, (∀ y0 y1 y2 y3 y4 y5, LeO (hopperlaw14_FeedTells.j0 k y0 y1 y2 y3 y4 y5) (hopperlaw14_FeedTells.j0 (k + 1) y0 y1 y2 y3 y4 y5)) ∧ (∀ y0 y1 y2 y3 y4 y5 y6 y7, LeO (hopperlaw14_FeedTells.j1 k y0 y1 y2 y3 y4 y5 y6 y7) (hopperlaw14_FeedTells.j1 (k + 1) y0 y1 y2 y3 y4 y5 y6 y7))
  | 0 => ⟨fun _ _ _ _ _ _ r h => by simp [hopperlaw14_FeedTells.j0] at h, fun _ _ _ _ _ _ _ _ r h => by simp [hopperlaw14_FeedTells.j1] at h⟩
  | k + 1 => by
    obtain ⟨ih0, ih1⟩ := hopperlaw14_FeedTells.mono_l k
    refine ⟨?_, ?_⟩
    · intro y0 y1 y2 y3 y4 y5
      unfold hopperlaw14_FeedTells.j0
      repeat' first
      | (with_reducible exact ih0 _ _ _ _ _ _)
      | (with_reducible exact ih1 _ _ _ _ _ _ _ _)
      | (with_reducible exact feed_All.mono _ _ _ _)
      | (with_reducible exact feed_Covers.mono _ _ _)
      | (with_reducible exact feed_Tell.mono _ _ _ _ _)
      | (with_reducible exact hopperlaw14_live.mono _)
      | (with_reducible exact hopperref13_Events.mono _ _ _)
      | (with_reducible exact hopperref14_All.mono _ _ _ _)
      | (with_reducible exact hopperref14_Covers.mono _ _ _)
      | (with_reducible exact hopperref14_Few.mono _ _ _)
      | (with_reducible exact hopperref14_Same.mono _ _ _ _ _ _ _)
      | (with_reducible exact hopperref14_Tell.mono _ _ _ _ _)
      | (with_reducible exact LeO.refl _)
      | (with_reducible exact LeO.none _)
      | (with_reducible refine LeO.ite ?_ ?_)
      | (with_reducible refine LeO.bind ?_ (fun _ => ?_))
      | exact ih0 _ _ _ _ _ _
      | exact ih1 _ _ _ _ _ _ _ _
      | exact feed_All.mono _ _ _ _
      | exact feed_Covers.mono _ _ _
      | exact feed_Tell.mono _ _ _ _ _
      | exact hopperlaw14_live.mono _
      | exact hopperref13_Events.mono _ _ _
      | exact hopperref14_All.mono _ _ _ _
      | exact hopperref14_Covers.mono _ _ _
      | exact hopperref14_Few.mono _ _ _
      | exact hopperref14_Same.mono _ _ _ _ _ _ _
      | exact hopperref14_Tell.mono _ _ _ _ _
      | exact LeO.none _
      | refine LeO.ite ?_ ?_
      | refine LeO.bind ?_ (fun _ => ?_)
    · intro y0 y1 y2 y3 y4 y5 y6 y7
      unfold hopperlaw14_FeedTells.j1
      repeat' first
      | (with_reducible exact ih0 _ _ _ _ _ _)
      | (with_reducible exact ih1 _ _ _ _ _ _ _ _)
      | (with_reducible exact feed_All.mono _ _ _ _)
      | (with_reducible exact feed_Covers.mono _ _ _)
      | (with_reducible exact feed_Tell.mono _ _ _ _ _)
      | (with_reducible exact hopperlaw14_live.mono _)
      | (with_reducible exact hopperref13_Events.mono _ _ _)
      | (with_reducible exact hopperref14_All.mono _ _ _ _)
      | (with_reducible exact hopperref14_Covers.mono _ _ _)
      | (with_reducible exact hopperref14_Few.mono _ _ _)
      | (with_reducible exact hopperref14_Same.mono _ _ _ _ _ _ _)
      | (with_reducible exact hopperref14_Tell.mono _ _ _ _ _)
      | (with_reducible exact LeO.refl _)
      | (with_reducible exact LeO.none _)
      | (with_reducible refine LeO.ite ?_ ?_)
      | (with_reducible refine LeO.bind ?_ (fun _ => ?_))
      | exact ih0 _ _ _ _ _ _
      | exact ih1 _ _ _ _ _ _ _ _
      | exact feed_All.mono _ _ _ _
      | exact feed_Covers.mono _ _ _
      | exact feed_Tell.mono _ _ _ _ _
      | exact hopperlaw14_live.mono _
      | exact hopperref13_Events.mono _ _ _
      | exact hopperref14_All.mono _ _ _ _
      | exact hopperref14_Covers.mono _ _ _
      | exact hopperref14_Few.mono _ _ _
      | exact hopperref14_Same.mono _ _ _ _ _ _ _
      | exact hopperref14_Tell.mono _ _ _ _ _
      | exact LeO.none _
      | refine LeO.ite ?_ ?_
      | refine LeO.bind ?_ (fun _ => ?_)
theorem hopperlaw14_FeedTells.mono : ∀ a0 a1 a2 a3 a4 k, LeO (hopperlaw14_FeedTells.f k a0 a1 a2 a3 a4) (hopperlaw14_FeedTells.f (k + 1) a0 a1 a2 a3 a4) := by
  intro a0 a1 a2 a3 a4 k
  obtain ⟨ih0, ih1⟩ := hopperlaw14_FeedTells.mono_l k
  unfold hopperlaw14_FeedTells.f
  repeat' first
      | (with_reducible exact ih0 _ _ _ _ _ _)
      | (with_reducible exact ih1 _ _ _ _ _ _ _ _)
      | (with_reducible exact feed_All.mono _ _ _ _)
      | (with_reducible exact feed_Covers.mono _ _ _)
      | (with_reducible exact feed_Tell.mono _ _ _ _ _)
      | (with_reducible exact hopperlaw14_live.mono _)
      | (with_reducible exact hopperref13_Events.mono _ _ _)
      | (with_reducible exact hopperref14_All.mono _ _ _ _)
      | (with_reducible exact hopperref14_Covers.mono _ _ _)
      | (with_reducible exact hopperref14_Few.mono _ _ _)
      | (with_reducible exact hopperref14_Same.mono _ _ _ _ _ _ _)
      | (with_reducible exact hopperref14_Tell.mono _ _ _ _ _)
      | (with_reducible exact LeO.refl _)
      | (with_reducible exact LeO.none _)
      | (with_reducible refine LeO.ite ?_ ?_)
      | (with_reducible refine LeO.bind ?_ (fun _ => ?_))
      | exact ih0 _ _ _ _ _ _
      | exact ih1 _ _ _ _ _ _ _ _
      | exact feed_All.mono _ _ _ _
      | exact feed_Covers.mono _ _ _
      | exact feed_Tell.mono _ _ _ _ _
      | exact hopperlaw14_live.mono _
      | exact hopperref13_Events.mono _ _ _
      | exact hopperref14_All.mono _ _ _ _
      | exact hopperref14_Covers.mono _ _ _
      | exact hopperref14_Few.mono _ _ _
      | exact hopperref14_Same.mono _ _ _ _ _ _ _
      | exact hopperref14_Tell.mono _ _ _ _ _
      | exact LeO.none _
      | refine LeO.ite ?_ ?_
      | refine LeO.bind ?_ (fun _ => ?_)
def hopperlaw14_FeedTells.T12 : Bool × List (List Nat × List Nat) := (true, [([], []), ([], []), ([0, 1], [0, 1]), ([], []), ([], []), ([3, 4, 2], [3, 4]), ([2, 5, 5], [2, 5]), ([6, 6], [6]), ([7], [7]), ([8, 7], [7, 8]), ([7], [7]), ([9, 10, 7, 7], [7, 9, 10]), ([7], [7]), ([12, 7], [7, 12]), ([7], [7]), ([13, 14, 11, 7], [7, 13, 14]), ([11, 15, 7], [7, 11, 15]), ([7, 16], [7, 16]), ([17, 15], [17]), ([18, 18], [18]), ([18, 19], [18, 19]), ([20, 19, 0, 1, 2, 3, 4, 5, 6, 7, 8, 9, 10, 11, 12, 13, 14, 15, 16, 17, 18, 19, 20], [20])])
def hopperlaw14_FeedTells.B12 : List Nat := [0, 0, 3, 0, 0, 31, 63, 127, 255, 511, 255, 2047, 255, 4351, 255, 32767, 65535, 131071, 262143, 524287, 1048575, 2097151]
theorem hopperlaw14_FeedTells.tab12 : rtab .any (opsOf Try.f3 12) = hopperlaw14_FeedTells.T12 := by kernel_rfl
theorem hopperlaw14_FeedTells.bits12 : waitsOk hopperlaw14_FeedTells.T12.2 hopperlaw14_FeedTells.B12 = true := by kernel_rfl
attribute [local go_sem] joined_ite
set_option maxHeartbeats 60000000 in
set_option maxRecDepth 100000 in
theorem hopperlaw14_FeedTells.callsT (k : Nat) (a0_0 : Int) (A0_1 : Option Addr) (c0_1 : Nat) (l0_1 : List (S36)) (a0_2 : Int) (A1 : Option Addr) (c1 : Nat) (l1 : List (S36)) (a2 : Int) (w : World) (hr0_1 : Kd.C k36 w A0_1 l0_1.length l0_1) (hc0_1 : l0_1.length ≤ c0_1) (hr1 : Kd.C k36 w A1 l1.length l1) (hc1 : l1.length ≤ c1) (h : hopperlaw14_FeedTells.f k a0_0 l0_1 a0_2 l1 a2 = some true) :
    Calls Try.prog 3 #[.agg #[.int .i64 a0_0, .slice A0_1 l0_1.length c0_1, .int .i64 a0_2], .slice A1 l1.length c1, .int .i64 a2] w fun e w' => e = .returned (.bool true) ∧ Below w.heap.size w w' := by
  have hu24 := Try.underlying24
  have hu27 := Try.underlying27
  have hu36 := Try.underlying36
  have HR0_1 := Aside0.mk hr0_1
  have HC0_1 := Aside0.mk hc0_1
  clear hr0_1 hc0_1
  have HR1 := Aside0.mk hr1
  have HC1 := Aside0.mk hc1
  clear hr1 hc1
  have HB := Aside0.mk (Below.refl w.heap.size w)
  have H : ((hopperref14_Few.f k l0_1 60).bind fun t385 => (if t385 = true then ((hopperref14_Few.f k l1 60).bind fun t386 => (hopperlaw14_FeedTells.j0 k l1 a2 (!t386) a0_0 l0_1 a0_2)) else (hopperlaw14_FeedTells.j0 k l1 a2 true a0_0 l0_1 a0_2))) = some true := h
  clear h
  have HC4 := Aside0.mk H
  clear H
  go_enter Try.func3, Try.ntmps3
  go_upto_region 1 with (first | ((with_reducible refine gate_dst (N := 3) rfl ?_); refine box_event ?hg (N := 3) ?hd (cs := #[.int .i64 a0_0, .slice A0_1 l0_1.length c0_1, .int .i64 a0_2]) (t := 24) ?hr ?_; (case hd => rfl); (case hg => rfl); (case hr => first | (go_simp; done) | (go_simp; rfl)); intro gb384 hg w5 hbox hb; have BK384 := Aside0.mk (hbox); have GW384 := Aside0.mk (ge1 hg (LA HB.out)); have GE384 := Aside0.mk (ge1 hg (LA HB.out)); replace HB := Aside0.mk (below_step (LA HB.out) hb); clear hb hbox hg))
  (try simp only [Act.put, PU])
  go_cut [30] (fun v30 wc => ∃ (kq : Nat) (x30_3 : Bool), v30 = .bool x30_3 ∧ Aside0 (hopperlaw14_FeedTells.j0 kq l1 a2 x30_3 a0_0 l0_1 a0_2 = some true) ∧ Aside0 (kq ≤ k) ∧ Aside0 (wc.heap[gb384]? = some (.cells #[.int .i64 a0_0, (.slice A0_1 l0_1.length c0_1), .int .i64 a0_2] 24 (0, 0))) ∧ Aside0 (Below w.heap.size w wc))
  case first =>
    have H := HC4.out
    clear HC4
    replace H := Option.bind_eq_some_iff.mp H
    obtain ⟨t385, A60, H⟩ := H
    try dsimp only at H
    have A6 := Aside0.mk A60
    clear A60
    by_cases c7 : t385 = true
    · subst c7
      have H1 : ((hopperref14_Few.f k l1 60).bind fun t386 => (hopperlaw14_FeedTells.j0 k l1 a2 (!t386) a0_0 l0_1 a0_2)) = some true := by rw [if_pos rfl] at H; exact H
      clear H
      have H := H1
      clear H1
      replace H := Option.bind_eq_some_iff.mp H
      obtain ⟨t386, A80, H⟩ := H
      try dsimp only at H
      have A8 := Aside0.mk A80
      clear A80
      have H' := Aside0.mk H
      clear H
      have hcz9_0 : w5.cell? ⟨gb384, 0, none⟩ = some (.int .i64 a0_0) := (blk_cell BK384.out 0).trans rfl
      have hcz9_1 : w5.cell? ⟨gb384, 1, none⟩ = some (.slice A0_1 l0_1.length c0_1) := (blk_cell BK384.out 1).trans rfl
      have hcz9_2 : w5.cell? ⟨gb384, 2, none⟩ = some (.int .i64 a0_2) := (blk_cell BK384.out 2).trans rfl
      have hfz9_0 := blk_frozen BK384.out 0
      have hfz9_1 := blk_frozen BK384.out 1
      have hfz9_2 := blk_frozen BK384.out 2
      go_wp2_with (first | ((with_reducible refine gate_callee (f := 9) rfl ?_); refine goesL_ (some 24) rfl rfl Try.func9 (by kernel_rfl) rfl #[.slice A0_1 l0_1.length c0_1, .int .i64 60] rfl (by (try simp only [List.map_toArray, List.map_cons, List.map_nil]); first | done | rfl | (simp only [List.length_drop, List.length_take]; rfl)) ?_; (with_reducible refine (hopperref14_Few.calls k _ _ l0_1 60 true _ ?side1 ?side2 A6.out).mono ?_); (case side1 => exact Kd.CA (Kd.C_below HR0_1.out HB.out)); (case side2 => exact HC0_1.out); rintro e w' ⟨rfl, ⟨nd, rfl⟩⟩; refine ⟨_, rfl, ?_⟩) | (go_at_call 9; (with_reducible refine (hopperref14_Few.calls k _ _ l1 60 t386 _ ?side1 ?side2 A8.out).mono ?_); (case side1 => exact (Kd.C_below HR1.out (LA HB.out))); (case side2 => exact HC1.out); rintro e w' ⟨rfl, ⟨nd, rfl⟩⟩))
      go_meet
      case rel => exact ⟨_, (!t386), (by first | (rw [HR_.out]; done) | rfl | (rw [HR_.out]; rfl) | (simp [HR_.out]; done) | (simp; done) | (simp [*]; done)), H', ⟨by first | omega | exact Nat.le_refl _⟩, ⟨by (with_reducible repeat (first | refine blk_drewN ?_ _ | refine blk_drew ?_ | refine blk_alloc ?_ _)); exact BK384.out⟩, ⟨LG HB.out (G1 GE384.out G0)⟩⟩
    · replace c7 := Bool.eq_false_iff.mpr c7
      subst c7
      have H1 : (hopperlaw14_FeedTells.j0 k l1 a2 true a0_0 l0_1 a0_2) = some true := by rw [if_neg (show ¬ (false = true) by decide)] at H; exact H
      clear H
      have H := H1
      clear H1
      have H' := Aside0.mk H
      clear H
      have hcz10_0 : w5.cell? ⟨gb384, 0, none⟩ = some (.int .i64 a0_0) := (blk_cell BK384.out 0).trans rfl
      have hcz10_1 : w5.cell? ⟨gb384, 1, none⟩ = some (.slice A0_1 l0_1.length c0_1) := (blk_cell BK384.out 1).trans rfl
      have hcz10_2 : w5.cell? ⟨gb384, 2, none⟩ = some (.int .i64 a0_2) := (blk_cell BK384.out 2).trans rfl
      have hfz10_0 := blk_frozen BK384.out 0
      have hfz10_1 := blk_frozen BK384.out 1
      have hfz10_2 := blk_frozen BK384.out 2
      go_wp2_with (first | ((with_reducible refine gate_callee (f := 9) rfl ?_); refine goesL_ (some 24) rfl rfl Try.func9 (by kernel_rfl) rfl #[.slice A0_1 l0_1.length c0_1, .int .i64 60] rfl (by (try simp only [List.map_toArray, List.map_cons, List.map_nil]); first | done | rfl | (simp only [List.length_drop, List.length_take]; rfl)) ?_; (with_reducible refine (hopperref14_Few.calls k _ _ l0_1 60 false _ ?side1 ?side2 A6.out).mono ?_); (case side1 => exact Kd.CA (Kd.C_below HR0_1.out HB.out)); (case side2 => exact HC0_1.out); rintro e w' ⟨rfl, ⟨nd, rfl⟩⟩; refine ⟨_, rfl, ?_⟩))
      go_meet
      case rel => exact ⟨_, (true), (by first | (rw [HR_.out]; done) | rfl | (rw [HR_.out]; rfl) | (simp [HR_.out]; done) | (simp; done) | (simp [*]; done)), H', ⟨by first | omega | exact Nat.le_refl _⟩, ⟨by (with_reducible repeat (first | refine blk_drewN ?_ _ | refine blk_drew ?_ | refine blk_alloc ?_ _)); exact BK384.out⟩, ⟨LG HB.out (G1 GE384.out G0)⟩⟩
  case rest =>
    clear HC4
    try clear c1
    try clear p2
    try clear c3
    try clear c7
    try clear c9
    try clear hcz10_0
    try clear hcz10_1
    try clear hcz10_2
    try clear hcz9_0
    try clear hcz9_1
    try clear hcz9_2
    try clear hfz10_0
    try clear hfz10_1
    try clear hfz10_2
    try clear hfz9_0
    try clear hfz9_1
    try clear hfz9_2
    obtain ⟨kq, x30_3, rfl, HA, HJ3, BK384, HB⟩ := hcut
    cases kq with
    | zero => exact absurd HA.out (by simp [hopperlaw14_FeedTells.j0])
    | succ kj3 =>
      have H := HA.out
      clear HA
      simp only [hopperlaw14_FeedTells.j0] at H
      by_cases c11 : x30_3 = true
      · subst c11
        have H1 : ((hopperlaw14_live.f kj3).bind fun t387 => (some t387)) = some true := by rw [if_pos rfl] at H; exact H
        clear H
        have H := H1
        clear H1
        replace H := Option.bind_eq_some_iff.mp H
        obtain ⟨t387, A120, H⟩ := H
        try dsimp only at H
        have A12 := Aside0.mk A120
        clear A120
        have HR_ := Aside0.mk (Option.some.inj H)
        clear H
        go_wp2_with (first | ((with_reducible refine gate_callee (f := 10) rfl ?_); refine goesL_ (some 31) rfl rfl Try.func10 (by kernel_rfl) rfl #[] rfl (by (try simp only [List.map_toArray, List.map_cons, List.map_nil]); first | done | rfl | (simp only [List.length_drop, List.length_take]; rfl)) ?_; (with_reducible refine (hopperlaw14_live.calls kj3  t387 _ A12.out).mono ?_); rintro e w13 ⟨rfl, hb⟩; refine ⟨_, rfl, ?_⟩; replace HB := Aside0.mk (below_step (LA HB.out) hb); (try clear BK384); (try clear hb); (try clear hb2); (try clear hk); (try clear hi)))
        go_ret
        exact ⟨by first | exact (congrArg (fun b => Ending.returned (.bool b)) HR_.out) | (rw [HR_.out]; done) | rfl | (rw [HR_.out]; rfl) | (simp [HR_.out]; done) | (simp [errW_none, errW_some] <;> rfl) | (simp [*, errW_none, errW_some] <;> rfl), LG HB.out (G1 GE384.out G0)⟩
      · replace c11 := Bool.eq_false_iff.mpr c11
        subst c11
        have H1 : ((feed_New.f a2).bind fun bt389 => ((hopperref14_New.f a2).bind fun bt396 => ((feed_Read.f a0_0 l0_1 a0_2).bind fun bt403 => ((hopperref14_Read.f a0_0 l0_1 a0_2).bind fun bt419 => ((feed_All.f kj3 a0_0 l0_1 a0_2).bind fun bt435 => ((hopperref14_All.f kj3 a0_0 l0_1 a0_2).bind fun bt444 => ((hopperref14_Same.f kj3 bt389.1 bt389.2.1 bt389.2.2.1 bt396.1 bt396.2.1 bt396.2.2.1).bind fun t453 => (if t453 = true then (if bt389.2.2.2 = bt396.2.2.2 then ((hopperref14_Same.f kj3 bt403.1 bt403.2.1 bt403.2.2.1 bt419.1 bt419.2.1 bt419.2.2.1).bind fun t454 => (if t454 = true then (if (!(bt403.2.2.2.1 == bt419.2.2.2.1) || ((!(bt403.2.2.2.2.1 == bt419.2.2.2.2.1) || (!(bt403.2.2.2.2.2.1 == bt419.2.2.2.2.2.1) || (!(bt403.2.2.2.2.2.2.1 == bt419.2.2.2.2.2.2.1) || (!(bt403.2.2.2.2.2.2.2.1 == bt419.2.2.2.2.2.2.2.1) || (!(bt403.2.2.2.2.2.2.2.2.1 == bt419.2.2.2.2.2.2.2.2.1) || (!(bt403.2.2.2.2.2.2.2.2.2.1.toList == bt419.2.2.2.2.2.2.2.2.2.1.toList))))))) || (!(bt403.2.2.2.2.2.2.2.2.2.2.1 == bt419.2.2.2.2.2.2.2.2.2.2.1)))) = true then (hopperlaw14_FeedTells.j1 kj3 l1 true a0_0 l0_1 a0_2 a0_0 l0_1 a0_2) else (if bt403.2.2.2.2.2.2.2.2.2.2.2 = bt419.2.2.2.2.2.2.2.2.2.2.2 then ((hopperref14_Same.f kj3 bt435.1 bt435.2.1 bt435.2.2.1 bt444.1 bt444.2.1 bt444.2.2.1).bind fun t455 => (if t455 = true then ((hopperref13_Events.f kj3 bt435.2.2.2 bt444.2.2.2).bind fun t456 => (hopperlaw14_FeedTells.j1 kj3 l1 (!t456) a0_0 l0_1 a0_2 a0_0 l0_1 a0_2)) else (hopperlaw14_FeedTells.j1 kj3 l1 true a0_0 l0_1 a0_2 a0_0 l0_1 a0_2))) else (hopperlaw14_FeedTells.j1 kj3 l1 true a0_0 l0_1 a0_2 a0_0 l0_1 a0_2))) else (hopperlaw14_FeedTells.j1 kj3 l1 true a0_0 l0_1 a0_2 a0_0 l0_1 a0_2))) else (hopperlaw14_FeedTells.j1 kj3 l1 true a0_0 l0_1 a0_2 a0_0 l0_1 a0_2)) else (hopperlaw14_FeedTells.j1 kj3 l1 true a0_0 l0_1 a0_2 a0_0 l0_1 a0_2))))))))) = some true := by rw [if_neg (show ¬ (false = true) by decide)] at H; exact H
        clear H
        have H := H1
        clear H1
        replace H := Option.bind_eq_some_iff.mp H
        obtain ⟨⟨t389, t390, t393, t394⟩, A140, H⟩ := H
        try dsimp only at H
        have A14 := Aside0.mk A140
        clear A140
        replace H := Option.bind_eq_some_iff.mp H
        obtain ⟨⟨t396, t397, t400, t401⟩, A150, H⟩ := H
        try dsimp only at H
        have A15 := Aside0.mk A150
        clear A150
        replace H := Option.bind_eq_some_iff.mp H
        obtain ⟨⟨t403, t404, t407, t408, t409, t410, t411, t412, t413, t414, t415, t416⟩, A160, H⟩ := H
        try dsimp only at H
        have A16 := Aside0.mk A160
        clear A160
        replace H := Option.bind_eq_some_iff.mp H
        obtain ⟨⟨t419, t420, t423, t424, t425, t426, t427, t428, t429, t430, t431, t432⟩, A170, H⟩ := H
        try dsimp only at H
        have A17 := Aside0.mk A170
        clear A170
        replace H := Option.bind_eq_some_iff.mp H
        obtain ⟨⟨t435, t436, t439, t440⟩, A180, H⟩ := H
        try dsimp only at H
        have A18 := Aside0.mk A180
        clear A180
        replace H := Option.bind_eq_some_iff.mp H
        obtain ⟨⟨t444, t445, t448, t449⟩, A190, H⟩ := H
        try dsimp only at H
        have A19 := Aside0.mk A190
        clear A190
        have HC20 := Aside0.mk H
        clear H
        have hcz21_0 : wc.cell? ⟨gb384, 0, none⟩ = some (.int .i64 a0_0) := (blk_cell BK384.out 0).trans rfl
        have hcz21_1 : wc.cell? ⟨gb384, 1, none⟩ = some (.slice A0_1 l0_1.length c0_1) := (blk_cell BK384.out 1).trans rfl
        have hcz21_2 : wc.cell? ⟨gb384, 2, none⟩ = some (.int .i64 a0_2) := (blk_cell BK384.out 2).trans rfl
        have hfz21_0 := blk_frozen BK384.out 0
        have hfz21_1 := blk_frozen BK384.out 1
        have hfz21_2 := blk_frozen BK384.out 2
        go_upto_region 10 with (first | ((with_reducible refine gate_dst (N := 7) rfl ?_); refine box_event ?hg (N := 7) ?hd (cs := #[.int .i64 0, .slice none 0 0, .int .i64 0]) (t := 27) ?hr ?_; (case hd => rfl); (case hg => rfl); (case hr => first | (go_simp; done) | (go_simp; rfl)); intro gb388 hg w22 hbox hb; have BK388 := Aside0.mk (hbox); have GW388 := Aside0.mk (ge1 hg (LA HB.out)); have GE388 := Aside0.mk (ge1 hg (LA HB.out)); replace HB := Aside0.mk (below_step (LA HB.out) hb); have NB384_388 := Aside0.mk ((by rw [hg]; exact Nat.ne_of_lt (blk_lt (g := gb384) (o := .cells #[.int .i64 a0_0, .slice A0_1 l0_1.length c0_1, .int .i64 a0_2] 24 (0, 0)) (BA BK384.out)) : gb384 ≠ gb388)); have NB388_384 := Aside0.mk ((by rw [hg]; exact Nat.ne_of_gt (blk_lt (g := gb384) (o := .cells #[.int .i64 a0_0, .slice A0_1 l0_1.length c0_1, .int .i64 a0_2] 24 (0, 0)) (BA BK384.out)) : gb388 ≠ gb384)); replace BK384 := Aside0.mk (blk_below (BA BK384.out) hb); clear hb hbox hg; have hnb23 := NB388_384.out; have hnc23 := NB384_388.out; obtain ⟨hcz24_0, hcz24_1, hcz24_2, hfz24_0, hfz24_1, hfz24_2⟩ := cz3 BK388.out) | ((with_reducible refine gate_callee (f := 11) rfl ?_); refine goesL_ (some 35) rfl rfl Try.func11 (by kernel_rfl) rfl #[.int .i64 a2] rfl (by (try simp only [List.map_toArray, List.map_cons, List.map_nil]); first | done | rfl | (simp only [List.length_drop, List.length_take]; rfl)) ?_; (with_reducible refine (feed_New.calls a2 t389 t390 t393 t394 _ A14.out).mono ?_); rintro e w25 ⟨v391, rfl, ho0, hb⟩; refine ⟨_, rfl, ?_⟩; have HO392 := Aside0.mk (Kd.R_lower ho0 (below_size (LG HB.out (G1 GE388.out G0)))); replace BK384 := Aside0.mk (blk_below (BF BK384.out NB384_388.out) hb); replace BK388 := Aside0.mk (blk_below (g := gb388) (o := .cells #[.int .i64 a0_0, .slice A0_1 l0_1.length c0_1, .int .i64 a0_2] 27 (0, 0)) (BP BK388.out (by rfl)) hb); replace HB := Aside0.mk (below_step (LG HB.out (G1 GE388.out G0)) hb); (try clear hb); (try clear hb2); (try clear hk); (try clear hi); (try clear ho0)) | ((with_reducible refine gate_dst (N := 8) rfl ?_); refine box_event ?hg (N := 8) ?hd (cs := #[.int .i64 0, .slice none 0 0, .int .i64 0]) (t := 27) ?hr ?_; (case hd => rfl); (case hg => rfl); (case hr => first | (go_simp; done) | (go_simp; rfl)); intro gb395 hg w26 hbox hb; replace HO392 := Aside0.mk (Kd.R_below (Kd.RA HO392.out) hb); have BK395 := Aside0.mk (hbox); have GW395 := Aside0.mk (ge1 hg (LA HB.out)); have GE395 := Aside0.mk (ge1 hg (LA HB.out)); replace HB := Aside0.mk (below_step (LA HB.out) hb); have NB384_395 := Aside0.mk ((by rw [hg]; exact Nat.ne_of_lt (blk_lt (g := gb384) (o := .cells #[.int .i64 a0_0, .slice A0_1 l0_1.length c0_1, .int .i64 a0_2] 24 (0, 0)) (BA BK384.out)) : gb384 ≠ gb395)); have NB395_384 := Aside0.mk ((by rw [hg]; exact Nat.ne_of_gt (blk_lt (g := gb384) (o := .cells #[.int .i64 a0_0, .slice A0_1 l0_1.length c0_1, .int .i64 a0_2] 24 (0, 0)) (BA BK384.out)) : gb395 ≠ gb384)); replace BK384 := Aside0.mk (blk_below (BA BK384.out) hb); have NB388_395 := Aside0.mk ((by rw [hg]; exact Nat.ne_of_lt (blk_lt (g := gb388) (o := .cells #[.int .i64 a0_0, .slice A0_1 l0_1.length c0_1, .int .i64 a0_2] 27 (0, 0)) (BA BK388.out)) : gb388 ≠ gb395)); have NB395_388 := Aside0.mk ((by rw [hg]; exact Nat.ne_of_gt (blk_lt (g := gb388) (o := .cells #[.int .i64 a0_0, .slice A0_1 l0_1.length c0_1, .int .i64 a0_2] 27 (0, 0)) (BA BK388.out)) : gb395 ≠ gb388)); replace BK388 := Aside0.mk (blk_below (BA BK388.out) hb); clear hb hbox hg; have hnb27 := NB395_384.out; have hnc27 := NB384_395.out; have hnb28 := NB395_388.out; have hnc28 := NB388_395.out; obtain ⟨hcz29_0, hcz29_1, hcz29_2, hfz29_0, hfz29_1, hfz29_2⟩ := cz3 BK395.out; obtain ⟨Ao30, co30, eo30⟩ := Kd.R_slice HO392.out; subst eo30) | ((with_reducible refine gate_callee (f := 12) rfl ?_); refine goesL_ (some 40) rfl rfl Try.func12 (by kernel_rfl) rfl #[.int .i64 a2] rfl (by (try simp only [List.map_toArray, List.map_cons, List.map_nil]); first | done | rfl | (simp only [List.length_drop, List.length_take]; rfl)) ?_; (with_reducible refine (hopperref14_New.calls a2 t396 t397 t400 t401 _ A15.out).mono ?_); rintro e w31 ⟨v398, rfl, ho0, hb⟩; refine ⟨_, rfl, ?_⟩; have HO399 := Aside0.mk (Kd.R_lower (Kd.R_new' ho0 (Kd.R_lt ((Kd.R_mono (Kd.R_mv (g := gb395) (Kd.R_types HO392.out BK395.out (by decide)) (fun _ hk => hk.2)) (fun _ h_ => h_.1))))) (below_size (LG HB.out (G1 GE395.out G0)))); replace HO392 := Aside0.mk (Kd.R_elder' ((Kd.R_mono (Kd.R_mv (g := gb395) (Kd.R_types HO392.out BK395.out (by decide)) (fun _ hk => hk.2)) (fun _ h_ => h_.1))) (Kd.R_base ho0) hb); replace BK384 := Aside0.mk (blk_below (BF BK384.out NB384_395.out) hb); replace BK388 := Aside0.mk (blk_below (BF BK388.out NB388_395.out) hb); replace BK395 := Aside0.mk (blk_below (g := gb395) (o := .cells #[.int .i64 t389, .slice Ao30 t390.length co30, .int .i64 t393] 27 (0, 0)) (BP BK395.out (by rfl)) hb); replace HB := Aside0.mk (below_step (LG HB.out (G1 GE395.out G0)) hb); (try clear hb); (try clear hb2); (try clear hk); (try clear hi); (try clear ho0)) | ((with_reducible refine gate_dst (N := 10) rfl ?_); refine box_event ?hg (N := 10) ?hd (cs := #[.int .i64 0, .slice none 0 0, .int .i64 0]) (t := 24) ?hr ?_; (case hd => rfl); (case hg => rfl); (case hr => first | (go_simp; done) | (go_simp; rfl)); intro gb402 hg w32 hbox hb; replace HO392 := Aside0.mk (Kd.R_below (Kd.RA HO392.out) hb); replace HO399 := Aside0.mk (Kd.R_below (Kd.RA HO399.out) hb); have BK402 := Aside0.mk (hbox); have GW402 := Aside0.mk (ge1 hg (LA HB.out)); have GE402 := Aside0.mk (ge1 hg (LA HB.out)); replace HB := Aside0.mk (below_step (LA HB.out) hb); have NB384_402 := Aside0.mk ((by rw [hg]; exact Nat.ne_of_lt (blk_lt (g := gb384) (o := .cells #[.int .i64 a0_0, .slice A0_1 l0_1.length c0_1, .int .i64 a0_2] 24 (0, 0)) (BA BK384.out)) : gb384 ≠ gb402)); have NB402_384 := Aside0.mk ((by rw [hg]; exact Nat.ne_of_gt (blk_lt (g := gb384) (o := .cells #[.int .i64 a0_0, .slice A0_1 l0_1.length c0_1, .int .i64 a0_2] 24 (0, 0)) (BA BK384.out)) : gb402 ≠ gb384)); replace BK384 := Aside0.mk (blk_below (BA BK384.out) hb); have NB388_402 := Aside0.mk ((by rw [hg]; exact Nat.ne_of_lt (blk_lt (g := gb388) (o := .cells #[.int .i64 a0_0, .slice A0_1 l0_1.length c0_1, .int .i64 a0_2] 27 (0, 0)) (BA BK388.out)) : gb388 ≠ gb402)); have NB402_388 := Aside0.mk ((by rw [hg]; exact Nat.ne_of_gt (blk_lt (g := gb388) (o := .cells #[.int .i64 a0_0, .slice A0_1 l0_1.length c0_1, .int .i64 a0_2] 27 (0, 0)) (BA BK388.out)) : gb402 ≠ gb388)); replace BK388 := Aside0.mk (blk_below (BA BK388.out) hb); have NB395_402 := Aside0.mk ((by rw [hg]; exact Nat.ne_of_lt (blk_lt (g := gb395) (o := .cells #[.int .i64 t389, .slice Ao30 t390.length co30, .int .i64 t393] 27 (0, 0)) (BA BK395.out)) : gb395 ≠ gb402)); have NB402_395 := Aside0.mk ((by rw [hg]; exact Nat.ne_of_gt (blk_lt (g := gb395) (o := .cells #[.int .i64 t389, .slice Ao30 t390.length co30, .int .i64 t393] 27 (0, 0)) (BA BK395.out)) : gb402 ≠ gb395)); replace BK395 := Aside0.mk (blk_below (BA BK395.out) hb); clear hb hbox hg; have hnb33 := NB402_384.out; have hnc33 := NB384_402.out; have hnb34 := NB402_388.out; have hnc34 := NB388_402.out; have hnb35 := NB402_395.out; have hnc35 := NB395_402.out; obtain ⟨hcz36_0, hcz36_1, hcz36_2, hfz36_0, hfz36_1, hfz36_2⟩ := cz3 BK402.out; obtain ⟨Ao37, co37, eo37⟩ := Kd.R_slice HO399.out; subst eo37) | ((with_reducible refine gate_store (t := 24) (p := 10) rfl ?_); refine store_event (t := 24) (p := 10) (v := ?vo_w38) (w1 := (((w32.setCell ⟨gb402, 0, none⟩ (.int .i64 t396)).setCell ⟨gb402, 1, none⟩ (.slice Ao37 t397.length co37)).setCell ⟨gb402, 2, none⟩ (.int .i64 t400))) ?hg ?ho ?hn ?hr ?_; (case ho => rfl); (case hg => rfl); (case hn => rfl); (case hr => first | (go_simp; done) | (go_simp; rfl)); intro w38 hw; replace HO392 : Aside0 (Kd.R k36 36 w38 w.heap.size (fun k_ => some k_ ≠ (.slice Ao37 t397.length co37 : Value).ownBlock) (.slice Ao30 t390.length co30) t390) := ⟨(by rw [hw]; exact (Kd.R_mono (Kd.R_mv (g := gb402) (Kd.R_types HO392.out BK402.out (by decide)) (fun _ hk => hk.2)) (fun _ hk => hk.1.2)))⟩; replace HO399 : Aside0 (Kd.R k36 36 w38 w.heap.size (fun k_ => some k_ ≠ (.slice Ao30 t390.length co30 : Value).ownBlock) (.slice Ao37 t397.length co37) t397) := ⟨(by rw [hw]; exact (Kd.R_mono (Kd.R_mv (g := gb402) (Kd.R_types HO399.out BK402.out (by decide)) (fun _ hk => hk.2)) (fun _ hk => hk.1.2)))⟩; replace BK384 : Aside0 (w38.heap[gb384]? = some (.cells #[.int .i64 a0_0, .slice A0_1 l0_1.length c0_1, .int .i64 a0_2] 24 (0, 0))) := ⟨(by rw [hw]; exact (BF BK384.out NB384_402.out))⟩; replace BK388 : Aside0 (w38.heap[gb388]? = some (.cells #[.int .i64 a0_0, .slice A0_1 l0_1.length c0_1, .int .i64 a0_2] 27 (0, 0))) := ⟨(by rw [hw]; exact (BF BK388.out NB388_402.out))⟩; replace BK395 : Aside0 (w38.heap[gb395]? = some (.cells #[.int .i64 t389, .slice Ao30 t390.length co30, .int .i64 t393] 27 (0, 0))) := ⟨(by rw [hw]; exact (BF BK395.out NB395_402.out))⟩; replace BK402 : Aside0 (w38.heap[gb402]? = some (.cells #[.int .i64 t396, .slice Ao37 t397.length co37, .int .i64 t400] 24 (0, 0))) := ⟨(by rw [hw]; exact (BP BK402.out (by rfl)))⟩; replace HB : Aside0 (Below w.heap.size w w38) := ⟨(by rw [hw]; exact (LG HB.out (G1 GE402.out G0)))⟩; clear hw; obtain ⟨hcz39_0, hcz39_1, hcz39_2, hfz39_0, hfz39_1, hfz39_2⟩ := cz3 BK388.out) | ((with_reducible refine gate_callee (f := 13) rfl ?_); refine goesL_ (some 45) rfl rfl Try.func13 (by kernel_rfl) rfl #[.agg #[.int .i64 a0_0, .slice A0_1 l0_1.length c0_1, .int .i64 a0_2]] rfl (by (try simp only [List.map_toArray, List.map_cons, List.map_nil]); first | done | rfl | (simp only [List.length_drop, List.length_take]; rfl)) ?_; (with_reducible refine (feed_Read.calls a0_0 (fun k_ => k_ < w.heap.size) _ _ l0_1 a0_2 t403 t404 t407 t408 t409 t410 t411 t412 t413 t414 t415 t416 _ ?side1 A16.out).mono ?_); (case side1 => exact Kd.V_mk HC0_1.out (Kd.F_below (Kd.C_F k36_heap HR0_1.out) (LA HB.out))); rintro e w40 ⟨v405, rfl, ho0, hb⟩; refine ⟨_, rfl, ?_⟩; have HO406 := Aside0.mk (Kd.V_lower (Kd.V_mono (ok' := fun k_ => some k_ ≠ (.slice Ao30 t390.length co30 : Value).ownBlock ∧ some k_ ≠ (.slice Ao37 t397.length co37 : Value).ownBlock ∧ k_ ≠ gb384 ∧ k_ ≠ gb388 ∧ k_ ≠ gb395 ∧ k_ ≠ gb402) ho0 (fun k_ hk_ => ⟨Or.elim hk_ (fun hs_ => fun e_ => Nat.not_le.2 hs_ (Kd.R_base HO392.out k_ e_.symm)) (fun hn_ => (Kd.fresh' (Kd.R_lt (Kd.RA HO392.out)) k_ hn_)), Or.elim hk_ (fun hs_ => fun e_ => Nat.not_le.2 hs_ (Kd.R_base HO399.out k_ e_.symm)) (fun hn_ => (Kd.fresh' (Kd.R_lt (Kd.RA HO399.out)) k_ hn_)), Or.elim hk_ (fun hs_ => fun e_ => Nat.not_le.2 hs_ (by rw [e_]; exact GW384.out)) (fun hn_ => (Kd.freshB (g := gb384) (o := .cells #[.int .i64 a0_0, .slice A0_1 l0_1.length c0_1, .int .i64 a0_2] 24 (0, 0)) (BA BK384.out) k_ hn_)), Or.elim hk_ (fun hs_ => fun e_ => Nat.not_le.2 hs_ (by rw [e_]; exact GW388.out)) (fun hn_ => (Kd.freshB (g := gb388) (o := .cells #[.int .i64 a0_0, .slice A0_1 l0_1.length c0_1, .int .i64 a0_2] 27 (0, 0)) (BA BK388.out) k_ hn_)), Or.elim hk_ (fun hs_ => fun e_ => Nat.not_le.2 hs_ (by rw [e_]; exact GW395.out)) (fun hn_ => (Kd.freshB (g := gb395) (o := .cells #[.int .i64 t389, .slice Ao30 t390.length co30, .int .i64 t393] 27 (0, 0)) (BA BK395.out) k_ hn_)), Or.elim hk_ (fun hs_ => fun e_ => Nat.not_le.2 hs_ (by rw [e_]; exact GW402.out)) (fun hn_ => (Kd.freshB (g := gb402) (o := .cells #[.int .i64 t396, .slice Ao37 t397.length co37, .int .i64 t400] 24 (0, 0)) (BA BK402.out) k_ hn_))⟩)) (below_size (LA HB.out))); replace HO392 := Aside0.mk (Kd.R_below (Kd.RA HO392.out) hb); replace HO399 := Aside0.mk (Kd.R_below (Kd.RA HO399.out) hb); replace BK384 := Aside0.mk (blk_below (BA BK384.out) hb); replace BK388 := Aside0.mk (blk_below (BA BK388.out) hb); replace BK395 := Aside0.mk (blk_below (BA BK395.out) hb); replace BK402 := Aside0.mk (blk_below (BA BK402.out) hb); replace HB := Aside0.mk (below_step (LA HB.out) hb); (try clear hb); (try clear hb2); (try clear hk); (try clear hi); (try clear ho0)) | ((with_reducible refine gate_dst (N := 12) rfl ?_); refine box_event ?hg (N := 12) ?hd (cs := #[.int .i64 0, .slice none 0 0, .int .i64 0]) (t := 27) ?hr ?_; (case hd => rfl); (case hg => rfl); (case hr => first | (go_simp; done) | (go_simp; rfl)); intro gb417 hg w41 hbox hb; replace HO392 := Aside0.mk (Kd.R_below (Kd.RA HO392.out) hb); replace HO399 := Aside0.mk (Kd.R_below (Kd.RA HO399.out) hb); replace HO406 := Aside0.mk (Kd.V_below (Kd.V_elderB (Kd.VA HO406.out) gb417 (Nat.le_of_eq hg.symm)) hb); have BK417 := Aside0.mk (hbox); have GW417 := Aside0.mk (ge1 hg (LA HB.out)); have GE417 := Aside0.mk (ge1 hg (LA HB.out)); replace HB := Aside0.mk (below_step (LA HB.out) hb); have NB384_417 := Aside0.mk ((by rw [hg]; exact Nat.ne_of_lt (blk_lt (g := gb384) (o := .cells #[.int .i64 a0_0, .slice A0_1 l0_1.length c0_1, .int .i64 a0_2] 24 (0, 0)) (BA BK384.out)) : gb384 ≠ gb417)); have NB417_384 := Aside0.mk ((by rw [hg]; exact Nat.ne_of_gt (blk_lt (g := gb384) (o := .cells #[.int .i64 a0_0, .slice A0_1 l0_1.length c0_1, .int .i64 a0_2] 24 (0, 0)) (BA BK384.out)) : gb417 ≠ gb384)); replace BK384 := Aside0.mk (blk_below (BA BK384.out) hb); have NB388_417 := Aside0.mk ((by rw [hg]; exact Nat.ne_of_lt (blk_lt (g := gb388) (o := .cells #[.int .i64 a0_0, .slice A0_1 l0_1.length c0_1, .int .i64 a0_2] 27 (0, 0)) (BA BK388.out)) : gb388 ≠ gb417)); have NB417_388 := Aside0.mk ((by rw [hg]; exact Nat.ne_of_gt (blk_lt (g := gb388) (o := .cells #[.int .i64 a0_0, .slice A0_1 l0_1.length c0_1, .int .i64 a0_2] 27 (0, 0)) (BA BK388.out)) : gb417 ≠ gb388)); replace BK388 := Aside0.mk (blk_below (BA BK388.out) hb); have NB395_417 := Aside0.mk ((by rw [hg]; exact Nat.ne_of_lt (blk_lt (g := gb395) (o := .cells #[.int .i64 t389, .slice Ao30 t390.length co30, .int .i64 t393] 27 (0, 0)) (BA BK395.out)) : gb395 ≠ gb417)); have NB417_395 := Aside0.mk ((by rw [hg]; exact Nat.ne_of_gt (blk_lt (g := gb395) (o := .cells #[.int .i64 t389, .slice Ao30 t390.length co30, .int .i64 t393] 27 (0, 0)) (BA BK395.out)) : gb417 ≠ gb395)); replace BK395 := Aside0.mk (blk_below (BA BK395.out) hb); have NB402_417 := Aside0.mk ((by rw [hg]; exact Nat.ne_of_lt (blk_lt (g := gb402) (o := .cells #[.int .i64 t396, .slice Ao37 t397.length co37, .int .i64 t400] 24 (0, 0)) (BA BK402.out)) : gb402 ≠ gb417)); have NB417_402 := Aside0.mk ((by rw [hg]; exact Nat.ne_of_gt (blk_lt (g := gb402) (o := .cells #[.int .i64 t396, .slice Ao37 t397.length co37, .int .i64 t400] 24 (0, 0)) (BA BK402.out)) : gb417 ≠ gb402)); replace BK402 := Aside0.mk (blk_below (BA BK402.out) hb); clear hb hbox hg) | ((with_reducible refine gate_dst (N := 13) rfl ?_); refine box_event ?hg (N := 13) ?hd (cs := #[.int .i64 0, .int .i64 0, .int .i64 0, .int .i64 0, .int .i64 0, .int .i64 0, .string (⟨#[]⟩ : ByteArray), .int .i64 0]) (t := 36) ?hr ?_; (case hd => rfl); (case hg => rfl); (case hr => first | (go_simp; done) | (go_simp; rfl)); intro gb418 hg w42 hbox hb; replace HO392 := Aside0.mk (Kd.R_below (Kd.R_elderB (Kd.RA HO392.out) gb418 (Nat.le_of_eq hg.symm)) hb); replace HO399 := Aside0.mk (Kd.R_below (Kd.R_elderB (Kd.RA HO399.out) gb418 (Nat.le_of_eq hg.symm)) hb); replace HO406 := Aside0.mk (Kd.V_below (Kd.V_elderB (Kd.VA HO406.out) gb418 (Nat.le_of_eq hg.symm)) hb); have BK418 := Aside0.mk (hbox); have GW418 := Aside0.mk (ge1 hg (LA HB.out)); have GE418 := Aside0.mk (ge1 hg (LA HB.out)); replace HB := Aside0.mk (below_step (LA HB.out) hb); have NB384_418 := Aside0.mk ((by rw [hg]; exact Nat.ne_of_lt (blk_lt (g := gb384) (o := .cells #[.int .i64 a0_0, .slice A0_1 l0_1.length c0_1, .int .i64 a0_2] 24 (0, 0)) (BA BK384.out)) : gb384 ≠ gb418)); have NB418_384 := Aside0.mk ((by rw [hg]; exact Nat.ne_of_gt (blk_lt (g := gb384) (o := .cells #[.int .i64 a0_0, .slice A0_1 l0_1.length c0_1, .int .i64 a0_2] 24 (0, 0)) (BA BK384.out)) : gb418 ≠ gb384)); replace BK384 := Aside0.mk (blk_below (BA BK384.out) hb); have NB388_418 := Aside0.mk ((by rw [hg]; exact Nat.ne_of_lt (blk_lt (g := gb388) (o := .cells #[.int .i64 a0_0, .slice A0_1 l0_1.length c0_1, .int .i64 a0_2] 27 (0, 0)) (BA BK388.out)) : gb388 ≠ gb418)); have NB418_388 := Aside0.mk ((by rw [hg]; exact Nat.ne_of_gt (blk_lt (g := gb388) (o := .cells #[.int .i64 a0_0, .slice A0_1 l0_1.length c0_1, .int .i64 a0_2] 27 (0, 0)) (BA BK388.out)) : gb418 ≠ gb388)); replace BK388 := Aside0.mk (blk_below (BA BK388.out) hb); have NB395_418 := Aside0.mk ((by rw [hg]; exact Nat.ne_of_lt (blk_lt (g := gb395) (o := .cells #[.int .i64 t389, .slice Ao30 t390.length co30, .int .i64 t393] 27 (0, 0)) (BA BK395.out)) : gb395 ≠ gb418)); have NB418_395 := Aside0.mk ((by rw [hg]; exact Nat.ne_of_gt (blk_lt (g := gb395) (o := .cells #[.int .i64 t389, .slice Ao30 t390.length co30, .int .i64 t393] 27 (0, 0)) (BA BK395.out)) : gb418 ≠ gb395)); replace BK395 := Aside0.mk (blk_below (BA BK395.out) hb); have NB402_418 := Aside0.mk ((by rw [hg]; exact Nat.ne_of_lt (blk_lt (g := gb402) (o := .cells #[.int .i64 t396, .slice Ao37 t397.length co37, .int .i64 t400] 24 (0, 0)) (BA BK402.out)) : gb402 ≠ gb418)); have NB418_402 := Aside0.mk ((by rw [hg]; exact Nat.ne_of_gt (blk_lt (g := gb402) (o := .cells #[.int .i64 t396, .slice Ao37 t397.length co37, .int .i64 t400] 24 (0, 0)) (BA BK402.out)) : gb418 ≠ gb402)); replace BK402 := Aside0.mk (blk_below (BA BK402.out) hb); have NB417_418 := Aside0.mk ((by rw [hg]; exact Nat.ne_of_lt (blk_lt (g := gb417) (o := .cells #[.int .i64 0, .slice none 0 0, .int .i64 0] 27 (0, 0)) (BA BK417.out)) : gb417 ≠ gb418)); have NB418_417 := Aside0.mk ((by rw [hg]; exact Nat.ne_of_gt (blk_lt (g := gb417) (o := .cells #[.int .i64 0, .slice none 0 0, .int .i64 0] 27 (0, 0)) (BA BK417.out)) : gb418 ≠ gb417)); replace BK417 := Aside0.mk (blk_below (BA BK417.out) hb); clear hb hbox hg; have hnb43 := NB417_384.out; have hnc43 := NB384_417.out; have hnb44 := NB417_388.out; have hnc44 := NB388_417.out; have hnb45 := NB417_395.out; have hnc45 := NB395_417.out; have hnb46 := NB417_402.out; have hnc46 := NB402_417.out; have hnb47 := NB417_418.out; have hnc47 := NB418_417.out; obtain ⟨hcz48_0, hcz48_1, hcz48_2, hfz48_0, hfz48_1, hfz48_2⟩ := cz3 BK417.out; obtain ⟨Ao49, co49, eo49⟩ := Kd.V_slice HO406.out; subst eo49) | ((with_reducible refine gate_store (t := 27) (p := 12) rfl ?_); refine store_event (t := 27) (p := 12) (v := ?vo_w50) (w1 := (((w42.setCell ⟨gb417, 0, none⟩ (.int .i64 t403)).setCell ⟨gb417, 1, none⟩ (.slice Ao49 t404.length co49)).setCell ⟨gb417, 2, none⟩ (.int .i64 t407))) ?hg ?ho ?hn ?hr ?_; (case ho => rfl); (case hg => rfl); (case hn => rfl); (case hr => first | (go_simp; done) | (go_simp; rfl)); intro w50 hw; replace HO392 : Aside0 (Kd.R k36 36 w50 w.heap.size (fun k_ => some k_ ≠ (.slice Ao37 t397.length co37 : Value).ownBlock ∧ k_ ≠ gb418) (.slice Ao30 t390.length co30) t390) := ⟨(by rw [hw]; exact (Kd.R_mono (Kd.R_mv (g := gb417) (Kd.R_types HO392.out BK417.out (by decide)) (fun _ hk => hk.2)) (fun _ hk => ⟨hk.1.1, hk.1.2⟩)))⟩; replace HO399 : Aside0 (Kd.R k36 36 w50 w.heap.size (fun k_ => some k_ ≠ (.slice Ao30 t390.length co30 : Value).ownBlock ∧ k_ ≠ gb418) (.slice Ao37 t397.length co37) t397) := ⟨(by rw [hw]; exact (Kd.R_mono (Kd.R_mv (g := gb417) (Kd.R_types HO399.out BK417.out (by decide)) (fun _ hk => hk.2)) (fun _ hk => ⟨hk.1.1, hk.1.2⟩)))⟩; replace HO406 : Aside0 (Kd.V k36 36 w50 w.heap.size (fun k_ => some k_ ≠ (.slice Ao30 t390.length co30 : Value).ownBlock ∧ some k_ ≠ (.slice Ao37 t397.length co37 : Value).ownBlock ∧ k_ ≠ gb384 ∧ k_ ≠ gb388 ∧ k_ ≠ gb395 ∧ k_ ≠ gb402 ∧ k_ ≠ gb417 ∧ k_ ≠ gb418) (.slice Ao49 t404.length co49) t404) := ⟨(by rw [hw]; exact (Kd.V_mono (Kd.V_mv (g := gb417) (Kd.V_mono HO406.out (fun k_ hk => (⟨hk, hk.1.2⟩ : _ ∧ k_ ≠ gb417))) (fun _ hk => hk.2)) (fun _ hk => ⟨hk.1.1.1.1, ⟨hk.1.1.1.2.1, ⟨hk.1.1.1.2.2.1, ⟨hk.1.1.1.2.2.2.1, ⟨hk.1.1.1.2.2.2.2.1, ⟨hk.1.1.1.2.2.2.2.2, ⟨hk.1.1.2, hk.1.2⟩⟩⟩⟩⟩⟩⟩)))⟩; replace BK384 : Aside0 (w50.heap[gb384]? = some (.cells #[.int .i64 a0_0, .slice A0_1 l0_1.length c0_1, .int .i64 a0_2] 24 (0, 0))) := ⟨(by rw [hw]; exact (BF BK384.out NB384_417.out))⟩; replace BK388 : Aside0 (w50.heap[gb388]? = some (.cells #[.int .i64 a0_0, .slice A0_1 l0_1.length c0_1, .int .i64 a0_2] 27 (0, 0))) := ⟨(by rw [hw]; exact (BF BK388.out NB388_417.out))⟩; replace BK395 : Aside0 (w50.heap[gb395]? = some (.cells #[.int .i64 t389, .slice Ao30 t390.length co30, .int .i64 t393] 27 (0, 0))) := ⟨(by rw [hw]; exact (BF BK395.out NB395_417.out))⟩; replace BK402 : Aside0 (w50.heap[gb402]? = some (.cells #[.int .i64 t396, .slice Ao37 t397.length co37, .int .i64 t400] 24 (0, 0))) := ⟨(by rw [hw]; exact (BF BK402.out NB402_417.out))⟩; replace BK417 : Aside0 (w50.heap[gb417]? = some (.cells #[.int .i64 t403, .slice Ao49 t404.length co49, .int .i64 t407] 27 (0, 0))) := ⟨(by rw [hw]; exact (BP BK417.out (by rfl)))⟩; replace BK418 : Aside0 (w50.heap[gb418]? = some (.cells #[.int .i64 0, .int .i64 0, .int .i64 0, .int .i64 0, .int .i64 0, .int .i64 0, .string (⟨#[]⟩ : ByteArray), .int .i64 0] 36 (0, 0))) := ⟨(by rw [hw]; exact (BF BK418.out NB418_417.out))⟩; replace HB : Aside0 (Below w.heap.size w w50) := ⟨(by rw [hw]; exact (LG HB.out (G1 GE417.out G0)))⟩; clear hw; have hnb51 := NB418_384.out; have hnc51 := NB384_418.out; have hnb52 := NB418_388.out; have hnc52 := NB388_418.out; have hnb53 := NB418_395.out; have hnc53 := NB395_418.out; have hnb54 := NB418_402.out; have hnc54 := NB402_418.out; obtain ⟨hcz55_0, hcz55_1, hcz55_2, hcz55_3, hcz55_4, hcz55_5, hcz55_6, hcz55_7, hfz55_0, hfz55_1, hfz55_2, hfz55_3, hfz55_4, hfz55_5, hfz55_6, hfz55_7⟩ := cz8 BK418.out) | ((with_reducible refine gate_store (t := 36) (p := 13) rfl ?_); refine store_event (t := 36) (p := 13) (v := ?vo_w56) (w1 := ((((((((w50.setCell ⟨gb418, 0, none⟩ (.int .i64 t408)).setCell ⟨gb418, 1, none⟩ (.int .i64 t409)).setCell ⟨gb418, 2, none⟩ (.int .i64 t410)).setCell ⟨gb418, 3, none⟩ (.int .i64 t411)).setCell ⟨gb418, 4, none⟩ (.int .i64 t412)).setCell ⟨gb418, 5, none⟩ (.int .i64 t413)).setCell ⟨gb418, 6, none⟩ (.string t414)).setCell ⟨gb418, 7, none⟩ (.int .i64 t415))) ?hg ?ho ?hn ?hr ?_; (case ho => rfl); (case hg => rfl); (case hn => rfl); (case hr => first | (go_simp; done) | (go_simp; rfl)); intro w56 hw; replace HO392 : Aside0 (Kd.R k36 36 w56 w.heap.size (fun k_ => some k_ ≠ (.slice Ao37 t397.length co37 : Value).ownBlock ∧ k_ ≠ gb418) (.slice Ao30 t390.length co30) t390) := ⟨(by rw [hw]; exact (Kd.R_mono (Kd.R_mv (g := gb418) (Kd.R_mono HO392.out (fun k_ hk => (⟨hk, hk.2⟩ : _ ∧ k_ ≠ gb418))) (fun _ hk => hk.2)) (fun _ hk => ⟨hk.1.1, hk.1.2⟩)))⟩; replace HO399 : Aside0 (Kd.R k36 36 w56 w.heap.size (fun k_ => some k_ ≠ (.slice Ao30 t390.length co30 : Value).ownBlock ∧ k_ ≠ gb418) (.slice Ao37 t397.length co37) t397) := ⟨(by rw [hw]; exact (Kd.R_mono (Kd.R_mv (g := gb418) (Kd.R_mono HO399.out (fun k_ hk => (⟨hk, hk.2⟩ : _ ∧ k_ ≠ gb418))) (fun _ hk => hk.2)) (fun _ hk => ⟨hk.1.1, hk.1.2⟩)))⟩; replace HO406 : Aside0 (Kd.V k36 36 w56 w.heap.size (fun k_ => some k_ ≠ (.slice Ao30 t390.length co30 : Value).ownBlock ∧ some k_ ≠ (.slice Ao37 t397.length co37 : Value).ownBlock ∧ k_ ≠ gb384 ∧ k_ ≠ gb388 ∧ k_ ≠ gb395 ∧ k_ ≠ gb402 ∧ k_ ≠ gb417 ∧ k_ ≠ gb418) (.slice Ao49 t404.length co49) t404) := ⟨(by rw [hw]; exact (Kd.V_mono (Kd.V_mv (g := gb418) (Kd.V_mono HO406.out (fun k_ hk => (⟨hk, hk.2.2.2.2.2.2.2⟩ : _ ∧ k_ ≠ gb418))) (fun _ hk => hk.2)) (fun _ hk => ⟨hk.1.1, ⟨hk.1.2.1, ⟨hk.1.2.2.1, ⟨hk.1.2.2.2.1, ⟨hk.1.2.2.2.2.1, ⟨hk.1.2.2.2.2.2.1, ⟨hk.1.2.2.2.2.2.2.1, hk.1.2.2.2.2.2.2.2⟩⟩⟩⟩⟩⟩⟩)))⟩; replace BK384 : Aside0 (w56.heap[gb384]? = some (.cells #[.int .i64 a0_0, .slice A0_1 l0_1.length c0_1, .int .i64 a0_2] 24 (0, 0))) := ⟨(by rw [hw]; exact (BF BK384.out NB384_418.out))⟩; replace BK388 : Aside0 (w56.heap[gb388]? = some (.cells #[.int .i64 a0_0, .slice A0_1 l0_1.length c0_1, .int .i64 a0_2] 27 (0, 0))) := ⟨(by rw [hw]; exact (BF BK388.out NB388_418.out))⟩; replace BK395 : Aside0 (w56.heap[gb395]? = some (.cells #[.int .i64 t389, .slice Ao30 t390.length co30, .int .i64 t393] 27 (0, 0))) := ⟨(by rw [hw]; exact (BF BK395.out NB395_418.out))⟩; replace BK402 : Aside0 (w56.heap[gb402]? = some (.cells #[.int .i64 t396, .slice Ao37 t397.length co37, .int .i64 t400] 24 (0, 0))) := ⟨(by rw [hw]; exact (BF BK402.out NB402_418.out))⟩; replace BK417 : Aside0 (w56.heap[gb417]? = some (.cells #[.int .i64 t403, .slice Ao49 t404.length co49, .int .i64 t407] 27 (0, 0))) := ⟨(by rw [hw]; exact (BF BK417.out NB417_418.out))⟩; replace BK418 : Aside0 (w56.heap[gb418]? = some (.cells #[.int .i64 t408, .int .i64 t409, .int .i64 t410, .int .i64 t411, .int .i64 t412, .int .i64 t413, .string t414, .int .i64 t415] 36 (0, 0))) := ⟨(by rw [hw]; exact (BP BK418.out (by rfl)))⟩; replace HB : Aside0 (Below w.heap.size w w56) := ⟨(by rw [hw]; exact (LG HB.out (G1 GE418.out G0)))⟩; clear hw; obtain ⟨hcz57_0, hcz57_1, hcz57_2, hfz57_0, hfz57_1, hfz57_2⟩ := cz3 BK384.out) | ((with_reducible refine gate_callee (f := 14) rfl ?_); refine goesL_ (some 51) rfl rfl Try.func14 (by kernel_rfl) rfl #[.agg #[.int .i64 a0_0, .slice A0_1 l0_1.length c0_1, .int .i64 a0_2]] rfl (by (try simp only [List.map_toArray, List.map_cons, List.map_nil]); first | done | rfl | (simp only [List.length_drop, List.length_take]; rfl)) ?_; (with_reducible refine (hopperref14_Read.calls a0_0 (fun k_ => k_ < w.heap.size) _ _ l0_1 a0_2 t419 t420 t423 t424 t425 t426 t427 t428 t429 t430 t431 t432 _ ?side1 A17.out).mono ?_); (case side1 => exact Kd.V_mk HC0_1.out (Kd.F_below (Kd.C_F k36_heap HR0_1.out) (LA HB.out))); rintro e w58 ⟨v421, rfl, ho0, hb⟩; refine ⟨_, rfl, ?_⟩; replace HO406 := Aside0.mk (Kd.V_below (Kd.VA HO406.out) hb); have HO422 := Aside0.mk (Kd.V_lower (Kd.V_mono (ok' := fun k_ => some k_ ≠ (.slice Ao30 t390.length co30 : Value).ownBlock ∧ some k_ ≠ (.slice Ao37 t397.length co37 : Value).ownBlock ∧ k_ ≠ gb384 ∧ k_ ≠ gb388 ∧ k_ ≠ gb395 ∧ k_ ≠ gb402 ∧ k_ ≠ gb417 ∧ k_ ≠ gb418) ho0 (fun k_ hk_ => ⟨Or.elim hk_ (fun hs_ => fun e_ => Nat.not_le.2 hs_ (Kd.R_base HO392.out k_ e_.symm)) (fun hn_ => (Kd.fresh' (Kd.R_lt (Kd.RA HO392.out)) k_ hn_)), Or.elim hk_ (fun hs_ => fun e_ => Nat.not_le.2 hs_ (Kd.R_base HO399.out k_ e_.symm)) (fun hn_ => (Kd.fresh' (Kd.R_lt (Kd.RA HO399.out)) k_ hn_)), Or.elim hk_ (fun hs_ => fun e_ => Nat.not_le.2 hs_ (by rw [e_]; exact GW384.out)) (fun hn_ => (Kd.freshB (g := gb384) (o := .cells #[.int .i64 a0_0, .slice A0_1 l0_1.length c0_1, .int .i64 a0_2] 24 (0, 0)) (BA BK384.out) k_ hn_)), Or.elim hk_ (fun hs_ => fun e_ => Nat.not_le.2 hs_ (by rw [e_]; exact GW388.out)) (fun hn_ => (Kd.freshB (g := gb388) (o := .cells #[.int .i64 a0_0, .slice A0_1 l0_1.length c0_1, .int .i64 a0_2] 27 (0, 0)) (BA BK388.out) k_ hn_)), Or.elim hk_ (fun hs_ => fun e_ => Nat.not_le.2 hs_ (by rw [e_]; exact GW395.out)) (fun hn_ => (Kd.freshB (g := gb395) (o := .cells #[.int .i64 t389, .slice Ao30 t390.length co30, .int .i64 t393] 27 (0, 0)) (BA BK395.out) k_ hn_)), Or.elim hk_ (fun hs_ => fun e_ => Nat.not_le.2 hs_ (by rw [e_]; exact GW402.out)) (fun hn_ => (Kd.freshB (g := gb402) (o := .cells #[.int .i64 t396, .slice Ao37 t397.length co37, .int .i64 t400] 24 (0, 0)) (BA BK402.out) k_ hn_)), Or.elim hk_ (fun hs_ => fun e_ => Nat.not_le.2 hs_ (by rw [e_]; exact GW417.out)) (fun hn_ => (Kd.freshB (g := gb417) (o := .cells #[.int .i64 t403, .slice Ao49 t404.length co49, .int .i64 t407] 27 (0, 0)) (BA BK417.out) k_ hn_)), Or.elim hk_ (fun hs_ => fun e_ => Nat.not_le.2 hs_ (by rw [e_]; exact GW418.out)) (fun hn_ => (Kd.freshB (g := gb418) (o := .cells #[.int .i64 t408, .int .i64 t409, .int .i64 t410, .int .i64 t411, .int .i64 t412, .int .i64 t413, .string t414, .int .i64 t415] 36 (0, 0)) (BA BK418.out) k_ hn_))⟩)) (below_size (LA HB.out))); replace HO392 := Aside0.mk (Kd.R_below (Kd.RA HO392.out) hb); replace HO399 := Aside0.mk (Kd.R_below (Kd.RA HO399.out) hb); replace BK384 := Aside0.mk (blk_below (BA BK384.out) hb); replace BK388 := Aside0.mk (blk_below (BA BK388.out) hb); replace BK395 := Aside0.mk (blk_below (BA BK395.out) hb); replace BK402 := Aside0.mk (blk_below (BA BK402.out) hb); replace BK417 := Aside0.mk (blk_below (BA BK417.out) hb); replace BK418 := Aside0.mk (blk_below (BA BK418.out) hb); replace HB := Aside0.mk (below_step (LA HB.out) hb); (try clear hb); (try clear hb2); (try clear hk); (try clear hi); (try clear ho0)) | ((with_reducible refine gate_dst (N := 15) rfl ?_); refine box_event ?hg (N := 15) ?hd (cs := #[.int .i64 0, .slice none 0 0, .int .i64 0]) (t := 24) ?hr ?_; (case hd => rfl); (case hg => rfl); (case hr => first | (go_simp; done) | (go_simp; rfl)); intro gb433 hg w59 hbox hb; replace HO392 := Aside0.mk (Kd.R_below (Kd.RA HO392.out) hb); replace HO399 := Aside0.mk (Kd.R_below (Kd.RA HO399.out) hb); replace HO406 := Aside0.mk (Kd.V_below (Kd.V_elderB (Kd.VA HO406.out) gb433 (Nat.le_of_eq hg.symm)) hb); replace HO422 := Aside0.mk (Kd.V_below (Kd.V_elderB (Kd.VA HO422.out) gb433 (Nat.le_of_eq hg.symm)) hb); have BK433 := Aside0.mk (hbox); have GW433 := Aside0.mk (ge1 hg (LA HB.out)); have GE433 := Aside0.mk (ge1 hg (LA HB.out)); replace HB := Aside0.mk (below_step (LA HB.out) hb); have NB384_433 := Aside0.mk ((by rw [hg]; exact Nat.ne_of_lt (blk_lt (g := gb384) (o := .cells #[.int .i64 a0_0, .slice A0_1 l0_1.length c0_1, .int .i64 a0_2] 24 (0, 0)) (BA BK384.out)) : gb384 ≠ gb433)); have NB433_384 := Aside0.mk ((by rw [hg]; exact Nat.ne_of_gt (blk_lt (g := gb384) (o := .cells #[.int .i64 a0_0, .slice A0_1 l0_1.length c0_1, .int .i64 a0_2] 24 (0, 0)) (BA BK384.out)) : gb433 ≠ gb384)); replace BK384 := Aside0.mk (blk_below (BA BK384.out) hb); have NB388_433 := Aside0.mk ((by rw [hg]; exact Nat.ne_of_lt (blk_lt (g := gb388) (o := .cells #[.int .i64 a0_0, .slice A0_1 l0_1.length c0_1, .int .i64 a0_2] 27 (0, 0)) (BA BK388.out)) : gb388 ≠ gb433)); have NB433_388 := Aside0.mk ((by rw [hg]; exact Nat.ne_of_gt (blk_lt (g := gb388) (o := .cells #[.int .i64 a0_0, .slice A0_1 l0_1.length c0_1, .int .i64 a0_2] 27 (0, 0)) (BA BK388.out)) : gb433 ≠ gb388)); replace BK388 := Aside0.mk (blk_below (BA BK388.out) hb); have NB395_433 := Aside0.mk ((by rw [hg]; exact Nat.ne_of_lt (blk_lt (g := gb395) (o := .cells #[.int .i64 t389, .slice Ao30 t390.length co30, .int .i64 t393] 27 (0, 0)) (BA BK395.out)) : gb395 ≠ gb433)); have NB433_395 := Aside0.mk ((by rw [hg]; exact Nat.ne_of_gt (blk_lt (g := gb395) (o := .cells #[.int .i64 t389, .slice Ao30 t390.length co30, .int .i64 t393] 27 (0, 0)) (BA BK395.out)) : gb433 ≠ gb395)); replace BK395 := Aside0.mk (blk_below (BA BK395.out) hb); have NB402_433 := Aside0.mk ((by rw [hg]; exact Nat.ne_of_lt (blk_lt (g := gb402) (o := .cells #[.int .i64 t396, .slice Ao37 t397.length co37, .int .i64 t400] 24 (0, 0)) (BA BK402.out)) : gb402 ≠ gb433)); have NB433_402 := Aside0.mk ((by rw [hg]; exact Nat.ne_of_gt (blk_lt (g := gb402) (o := .cells #[.int .i64 t396, .slice Ao37 t397.length co37, .int .i64 t400] 24 (0, 0)) (BA BK402.out)) : gb433 ≠ gb402)); replace BK402 := Aside0.mk (blk_below (BA BK402.out) hb); have NB417_433 := Aside0.mk ((by rw [hg]; exact Nat.ne_of_lt (blk_lt (g := gb417) (o := .cells #[.int .i64 t403, .slice Ao49 t404.length co49, .int .i64 t407] 27 (0, 0)) (BA BK417.out)) : gb417 ≠ gb433)); have NB433_417 := Aside0.mk ((by rw [hg]; exact Nat.ne_of_gt (blk_lt (g := gb417) (o := .cells #[.int .i64 t403, .slice Ao49 t404.length co49, .int .i64 t407] 27 (0, 0)) (BA BK417.out)) : gb433 ≠ gb417)); replace BK417 := Aside0.mk (blk_below (BA BK417.out) hb); have NB418_433 := Aside0.mk ((by rw [hg]; exact Nat.ne_of_lt (blk_lt (g := gb418) (o := .cells #[.int .i64 t408, .int .i64 t409, .int .i64 t410, .int .i64 t411, .int .i64 t412, .int .i64 t413, .string t414, .int .i64 t415] 36 (0, 0)) (BA BK418.out)) : gb418 ≠ gb433)); have NB433_418 := Aside0.mk ((by rw [hg]; exact Nat.ne_of_gt (blk_lt (g := gb418) (o := .cells #[.int .i64 t408, .int .i64 t409, .int .i64 t410, .int .i64 t411, .int .i64 t412, .int .i64 t413, .string t414, .int .i64 t415] 36 (0, 0)) (BA BK418.out)) : gb433 ≠ gb418)); replace BK418 := Aside0.mk (blk_below (BA BK418.out) hb); clear hb hbox hg) | ((with_reducible refine gate_dst (N := 16) rfl ?_); refine box_event ?hg (N := 16) ?hd (cs := #[.int .i64 0, .int .i64 0, .int .i64 0, .int .i64 0, .int .i64 0, .int .i64 0, .string (⟨#[]⟩ : ByteArray), .int .i64 0]) (t := 36) ?hr ?_; (case hd => rfl); (case hg => rfl); (case hr => first | (go_simp; done) | (go_simp; rfl)); intro gb434 hg w60 hbox hb; replace HO392 := Aside0.mk (Kd.R_below (Kd.R_elderB (Kd.RA HO392.out) gb434 (Nat.le_of_eq hg.symm)) hb); replace HO399 := Aside0.mk (Kd.R_below (Kd.R_elderB (Kd.RA HO399.out) gb434 (Nat.le_of_eq hg.symm)) hb); replace HO406 := Aside0.mk (Kd.V_below (Kd.V_elderB (Kd.VA HO406.out) gb434 (Nat.le_of_eq hg.symm)) hb); replace HO422 := Aside0.mk (Kd.V_below (Kd.V_elderB (Kd.VA HO422.out) gb434 (Nat.le_of_eq hg.symm)) hb); have BK434 := Aside0.mk (hbox); have GW434 := Aside0.mk (ge1 hg (LA HB.out)); have GE434 := Aside0.mk (ge1 hg (LA HB.out)); replace HB := Aside0.mk (below_step (LA HB.out) hb); have NB384_434 := Aside0.mk ((by rw [hg]; exact Nat.ne_of_lt (blk_lt (g := gb384) (o := .cells #[.int .i64 a0_0, .slice A0_1 l0_1.length c0_1, .int .i64 a0_2] 24 (0, 0)) (BA BK384.out)) : gb384 ≠ gb434)); have NB434_384 := Aside0.mk ((by rw [hg]; exact Nat.ne_of_gt (blk_lt (g := gb384) (o := .cells #[.int .i64 a0_0, .slice A0_1 l0_1.length c0_1, .int .i64 a0_2] 24 (0, 0)) (BA BK384.out)) : gb434 ≠ gb384)); replace BK384 := Aside0.mk (blk_below (BA BK384.out) hb); have NB388_434 := Aside0.mk ((by rw [hg]; exact Nat.ne_of_lt (blk_lt (g := gb388) (o := .cells #[.int .i64 a0_0, .slice A0_1 l0_1.length c0_1, .int .i64 a0_2] 27 (0, 0)) (BA BK388.out)) : gb388 ≠ gb434)); have NB434_388 := Aside0.mk ((by rw [hg]; exact Nat.ne_of_gt (blk_lt (g := gb388) (o := .cells #[.int .i64 a0_0, .slice A0_1 l0_1.length c0_1, .int .i64 a0_2] 27 (0, 0)) (BA BK388.out)) : gb434 ≠ gb388)); replace BK388 := Aside0.mk (blk_below (BA BK388.out) hb); have NB395_434 := Aside0.mk ((by rw [hg]; exact Nat.ne_of_lt (blk_lt (g := gb395) (o := .cells #[.int .i64 t389, .slice Ao30 t390.length co30, .int .i64 t393] 27 (0, 0)) (BA BK395.out)) : gb395 ≠ gb434)); have NB434_395 := Aside0.mk ((by rw [hg]; exact Nat.ne_of_gt (blk_lt (g := gb395) (o := .cells #[.int .i64 t389, .slice Ao30 t390.length co30, .int .i64 t393] 27 (0, 0)) (BA BK395.out)) : gb434 ≠ gb395)); replace BK395 := Aside0.mk (blk_below (BA BK395.out) hb); have NB402_434 := Aside0.mk ((by rw [hg]; exact Nat.ne_of_lt (blk_lt (g := gb402) (o := .cells #[.int .i64 t396, .slice Ao37 t397.length co37, .int .i64 t400] 24 (0, 0)) (BA BK402.out)) : gb402 ≠ gb434)); have NB434_402 := Aside0.mk ((by rw [hg]; exact Nat.ne_of_gt (blk_lt (g := gb402) (o := .cells #[.int .i64 t396, .slice Ao37 t397.length co37, .int .i64 t400] 24 (0, 0)) (BA BK402.out)) : gb434 ≠ gb402)); replace BK402 := Aside0.mk (blk_below (BA BK402.out) hb); have NB417_434 := Aside0.mk ((by rw [hg]; exact Nat.ne_of_lt (blk_lt (g := gb417) (o := .cells #[.int .i64 t403, .slice Ao49 t404.length co49, .int .i64 t407] 27 (0, 0)) (BA BK417.out)) : gb417 ≠ gb434)); have NB434_417 := Aside0.mk ((by rw [hg]; exact Nat.ne_of_gt (blk_lt (g := gb417) (o := .cells #[.int .i64 t403, .slice Ao49 t404.length co49, .int .i64 t407] 27 (0, 0)) (BA BK417.out)) : gb434 ≠ gb417)); replace BK417 := Aside0.mk (blk_below (BA BK417.out) hb); have NB418_434 := Aside0.mk ((by rw [hg]; exact Nat.ne_of_lt (blk_lt (g := gb418) (o := .cells #[.int .i64 t408, .int .i64 t409, .int .i64 t410, .int .i64 t411, .int .i64 t412, .int .i64 t413, .string t414, .int .i64 t415] 36 (0, 0)) (BA BK418.out)) : gb418 ≠ gb434)); have NB434_418 := Aside0.mk ((by rw [hg]; exact Nat.ne_of_gt (blk_lt (g := gb418) (o := .cells #[.int .i64 t408, .int .i64 t409, .int .i64 t410, .int .i64 t411, .int .i64 t412, .int .i64 t413, .string t414, .int .i64 t415] 36 (0, 0)) (BA BK418.out)) : gb434 ≠ gb418)); replace BK418 := Aside0.mk (blk_below (BA BK418.out) hb); have NB433_434 := Aside0.mk ((by rw [hg]; exact Nat.ne_of_lt (blk_lt (g := gb433) (o := .cells #[.int .i64 0, .slice none 0 0, .int .i64 0] 24 (0, 0)) (BA BK433.out)) : gb433 ≠ gb434)); have NB434_433 := Aside0.mk ((by rw [hg]; exact Nat.ne_of_gt (blk_lt (g := gb433) (o := .cells #[.int .i64 0, .slice none 0 0, .int .i64 0] 24 (0, 0)) (BA BK433.out)) : gb434 ≠ gb433)); replace BK433 := Aside0.mk (blk_below (BA BK433.out) hb); clear hb hbox hg; have hnb61 := NB433_384.out; have hnc61 := NB384_433.out; have hnb62 := NB433_388.out; have hnc62 := NB388_433.out; have hnb63 := NB433_395.out; have hnc63 := NB395_433.out; have hnb64 := NB433_402.out; have hnc64 := NB402_433.out; have hnb65 := NB433_417.out; have hnc65 := NB417_433.out; have hnb66 := NB433_418.out; have hnc66 := NB418_433.out; have hnb67 := NB433_434.out; have hnc67 := NB434_433.out; obtain ⟨hcz68_0, hcz68_1, hcz68_2, hfz68_0, hfz68_1, hfz68_2⟩ := cz3 BK433.out; obtain ⟨Ao69, co69, eo69⟩ := Kd.V_slice HO422.out; subst eo69) | ((with_reducible refine gate_store (t := 24) (p := 15) rfl ?_); refine store_event (t := 24) (p := 15) (v := ?vo_w70) (w1 := (((w60.setCell ⟨gb433, 0, none⟩ (.int .i64 t419)).setCell ⟨gb433, 1, none⟩ (.slice Ao69 t420.length co69)).setCell ⟨gb433, 2, none⟩ (.int .i64 t423))) ?hg ?ho ?hn ?hr ?_; (case ho => rfl); (case hg => rfl); (case hn => rfl); (case hr => first | (go_simp; done) | (go_simp; rfl)); intro w70 hw; replace HO392 : Aside0 (Kd.R k36 36 w70 w.heap.size (fun k_ => some k_ ≠ (.slice Ao37 t397.length co37 : Value).ownBlock ∧ k_ ≠ gb418 ∧ k_ ≠ gb434) (.slice Ao30 t390.length co30) t390) := ⟨(by rw [hw]; exact (Kd.R_mono (Kd.R_mv (g := gb433) (Kd.R_types HO392.out BK433.out (by decide)) (fun _ hk => hk.2)) (fun _ hk => ⟨hk.1.1.1, ⟨hk.1.1.2, hk.1.2⟩⟩)))⟩; replace HO399 : Aside0 (Kd.R k36 36 w70 w.heap.size (fun k_ => some k_ ≠ (.slice Ao30 t390.length co30 : Value).ownBlock ∧ k_ ≠ gb418 ∧ k_ ≠ gb434) (.slice Ao37 t397.length co37) t397) := ⟨(by rw [hw]; exact (Kd.R_mono (Kd.R_mv (g := gb433) (Kd.R_types HO399.out BK433.out (by decide)) (fun _ hk => hk.2)) (fun _ hk => ⟨hk.1.1.1, ⟨hk.1.1.2, hk.1.2⟩⟩)))⟩; replace HO406 : Aside0 (Kd.V k36 36 w70 w.heap.size (fun k_ => some k_ ≠ (.slice Ao30 t390.length co30 : Value).ownBlock ∧ some k_ ≠ (.slice Ao37 t397.length co37 : Value).ownBlock ∧ k_ ≠ gb384 ∧ k_ ≠ gb388 ∧ k_ ≠ gb395 ∧ k_ ≠ gb402 ∧ k_ ≠ gb417 ∧ k_ ≠ gb418 ∧ k_ ≠ gb433 ∧ k_ ≠ gb434) (.slice Ao49 t404.length co49) t404) := ⟨(by rw [hw]; exact (Kd.V_mono (Kd.V_mv (g := gb433) (Kd.V_mono HO406.out (fun k_ hk => (⟨hk, hk.1.2⟩ : _ ∧ k_ ≠ gb433))) (fun _ hk => hk.2)) (fun _ hk => ⟨hk.1.1.1.1, ⟨hk.1.1.1.2.1, ⟨hk.1.1.1.2.2.1, ⟨hk.1.1.1.2.2.2.1, ⟨hk.1.1.1.2.2.2.2.1, ⟨hk.1.1.1.2.2.2.2.2.1, ⟨hk.1.1.1.2.2.2.2.2.2.1, ⟨hk.1.1.1.2.2.2.2.2.2.2, ⟨hk.1.1.2, hk.1.2⟩⟩⟩⟩⟩⟩⟩⟩⟩)))⟩; replace HO422 : Aside0 (Kd.V k36 36 w70 w.heap.size (fun k_ => some k_ ≠ (.slice Ao30 t390.length co30 : Value).ownBlock ∧ some k_ ≠ (.slice Ao37 t397.length co37 : Value).ownBlock ∧ k_ ≠ gb384 ∧ k_ ≠ gb388 ∧ k_ ≠ gb395 ∧ k_ ≠ gb402 ∧ k_ ≠ gb417 ∧ k_ ≠ gb418 ∧ k_ ≠ gb433 ∧ k_ ≠ gb434) (.slice Ao69 t420.length co69) t420) := ⟨(by rw [hw]; exact (Kd.V_mono (Kd.V_mv (g := gb433) (Kd.V_mono HO422.out (fun k_ hk => (⟨hk, hk.1.2⟩ : _ ∧ k_ ≠ gb433))) (fun _ hk => hk.2)) (fun _ hk => ⟨hk.1.1.1.1, ⟨hk.1.1.1.2.1, ⟨hk.1.1.1.2.2.1, ⟨hk.1.1.1.2.2.2.1, ⟨hk.1.1.1.2.2.2.2.1, ⟨hk.1.1.1.2.2.2.2.2.1, ⟨hk.1.1.1.2.2.2.2.2.2.1, ⟨hk.1.1.1.2.2.2.2.2.2.2, ⟨hk.1.1.2, hk.1.2⟩⟩⟩⟩⟩⟩⟩⟩⟩)))⟩; replace BK384 : Aside0 (w70.heap[gb384]? = some (.cells #[.int .i64 a0_0, .slice A0_1 l0_1.length c0_1, .int .i64 a0_2] 24 (0, 0))) := ⟨(by rw [hw]; exact (BF BK384.out NB384_433.out))⟩; replace BK388 : Aside0 (w70.heap[gb388]? = some (.cells #[.int .i64 a0_0, .slice A0_1 l0_1.length c0_1, .int .i64 a0_2] 27 (0, 0))) := ⟨(by rw [hw]; exact (BF BK388.out NB388_433.out))⟩; replace BK395 : Aside0 (w70.heap[gb395]? = some (.cells #[.int .i64 t389, .slice Ao30 t390.length co30, .int .i64 t393] 27 (0, 0))) := ⟨(by rw [hw]; exact (BF BK395.out NB395_433.out))⟩; replace BK402 : Aside0 (w70.heap[gb402]? = some (.cells #[.int .i64 t396, .slice Ao37 t397.length co37, .int .i64 t400] 24 (0, 0))) := ⟨(by rw [hw]; exact (BF BK402.out NB402_433.out))⟩; replace BK417 : Aside0 (w70.heap[gb417]? = some (.cells #[.int .i64 t403, .slice Ao49 t404.length co49, .int .i64 t407] 27 (0, 0))) := ⟨(by rw [hw]; exact (BF BK417.out NB417_433.out))⟩; replace BK418 : Aside0 (w70.heap[gb418]? = some (.cells #[.int .i64 t408, .int .i64 t409, .int .i64 t410, .int .i64 t411, .int .i64 t412, .int .i64 t413, .string t414, .int .i64 t415] 36 (0, 0))) := ⟨(by rw [hw]; exact (BF BK418.out NB418_433.out))⟩; replace BK433 : Aside0 (w70.heap[gb433]? = some (.cells #[.int .i64 t419, .slice Ao69 t420.length co69, .int .i64 t423] 24 (0, 0))) := ⟨(by rw [hw]; exact (BP BK433.out (by rfl)))⟩; replace BK434 : Aside0 (w70.heap[gb434]? = some (.cells #[.int .i64 0, .int .i64 0, .int .i64 0, .int .i64 0, .int .i64 0, .int .i64 0, .string (⟨#[]⟩ : ByteArray), .int .i64 0] 36 (0, 0))) := ⟨(by rw [hw]; exact (BF BK434.out NB434_433.out))⟩; replace HB : Aside0 (Below w.heap.size w w70) := ⟨(by rw [hw]; exact (LG HB.out (G1 GE433.out G0)))⟩; clear hw; have hnb71 := NB434_384.out; have hnc71 := NB384_434.out; have hnb72 := NB434_388.out; have hnc72 := NB388_434.out; have hnb73 := NB434_395.out; have hnc73 := NB395_434.out; have hnb74 := NB434_402.out; have hnc74 := NB402_434.out; have hnb75 := NB434_417.out; have hnc75 := NB417_434.out; have hnb76 := NB434_418.out; have hnc76 := NB418_434.out; obtain ⟨hcz77_0, hcz77_1, hcz77_2, hcz77_3, hcz77_4, hcz77_5, hcz77_6, hcz77_7, hfz77_0, hfz77_1, hfz77_2, hfz77_3, hfz77_4, hfz77_5, hfz77_6, hfz77_7⟩ := cz8 BK434.out) | ((with_reducible refine gate_store (t := 36) (p := 16) rfl ?_); refine store_event (t := 36) (p := 16) (v := ?vo_w78) (w1 := ((((((((w70.setCell ⟨gb434, 0, none⟩ (.int .i64 t424)).setCell ⟨gb434, 1, none⟩ (.int .i64 t425)).setCell ⟨gb434, 2, none⟩ (.int .i64 t426)).setCell ⟨gb434, 3, none⟩ (.int .i64 t427)).setCell ⟨gb434, 4, none⟩ (.int .i64 t428)).setCell ⟨gb434, 5, none⟩ (.int .i64 t429)).setCell ⟨gb434, 6, none⟩ (.string t430)).setCell ⟨gb434, 7, none⟩ (.int .i64 t431))) ?hg ?ho ?hn ?hr ?_; (case ho => rfl); (case hg => rfl); (case hn => rfl); (case hr => first | (go_simp; done) | (go_simp; rfl)); intro w78 hw; replace HO392 : Aside0 (Kd.R k36 36 w78 w.heap.size (fun k_ => some k_ ≠ (.slice Ao37 t397.length co37 : Value).ownBlock ∧ k_ ≠ gb418 ∧ k_ ≠ gb434) (.slice Ao30 t390.length co30) t390) := ⟨(by rw [hw]; exact (Kd.R_mono (Kd.R_mv (g := gb434) (Kd.R_mono HO392.out (fun k_ hk => (⟨hk, hk.2.2⟩ : _ ∧ k_ ≠ gb434))) (fun _ hk => hk.2)) (fun _ hk => ⟨hk.1.1, ⟨hk.1.2.1, hk.1.2.2⟩⟩)))⟩; replace HO399 : Aside0 (Kd.R k36 36 w78 w.heap.size (fun k_ => some k_ ≠ (.slice Ao30 t390.length co30 : Value).ownBlock ∧ k_ ≠ gb418 ∧ k_ ≠ gb434) (.slice Ao37 t397.length co37) t397) := ⟨(by rw [hw]; exact (Kd.R_mono (Kd.R_mv (g := gb434) (Kd.R_mono HO399.out (fun k_ hk => (⟨hk, hk.2.2⟩ : _ ∧ k_ ≠ gb434))) (fun _ hk => hk.2)) (fun _ hk => ⟨hk.1.1, ⟨hk.1.2.1, hk.1.2.2⟩⟩)))⟩; replace HO406 : Aside0 (Kd.V k36 36 w78 w.heap.size (fun k_ => some k_ ≠ (.slice Ao30 t390.length co30 : Value).ownBlock ∧ some k_ ≠ (.slice Ao37 t397.length co37 : Value).ownBlock ∧ k_ ≠ gb384 ∧ k_ ≠ gb388 ∧ k_ ≠ gb395 ∧ k_ ≠ gb402 ∧ k_ ≠ gb417 ∧ k_ ≠ gb418 ∧ k_ ≠ gb433 ∧ k_ ≠ gb434) (.slice Ao49 t404.length co49) t404) := ⟨(by rw [hw]; exact (Kd.V_mono (Kd.V_mv (g := gb434) (Kd.V_mono HO406.out (fun k_ hk => (⟨hk, hk.2.2.2.2.2.2.2.2.2⟩ : _ ∧ k_ ≠ gb434))) (fun _ hk => hk.2)) (fun _ hk => ⟨hk.1.1, ⟨hk.1.2.1, ⟨hk.1.2.2.1, ⟨hk.1.2.2.2.1, ⟨hk.1.2.2.2.2.1, ⟨hk.1.2.2.2.2.2.1, ⟨hk.1.2.2.2.2.2.2.1, ⟨hk.1.2.2.2.2.2.2.2.1, ⟨hk.1.2.2.2.2.2.2.2.2.1, hk.1.2.2.2.2.2.2.2.2.2⟩⟩⟩⟩⟩⟩⟩⟩⟩)))⟩; replace HO422 : Aside0 (Kd.V k36 36 w78 w.heap.size (fun k_ => some k_ ≠ (.slice Ao30 t390.length co30 : Value).ownBlock ∧ some k_ ≠ (.slice Ao37 t397.length co37 : Value).ownBlock ∧ k_ ≠ gb384 ∧ k_ ≠ gb388 ∧ k_ ≠ gb395 ∧ k_ ≠ gb402 ∧ k_ ≠ gb417 ∧ k_ ≠ gb418 ∧ k_ ≠ gb433 ∧ k_ ≠ gb434) (.slice Ao69 t420.length co69) t420) := ⟨(by rw [hw]; exact (Kd.V_mono (Kd.V_mv (g := gb434) (Kd.V_mono HO422.out (fun k_ hk => (⟨hk, hk.2.2.2.2.2.2.2.2.2⟩ : _ ∧ k_ ≠ gb434))) (fun _ hk => hk.2)) (fun _ hk => ⟨hk.1.1, ⟨hk.1.2.1, ⟨hk.1.2.2.1, ⟨hk.1.2.2.2.1, ⟨hk.1.2.2.2.2.1, ⟨hk.1.2.2.2.2.2.1, ⟨hk.1.2.2.2.2.2.2.1, ⟨hk.1.2.2.2.2.2.2.2.1, ⟨hk.1.2.2.2.2.2.2.2.2.1, hk.1.2.2.2.2.2.2.2.2.2⟩⟩⟩⟩⟩⟩⟩⟩⟩)))⟩; replace BK384 : Aside0 (w78.heap[gb384]? = some (.cells #[.int .i64 a0_0, .slice A0_1 l0_1.length c0_1, .int .i64 a0_2] 24 (0, 0))) := ⟨(by rw [hw]; exact (BF BK384.out NB384_434.out))⟩; replace BK388 : Aside0 (w78.heap[gb388]? = some (.cells #[.int .i64 a0_0, .slice A0_1 l0_1.length c0_1, .int .i64 a0_2] 27 (0, 0))) := ⟨(by rw [hw]; exact (BF BK388.out NB388_434.out))⟩; replace BK395 : Aside0 (w78.heap[gb395]? = some (.cells #[.int .i64 t389, .slice Ao30 t390.length co30, .int .i64 t393] 27 (0, 0))) := ⟨(by rw [hw]; exact (BF BK395.out NB395_434.out))⟩; replace BK402 : Aside0 (w78.heap[gb402]? = some (.cells #[.int .i64 t396, .slice Ao37 t397.length co37, .int .i64 t400] 24 (0, 0))) := ⟨(by rw [hw]; exact (BF BK402.out NB402_434.out))⟩; replace BK417 : Aside0 (w78.heap[gb417]? = some (.cells #[.int .i64 t403, .slice Ao49 t404.length co49, .int .i64 t407] 27 (0, 0))) := ⟨(by rw [hw]; exact (BF BK417.out NB417_434.out))⟩; replace BK418 : Aside0 (w78.heap[gb418]? = some (.cells #[.int .i64 t408, .int .i64 t409, .int .i64 t410, .int .i64 t411, .int .i64 t412, .int .i64 t413, .string t414, .int .i64 t415] 36 (0, 0))) := ⟨(by rw [hw]; exact (BF BK418.out NB418_434.out))⟩; replace BK433 : Aside0 (w78.heap[gb433]? = some (.cells #[.int .i64 t419, .slice Ao69 t420.length co69, .int .i64 t423] 24 (0, 0))) := ⟨(by rw [hw]; exact (BF BK433.out NB433_434.out))⟩; replace BK434 : Aside0 (w78.heap[gb434]? = some (.cells #[.int .i64 t424, .int .i64 t425, .int .i64 t426, .int .i64 t427, .int .i64 t428, .int .i64 t429, .string t430, .int .i64 t431] 36 (0, 0))) := ⟨(by rw [hw]; exact (BP BK434.out (by rfl)))⟩; replace HB : Aside0 (Below w.heap.size w w78) := ⟨(by rw [hw]; exact (LG HB.out (G1 GE434.out G0)))⟩; clear hw; obtain ⟨hcz79_0, hcz79_1, hcz79_2, hfz79_0, hfz79_1, hfz79_2⟩ := cz3 BK388.out) | ((with_reducible refine gate_callee (f := 15) rfl ?_); refine goesL_ (some 57) rfl rfl Try.func15 (by kernel_rfl) rfl #[.agg #[.int .i64 a0_0, .slice A0_1 l0_1.length c0_1, .int .i64 a0_2]] rfl (by (try simp only [List.map_toArray, List.map_cons, List.map_nil]); first | done | rfl | (simp only [List.length_drop, List.length_take]; rfl)) ?_; (with_reducible refine (feed_All.calls kj3 a0_0 (fun k_ => k_ < w.heap.size) _ _ l0_1 a0_2 t435 t436 t439 t440 _ ?side1 A18.out).mono ?_); (case side1 => exact Kd.V_mk HC0_1.out (Kd.F_below (Kd.C_F k36_heap HR0_1.out) (LA HB.out))); rintro e w80 ⟨v437, v441, rfl, ho0, ho1, hb⟩; refine ⟨_, rfl, ?_⟩; replace HO406 := Aside0.mk (Kd.V_elder' (Kd.VA HO406.out) (Kd.R_base ho1) hb); replace HO422 := Aside0.mk (Kd.V_elder' (Kd.VA HO422.out) (Kd.R_base ho1) hb); have HO438 := Aside0.mk (Kd.V_lower (Kd.V_mono (ok' := fun k_ => some k_ ≠ (v441 : Value).ownBlock ∧ some k_ ≠ (.slice Ao30 t390.length co30 : Value).ownBlock ∧ some k_ ≠ (.slice Ao37 t397.length co37 : Value).ownBlock ∧ k_ ≠ gb384 ∧ k_ ≠ gb388 ∧ k_ ≠ gb395 ∧ k_ ≠ gb402 ∧ k_ ≠ gb417 ∧ k_ ≠ gb418 ∧ k_ ≠ gb433 ∧ k_ ≠ gb434) ho0 (fun k_ hk_ => ⟨hk_.2, Or.elim hk_.1 (fun hs_ => fun e_ => Nat.not_le.2 hs_ (Kd.R_base HO392.out k_ e_.symm)) (fun hn_ => (Kd.fresh' (Kd.R_lt (Kd.RA HO392.out)) k_ hn_)), Or.elim hk_.1 (fun hs_ => fun e_ => Nat.not_le.2 hs_ (Kd.R_base HO399.out k_ e_.symm)) (fun hn_ => (Kd.fresh' (Kd.R_lt (Kd.RA HO399.out)) k_ hn_)), Or.elim hk_.1 (fun hs_ => fun e_ => Nat.not_le.2 hs_ (by rw [e_]; exact GW384.out)) (fun hn_ => (Kd.freshB (g := gb384) (o := .cells #[.int .i64 a0_0, .slice A0_1 l0_1.length c0_1, .int .i64 a0_2] 24 (0, 0)) (BA BK384.out) k_ hn_)), Or.elim hk_.1 (fun hs_ => fun e_ => Nat.not_le.2 hs_ (by rw [e_]; exact GW388.out)) (fun hn_ => (Kd.freshB (g := gb388) (o := .cells #[.int .i64 a0_0, .slice A0_1 l0_1.length c0_1, .int .i64 a0_2] 27 (0, 0)) (BA BK388.out) k_ hn_)), Or.elim hk_.1 (fun hs_ => fun e_ => Nat.not_le.2 hs_ (by rw [e_]; exact GW395.out)) (fun hn_ => (Kd.freshB (g := gb395) (o := .cells #[.int .i64 t389, .slice Ao30 t390.length co30, .int .i64 t393] 27 (0, 0)) (BA BK395.out) k_ hn_)), Or.elim hk_.1 (fun hs_ => fun e_ => Nat.not_le.2 hs_ (by rw [e_]; exact GW402.out)) (fun hn_ => (Kd.freshB (g := gb402) (o := .cells #[.int .i64 t396, .slice Ao37 t397.length co37, .int .i64 t400] 24 (0, 0)) (BA BK402.out) k_ hn_)), Or.elim hk_.1 (fun hs_ => fun e_ => Nat.not_le.2 hs_ (by rw [e_]; exact GW417.out)) (fun hn_ => (Kd.freshB (g := gb417) (o := .cells #[.int .i64 t403, .slice Ao49 t404.length co49, .int .i64 t407] 27 (0, 0)) (BA BK417.out) k_ hn_)), Or.elim hk_.1 (fun hs_ => fun e_ => Nat.not_le.2 hs_ (by rw [e_]; exact GW418.out)) (fun hn_ => (Kd.freshB (g := gb418) (o := .cells #[.int .i64 t408, .int .i64 t409, .int .i64 t410, .int .i64 t411, .int .i64 t412, .int .i64 t413, .string t414, .int .i64 t415] 36 (0, 0)) (BA BK418.out) k_ hn_)), Or.elim hk_.1 (fun hs_ => fun e_ => Nat.not_le.2 hs_ (by rw [e_]; exact GW433.out)) (fun hn_ => (Kd.freshB (g := gb433) (o := .cells #[.int .i64 t419, .slice Ao69 t420.length co69, .int .i64 t423] 24 (0, 0)) (BA BK433.out) k_ hn_)), Or.elim hk_.1 (fun hs_ => fun e_ => Nat.not_le.2 hs_ (by rw [e_]; exact GW434.out)) (fun hn_ => (Kd.freshB (g := gb434) (o := .cells #[.int .i64 t424, .int .i64 t425, .int .i64 t426, .int .i64 t427, .int .i64 t428, .int .i64 t429, .string t430, .int .i64 t431] 36 (0, 0)) (BA BK434.out) k_ hn_))⟩)) (below_size (LA HB.out))); have HO442 := Aside0.mk (Kd.R_lower (Kd.R_newB (Kd.R_newB (Kd.R_new' (Kd.R_new' (Kd.R_mono (ok' := fun k_ => True) ho1 (fun _ hk_ => trivial)) (Kd.R_lt (Kd.RA HO392.out))) (Kd.R_lt (Kd.RA HO399.out))) (g := gb418) (o := .cells #[.int .i64 t408, .int .i64 t409, .int .i64 t410, .int .i64 t411, .int .i64 t412, .int .i64 t413, .string t414, .int .i64 t415] 36 (0, 0)) (BA BK418.out)) (g := gb434) (o := .cells #[.int .i64 t424, .int .i64 t425, .int .i64 t426, .int .i64 t427, .int .i64 t428, .int .i64 t429, .string t430, .int .i64 t431] 36 (0, 0)) (BA BK434.out)) (below_size (LA HB.out))); replace HO392 := Aside0.mk (Kd.R_elder' (Kd.RA HO392.out) (Kd.R_base ho1) hb); replace HO399 := Aside0.mk (Kd.R_elder' (Kd.RA HO399.out) (Kd.R_base ho1) hb); replace BK384 := Aside0.mk (blk_below (BA BK384.out) hb); replace BK388 := Aside0.mk (blk_below (BA BK388.out) hb); replace BK395 := Aside0.mk (blk_below (BA BK395.out) hb); replace BK402 := Aside0.mk (blk_below (BA BK402.out) hb); replace BK417 := Aside0.mk (blk_below (BA BK417.out) hb); replace BK418 := Aside0.mk (blk_below (BA BK418.out) hb); replace BK433 := Aside0.mk (blk_below (BA BK433.out) hb); replace BK434 := Aside0.mk (blk_below (BA BK434.out) hb); replace HB := Aside0.mk (below_step (LA HB.out) hb); (try clear hb); (try clear hb2); (try clear hk); (try clear hi); (try clear ho0); (try clear ho1)) | ((with_reducible refine gate_dst (N := 18) rfl ?_); refine box_event ?hg (N := 18) ?hd (cs := #[.int .i64 0, .slice none 0 0, .int .i64 0]) (t := 27) ?hr ?_; (case hd => rfl); (case hg => rfl); (case hr => first | (go_simp; done) | (go_simp; rfl)); intro gb443 hg w81 hbox hb; replace HO392 := Aside0.mk (Kd.R_below (Kd.RA HO392.out) hb); replace HO399 := Aside0.mk (Kd.R_below (Kd.RA HO399.out) hb); replace HO406 := Aside0.mk (Kd.V_below (Kd.V_elderB (Kd.VA HO406.out) gb443 (Nat.le_of_eq hg.symm)) hb); replace HO422 := Aside0.mk (Kd.V_below (Kd.V_elderB (Kd.VA HO422.out) gb443 (Nat.le_of_eq hg.symm)) hb); replace HO438 := Aside0.mk (Kd.V_below (Kd.V_elderB (Kd.VA HO438.out) gb443 (Nat.le_of_eq hg.symm)) hb); replace HO442 := Aside0.mk (Kd.R_below (Kd.RA HO442.out) hb); have BK443 := Aside0.mk (hbox); have GW443 := Aside0.mk (ge1 hg (LA HB.out)); have GE443 := Aside0.mk (ge1 hg (LA HB.out)); replace HB := Aside0.mk (below_step (LA HB.out) hb); have NB384_443 := Aside0.mk ((by rw [hg]; exact Nat.ne_of_lt (blk_lt (g := gb384) (o := .cells #[.int .i64 a0_0, .slice A0_1 l0_1.length c0_1, .int .i64 a0_2] 24 (0, 0)) (BA BK384.out)) : gb384 ≠ gb443)); have NB443_384 := Aside0.mk ((by rw [hg]; exact Nat.ne_of_gt (blk_lt (g := gb384) (o := .cells #[.int .i64 a0_0, .slice A0_1 l0_1.length c0_1, .int .i64 a0_2] 24 (0, 0)) (BA BK384.out)) : gb443 ≠ gb384)); replace BK384 := Aside0.mk (blk_below (BA BK384.out) hb); have NB388_443 := Aside0.mk ((by rw [hg]; exact Nat.ne_of_lt (blk_lt (g := gb388) (o := .cells #[.int .i64 a0_0, .slice A0_1 l0_1.length c0_1, .int .i64 a0_2] 27 (0, 0)) (BA BK388.out)) : gb388 ≠ gb443)); have NB443_388 := Aside0.mk ((by rw [hg]; exact Nat.ne_of_gt (blk_lt (g := gb388) (o := .cells #[.int .i64 a0_0, .slice A0_1 l0_1.length c0_1, .int .i64 a0_2] 27 (0, 0)) (BA BK388.out)) : gb443 ≠ gb388)); replace BK388 := Aside0.mk (blk_below (BA BK388.out) hb); have NB395_443 := Aside0.mk ((by rw [hg]; exact Nat.ne_of_lt (blk_lt (g := gb395) (o := .cells #[.int .i64 t389, .slice Ao30 t390.length co30, .int .i64 t393] 27 (0, 0)) (BA BK395.out)) : gb395 ≠ gb443)); have NB443_395 := Aside0.mk ((by rw [hg]; exact Nat.ne_of_gt (blk_lt (g := gb395) (o := .cells #[.int .i64 t389, .slice Ao30 t390.length co30, .int .i64 t393] 27 (0, 0)) (BA BK395.out)) : gb443 ≠ gb395)); replace BK395 := Aside0.mk (blk_below (BA BK395.out) hb); have NB402_443 := Aside0.mk ((by rw [hg]; exact Nat.ne_of_lt (blk_lt (g := gb402) (o := .cells #[.int .i64 t396, .slice Ao37 t397.length co37, .int .i64 t400] 24 (0, 0)) (BA BK402.out)) : gb402 ≠ gb443)); have NB443_402 := Aside0.mk ((by rw [hg]; exact Nat.ne_of_gt (blk_lt (g := gb402) (o := .cells #[.int .i64 t396, .slice Ao37 t397.length co37, .int .i64 t400] 24 (0, 0)) (BA BK402.out)) : gb443 ≠ gb402)); replace BK402 := Aside0.mk (blk_below (BA BK402.out) hb); have NB417_443 := Aside0.mk ((by rw [hg]; exact Nat.ne_of_lt (blk_lt (g := gb417) (o := .cells #[.int .i64 t403, .slice Ao49 t404.length co49, .int .i64 t407] 27 (0, 0)) (BA BK417.out)) : gb417 ≠ gb443)); have NB443_417 := Aside0.mk ((by rw [hg]; exact Nat.ne_of_gt (blk_lt (g := gb417) (o := .cells #[.int .i64 t403, .slice Ao49 t404.length co49, .int .i64 t407] 27 (0, 0)) (BA BK417.out)) : gb443 ≠ gb417)); replace BK417 := Aside0.mk (blk_below (BA BK417.out) hb); have NB418_443 := Aside0.mk ((by rw [hg]; exact Nat.ne_of_lt (blk_lt (g := gb418) (o := .cells #[.int .i64 t408, .int .i64 t409, .int .i64 t410, .int .i64 t411, .int .i64 t412, .int .i64 t413, .string t414, .int .i64 t415] 36 (0, 0)) (BA BK418.out)) : gb418 ≠ gb443)); have NB443_418 := Aside0.mk ((by rw [hg]; exact Nat.ne_of_gt (blk_lt (g := gb418) (o := .cells #[.int .i64 t408, .int .i64 t409, .int .i64 t410, .int .i64 t411, .int .i64 t412, .int .i64 t413, .string t414, .int .i64 t415] 36 (0, 0)) (BA BK418.out)) : gb443 ≠ gb418)); replace BK418 := Aside0.mk (blk_below (BA BK418.out) hb); have NB433_443 := Aside0.mk ((by rw [hg]; exact Nat.ne_of_lt (blk_lt (g := gb433) (o := .cells #[.int .i64 t419, .slice Ao69 t420.length co69, .int .i64 t423] 24 (0, 0)) (BA BK433.out)) : gb433 ≠ gb443)); have NB443_433 := Aside0.mk ((by rw [hg]; exact Nat.ne_of_gt (blk_lt (g := gb433) (o := .cells #[.int .i64 t419, .slice Ao69 t420.length co69, .int .i64 t423] 24 (0, 0)) (BA BK433.out)) : gb443 ≠ gb433)); replace BK433 := Aside0.mk (blk_below (BA BK433.out) hb); have NB434_443 := Aside0.mk ((by rw [hg]; exact Nat.ne_of_lt (blk_lt (g := gb434) (o := .cells #[.int .i64 t424, .int .i64 t425, .int .i64 t426, .int .i64 t427, .int .i64 t428, .int .i64 t429, .string t430, .int .i64 t431] 36 (0, 0)) (BA BK434.out)) : gb434 ≠ gb443)); have NB443_434 := Aside0.mk ((by rw [hg]; exact Nat.ne_of_gt (blk_lt (g := gb434) (o := .cells #[.int .i64 t424, .int .i64 t425, .int .i64 t426, .int .i64 t427, .int .i64 t428, .int .i64 t429, .string t430, .int .i64 t431] 36 (0, 0)) (BA BK434.out)) : gb443 ≠ gb434)); replace BK434 := Aside0.mk (blk_below (BA BK434.out) hb); clear hb hbox hg; have hnb82 := NB443_384.out; have hnc82 := NB384_443.out; have hnb83 := NB443_388.out; have hnc83 := NB388_443.out; have hnb84 := NB443_395.out; have hnc84 := NB395_443.out; have hnb85 := NB443_402.out; have hnc85 := NB402_443.out; have hnb86 := NB443_417.out; have hnc86 := NB417_443.out; have hnb87 := NB443_418.out; have hnc87 := NB418_443.out; have hnb88 := NB443_433.out; have hnc88 := NB433_443.out; have hnb89 := NB443_434.out; have hnc89 := NB434_443.out; obtain ⟨hcz90_0, hcz90_1, hcz90_2, hfz90_0, hfz90_1, hfz90_2⟩ := cz3 BK443.out; obtain ⟨Ao91, co91, eo91⟩ := Kd.V_slice HO438.out; subst eo91) | ((with_reducible refine gate_store (t := 27) (p := 18) rfl ?_); refine store_event (t := 27) (p := 18) (v := ?vo_w92) (w1 := (((w81.setCell ⟨gb443, 0, none⟩ (.int .i64 t435)).setCell ⟨gb443, 1, none⟩ (.slice Ao91 t436.length co91)).setCell ⟨gb443, 2, none⟩ (.int .i64 t439))) ?hg ?ho ?hn ?hr ?_; (case ho => rfl); (case hg => rfl); (case hn => rfl); (case hr => first | (go_simp; done) | (go_simp; rfl)); intro w92 hw; replace HO392 : Aside0 (Kd.R k36 36 w92 w.heap.size (fun k_ => some k_ ≠ (.slice Ao37 t397.length co37 : Value).ownBlock ∧ some k_ ≠ (v441 : Value).ownBlock ∧ k_ ≠ gb418 ∧ k_ ≠ gb434) (.slice Ao30 t390.length co30) t390) := ⟨(by rw [hw]; exact (Kd.R_mono (Kd.R_mv (g := gb443) (Kd.R_types HO392.out BK443.out (by decide)) (fun _ hk => hk.2)) (fun _ hk => ⟨hk.1.1.1, ⟨hk.1.2, ⟨hk.1.1.2.1, hk.1.1.2.2⟩⟩⟩)))⟩; replace HO399 : Aside0 (Kd.R k36 36 w92 w.heap.size (fun k_ => some k_ ≠ (.slice Ao30 t390.length co30 : Value).ownBlock ∧ some k_ ≠ (v441 : Value).ownBlock ∧ k_ ≠ gb418 ∧ k_ ≠ gb434) (.slice Ao37 t397.length co37) t397) := ⟨(by rw [hw]; exact (Kd.R_mono (Kd.R_mv (g := gb443) (Kd.R_types HO399.out BK443.out (by decide)) (fun _ hk => hk.2)) (fun _ hk => ⟨hk.1.1.1, ⟨hk.1.2, ⟨hk.1.1.2.1, hk.1.1.2.2⟩⟩⟩)))⟩; replace HO406 : Aside0 (Kd.V k36 36 w92 w.heap.size (fun k_ => some k_ ≠ (.slice Ao30 t390.length co30 : Value).ownBlock ∧ some k_ ≠ (.slice Ao37 t397.length co37 : Value).ownBlock ∧ some k_ ≠ (v441 : Value).ownBlock ∧ k_ ≠ gb384 ∧ k_ ≠ gb388 ∧ k_ ≠ gb395 ∧ k_ ≠ gb402 ∧ k_ ≠ gb417 ∧ k_ ≠ gb418 ∧ k_ ≠ gb433 ∧ k_ ≠ gb434 ∧ k_ ≠ gb443) (.slice Ao49 t404.length co49) t404) := ⟨(by rw [hw]; exact (Kd.V_mono (Kd.V_mv (g := gb443) (Kd.V_mono HO406.out (fun k_ hk => (⟨hk, hk.2⟩ : _ ∧ k_ ≠ gb443))) (fun _ hk => hk.2)) (fun _ hk => ⟨hk.1.1.1.1, ⟨hk.1.1.1.2.1, ⟨hk.1.1.2, ⟨hk.1.1.1.2.2.1, ⟨hk.1.1.1.2.2.2.1, ⟨hk.1.1.1.2.2.2.2.1, ⟨hk.1.1.1.2.2.2.2.2.1, ⟨hk.1.1.1.2.2.2.2.2.2.1, ⟨hk.1.1.1.2.2.2.2.2.2.2.1, ⟨hk.1.1.1.2.2.2.2.2.2.2.2.1, ⟨hk.1.1.1.2.2.2.2.2.2.2.2.2, hk.1.2⟩⟩⟩⟩⟩⟩⟩⟩⟩⟩⟩)))⟩; replace HO422 : Aside0 (Kd.V k36 36 w92 w.heap.size (fun k_ => some k_ ≠ (.slice Ao30 t390.length co30 : Value).ownBlock ∧ some k_ ≠ (.slice Ao37 t397.length co37 : Value).ownBlock ∧ some k_ ≠ (v441 : Value).ownBlock ∧ k_ ≠ gb384 ∧ k_ ≠ gb388 ∧ k_ ≠ gb395 ∧ k_ ≠ gb402 ∧ k_ ≠ gb417 ∧ k_ ≠ gb418 ∧ k_ ≠ gb433 ∧ k_ ≠ gb434 ∧ k_ ≠ gb443) (.slice Ao69 t420.length co69) t420) := ⟨(by rw [hw]; exact (Kd.V_mono (Kd.V_mv (g := gb443) (Kd.V_mono HO422.out (fun k_ hk => (⟨hk, hk.2⟩ : _ ∧ k_ ≠ gb443))) (fun _ hk => hk.2)) (fun _ hk => ⟨hk.1.1.1.1, ⟨hk.1.1.1.2.1, ⟨hk.1.1.2, ⟨hk.1.1.1.2.2.1, ⟨hk.1.1.1.2.2.2.1, ⟨hk.1.1.1.2.2.2.2.1, ⟨hk.1.1.1.2.2.2.2.2.1, ⟨hk.1.1.1.2.2.2.2.2.2.1, ⟨hk.1.1.1.2.2.2.2.2.2.2.1, ⟨hk.1.1.1.2.2.2.2.2.2.2.2.1, ⟨hk.1.1.1.2.2.2.2.2.2.2.2.2, hk.1.2⟩⟩⟩⟩⟩⟩⟩⟩⟩⟩⟩)))⟩; replace HO438 : Aside0 (Kd.V k36 36 w92 w.heap.size (fun k_ => some k_ ≠ (.slice Ao30 t390.length co30 : Value).ownBlock ∧ some k_ ≠ (.slice Ao37 t397.length co37 : Value).ownBlock ∧ some k_ ≠ (v441 : Value).ownBlock ∧ k_ ≠ gb384 ∧ k_ ≠ gb388 ∧ k_ ≠ gb395 ∧ k_ ≠ gb402 ∧ k_ ≠ gb417 ∧ k_ ≠ gb418 ∧ k_ ≠ gb433 ∧ k_ ≠ gb434 ∧ k_ ≠ gb443) (.slice Ao91 t436.length co91) t436) := ⟨(by rw [hw]; exact (Kd.V_mono (Kd.V_mv (g := gb443) (Kd.V_mono HO438.out (fun k_ hk => (⟨hk, hk.2⟩ : _ ∧ k_ ≠ gb443))) (fun _ hk => hk.2)) (fun _ hk => ⟨hk.1.1.2.1, ⟨hk.1.1.2.2.1, ⟨hk.1.1.1, ⟨hk.1.1.2.2.2.1, ⟨hk.1.1.2.2.2.2.1, ⟨hk.1.1.2.2.2.2.2.1, ⟨hk.1.1.2.2.2.2.2.2.1, ⟨hk.1.1.2.2.2.2.2.2.2.1, ⟨hk.1.1.2.2.2.2.2.2.2.2.1, ⟨hk.1.1.2.2.2.2.2.2.2.2.2.1, ⟨hk.1.1.2.2.2.2.2.2.2.2.2.2, hk.1.2⟩⟩⟩⟩⟩⟩⟩⟩⟩⟩⟩)))⟩; replace HO442 : Aside0 (Kd.R k36 36 w92 w.heap.size (fun k_ => some k_ ≠ (.slice Ao30 t390.length co30 : Value).ownBlock ∧ some k_ ≠ (.slice Ao37 t397.length co37 : Value).ownBlock ∧ k_ ≠ gb418 ∧ k_ ≠ gb434) v441 t440) := ⟨(by rw [hw]; exact (Kd.R_mono (Kd.R_mv (g := gb443) (Kd.R_types HO442.out BK443.out (by decide)) (fun _ hk => hk.2)) (fun _ hk => ⟨hk.1.1.1.1.2, ⟨hk.1.1.1.2, ⟨hk.1.1.2, hk.1.2⟩⟩⟩)))⟩; replace BK384 : Aside0 (w92.heap[gb384]? = some (.cells #[.int .i64 a0_0, .slice A0_1 l0_1.length c0_1, .int .i64 a0_2] 24 (0, 0))) := ⟨(by rw [hw]; exact (BF BK384.out NB384_443.out))⟩; replace BK388 : Aside0 (w92.heap[gb388]? = some (.cells #[.int .i64 a0_0, .slice A0_1 l0_1.length c0_1, .int .i64 a0_2] 27 (0, 0))) := ⟨(by rw [hw]; exact (BF BK388.out NB388_443.out))⟩; replace BK395 : Aside0 (w92.heap[gb395]? = some (.cells #[.int .i64 t389, .slice Ao30 t390.length co30, .int .i64 t393] 27 (0, 0))) := ⟨(by rw [hw]; exact (BF BK395.out NB395_443.out))⟩; replace BK402 : Aside0 (w92.heap[gb402]? = some (.cells #[.int .i64 t396, .slice Ao37 t397.length co37, .int .i64 t400] 24 (0, 0))) := ⟨(by rw [hw]; exact (BF BK402.out NB402_443.out))⟩; replace BK417 : Aside0 (w92.heap[gb417]? = some (.cells #[.int .i64 t403, .slice Ao49 t404.length co49, .int .i64 t407] 27 (0, 0))) := ⟨(by rw [hw]; exact (BF BK417.out NB417_443.out))⟩; replace BK418 : Aside0 (w92.heap[gb418]? = some (.cells #[.int .i64 t408, .int .i64 t409, .int .i64 t410, .int .i64 t411, .int .i64 t412, .int .i64 t413, .string t414, .int .i64 t415] 36 (0, 0))) := ⟨(by rw [hw]; exact (BF BK418.out NB418_443.out))⟩; replace BK433 : Aside0 (w92.heap[gb433]? = some (.cells #[.int .i64 t419, .slice Ao69 t420.length co69, .int .i64 t423] 24 (0, 0))) := ⟨(by rw [hw]; exact (BF BK433.out NB433_443.out))⟩; replace BK434 : Aside0 (w92.heap[gb434]? = some (.cells #[.int .i64 t424, .int .i64 t425, .int .i64 t426, .int .i64 t427, .int .i64 t428, .int .i64 t429, .string t430, .int .i64 t431] 36 (0, 0))) := ⟨(by rw [hw]; exact (BF BK434.out NB434_443.out))⟩; replace BK443 : Aside0 (w92.heap[gb443]? = some (.cells #[.int .i64 t435, .slice Ao91 t436.length co91, .int .i64 t439] 27 (0, 0))) := ⟨(by rw [hw]; exact (BP BK443.out (by rfl)))⟩; replace HB : Aside0 (Below w.heap.size w w92) := ⟨(by rw [hw]; exact (LG HB.out (G1 GE443.out G0)))⟩; clear hw; obtain ⟨hcz93_0, hcz93_1, hcz93_2, hfz93_0, hfz93_1, hfz93_2⟩ := cz3 BK384.out) | ((with_reducible refine gate_callee (f := 16) rfl ?_); refine goesL_ (some 62) rfl rfl Try.func16 (by kernel_rfl) rfl #[.agg #[.int .i64 a0_0, .slice A0_1 l0_1.length c0_1, .int .i64 a0_2]] rfl (by (try simp only [List.map_toArray, List.map_cons, List.map_nil]); first | done | rfl | (simp only [List.length_drop, List.length_take]; rfl)) ?_; (with_reducible refine (hopperref14_All.calls kj3 a0_0 (fun k_ => k_ < w.heap.size) _ _ l0_1 a0_2 t444 t445 t448 t449 _ ?side1 A19.out).mono ?_); (case side1 => exact Kd.V_mk HC0_1.out (Kd.F_below (Kd.C_F k36_heap HR0_1.out) (LA HB.out))); rintro e w94 ⟨v446, v450, rfl, ho0, ho1, hb⟩; refine ⟨_, rfl, ?_⟩; replace HO406 := Aside0.mk (Kd.V_elder' (Kd.VA HO406.out) (Kd.R_base ho1) hb); replace HO422 := Aside0.mk (Kd.V_elder' (Kd.VA HO422.out) (Kd.R_base ho1) hb); replace HO438 := Aside0.mk (Kd.V_elder' (Kd.VA HO438.out) (Kd.R_base ho1) hb); have HO447 := Aside0.mk (Kd.V_lower (Kd.V_mono (ok' := fun k_ => some k_ ≠ (v450 : Value).ownBlock ∧ some k_ ≠ (.slice Ao30 t390.length co30 : Value).ownBlock ∧ some k_ ≠ (.slice Ao37 t397.length co37 : Value).ownBlock ∧ some k_ ≠ (v441 : Value).ownBlock ∧ k_ ≠ gb384 ∧ k_ ≠ gb388 ∧ k_ ≠ gb395 ∧ k_ ≠ gb402 ∧ k_ ≠ gb417 ∧ k_ ≠ gb418 ∧ k_ ≠ gb433 ∧ k_ ≠ gb434 ∧ k_ ≠ gb443) ho0 (fun k_ hk_ => ⟨hk_.2, Or.elim hk_.1 (fun hs_ => fun e_ => Nat.not_le.2 hs_ (Kd.R_base HO392.out k_ e_.symm)) (fun hn_ => (Kd.fresh' (Kd.R_lt (Kd.RA HO392.out)) k_ hn_)), Or.elim hk_.1 (fun hs_ => fun e_ => Nat.not_le.2 hs_ (Kd.R_base HO399.out k_ e_.symm)) (fun hn_ => (Kd.fresh' (Kd.R_lt (Kd.RA HO399.out)) k_ hn_)), Or.elim hk_.1 (fun hs_ => fun e_ => Nat.not_le.2 hs_ (Kd.R_base HO442.out k_ e_.symm)) (fun hn_ => (Kd.fresh' (Kd.R_lt (Kd.RA HO442.out)) k_ hn_)), Or.elim hk_.1 (fun hs_ => fun e_ => Nat.not_le.2 hs_ (by rw [e_]; exact GW384.out)) (fun hn_ => (Kd.freshB (g := gb384) (o := .cells #[.int .i64 a0_0, .slice A0_1 l0_1.length c0_1, .int .i64 a0_2] 24 (0, 0)) (BA BK384.out) k_ hn_)), Or.elim hk_.1 (fun hs_ => fun e_ => Nat.not_le.2 hs_ (by rw [e_]; exact GW388.out)) (fun hn_ => (Kd.freshB (g := gb388) (o := .cells #[.int .i64 a0_0, .slice A0_1 l0_1.length c0_1, .int .i64 a0_2] 27 (0, 0)) (BA BK388.out) k_ hn_)), Or.elim hk_.1 (fun hs_ => fun e_ => Nat.not_le.2 hs_ (by rw [e_]; exact GW395.out)) (fun hn_ => (Kd.freshB (g := gb395) (o := .cells #[.int .i64 t389, .slice Ao30 t390.length co30, .int .i64 t393] 27 (0, 0)) (BA BK395.out) k_ hn_)), Or.elim hk_.1 (fun hs_ => fun e_ => Nat.not_le.2 hs_ (by rw [e_]; exact GW402.out)) (fun hn_ => (Kd.freshB (g := gb402) (o := .cells #[.int .i64 t396, .slice Ao37 t397.length co37, .int .i64 t400] 24 (0, 0)) (BA BK402.out) k_ hn_)), Or.elim hk_.1 (fun hs_ => fun e_ => Nat.not_le.2 hs_ (by rw [e_]; exact GW417.out)) (fun hn_ => (Kd.freshB (g := gb417) (o := .cells #[.int .i64 t403, .slice Ao49 t404.length co49, .int .i64 t407] 27 (0, 0)) (BA BK417.out) k_ hn_)), Or.elim hk_.1 (fun hs_ => fun e_ => Nat.not_le.2 hs_ (by rw [e_]; exact GW418.out)) (fun hn_ => (Kd.freshB (g := gb418) (o := .cells #[.int .i64 t408, .int .i64 t409, .int .i64 t410, .int .i64 t411, .int .i64 t412, .int .i64 t413, .string t414, .int .i64 t415] 36 (0, 0)) (BA BK418.out) k_ hn_)), Or.elim hk_.1 (fun hs_ => fun e_ => Nat.not_le.2 hs_ (by rw [e_]; exact GW433.out)) (fun hn_ => (Kd.freshB (g := gb433) (o := .cells #[.int .i64 t419, .slice Ao69 t420.length co69, .int .i64 t423] 24 (0, 0)) (BA BK433.out) k_ hn_)), Or.elim hk_.1 (fun hs_ => fun e_ => Nat.not_le.2 hs_ (by rw [e_]; exact GW434.out)) (fun hn_ => (Kd.freshB (g := gb434) (o := .cells #[.int .i64 t424, .int .i64 t425, .int .i64 t426, .int .i64 t427, .int .i64 t428, .int .i64 t429, .string t430, .int .i64 t431] 36 (0, 0)) (BA BK434.out) k_ hn_)), Or.elim hk_.1 (fun hs_ => fun e_ => Nat.not_le.2 hs_ (by rw [e_]; exact GW443.out)) (fun hn_ => (Kd.freshB (g := gb443) (o := .cells #[.int .i64 t435, .slice Ao91 t436.length co91, .int .i64 t439] 27 (0, 0)) (BA BK443.out) k_ hn_))⟩)) (below_size (LA HB.out))); have HO451 := Aside0.mk (Kd.R_lower (Kd.R_newB (Kd.R_newB (Kd.R_new' (Kd.R_new' (Kd.R_new' (Kd.R_mono (ok' := fun k_ => True) ho1 (fun _ hk_ => trivial)) (Kd.R_lt (Kd.RA HO392.out))) (Kd.R_lt (Kd.RA HO399.out))) (Kd.R_lt (Kd.RA HO442.out))) (g := gb418) (o := .cells #[.int .i64 t408, .int .i64 t409, .int .i64 t410, .int .i64 t411, .int .i64 t412, .int .i64 t413, .string t414, .int .i64 t415] 36 (0, 0)) (BA BK418.out)) (g := gb434) (o := .cells #[.int .i64 t424, .int .i64 t425, .int .i64 t426, .int .i64 t427, .int .i64 t428, .int .i64 t429, .string t430, .int .i64 t431] 36 (0, 0)) (BA BK434.out)) (below_size (LA HB.out))); replace HO392 := Aside0.mk (Kd.R_elder' (Kd.RA HO392.out) (Kd.R_base ho1) hb); replace HO399 := Aside0.mk (Kd.R_elder' (Kd.RA HO399.out) (Kd.R_base ho1) hb); replace HO442 := Aside0.mk (Kd.R_elder' (Kd.RA HO442.out) (Kd.R_base ho1) hb); replace BK384 := Aside0.mk (blk_below (BA BK384.out) hb); replace BK388 := Aside0.mk (blk_below (BA BK388.out) hb); replace BK395 := Aside0.mk (blk_below (BA BK395.out) hb); replace BK402 := Aside0.mk (blk_below (BA BK402.out) hb); replace BK417 := Aside0.mk (blk_below (BA BK417.out) hb); replace BK418 := Aside0.mk (blk_below (BA BK418.out) hb); replace BK433 := Aside0.mk (blk_below (BA BK433.out) hb); replace BK434 := Aside0.mk (blk_below (BA BK434.out) hb); replace BK443 := Aside0.mk (blk_below (BA BK443.out) hb); replace HB := Aside0.mk (below_step (LA HB.out) hb); (try clear hb); (try clear hb2); (try clear hk); (try clear hi); (try clear ho0); (try clear ho1)) | ((with_reducible refine gate_dst (N := 20) rfl ?_); refine box_event ?hg (N := 20) ?hd (cs := #[.int .i64 0, .slice none 0 0, .int .i64 0]) (t := 24) ?hr ?_; (case hd => rfl); (case hg => rfl); (case hr => first | (go_simp; done) | (go_simp; rfl)); intro gb452 hg w95 hbox hb; replace HO392 := Aside0.mk (Kd.R_below (Kd.RA HO392.out) hb); replace HO399 := Aside0.mk (Kd.R_below (Kd.RA HO399.out) hb); replace HO406 := Aside0.mk (Kd.V_below (Kd.V_elderB (Kd.VA HO406.out) gb452 (Nat.le_of_eq hg.symm)) hb); replace HO422 := Aside0.mk (Kd.V_below (Kd.V_elderB (Kd.VA HO422.out) gb452 (Nat.le_of_eq hg.symm)) hb); replace HO438 := Aside0.mk (Kd.V_below (Kd.V_elderB (Kd.VA HO438.out) gb452 (Nat.le_of_eq hg.symm)) hb); replace HO442 := Aside0.mk (Kd.R_below (Kd.RA HO442.out) hb); replace HO447 := Aside0.mk (Kd.V_below (Kd.V_elderB (Kd.VA HO447.out) gb452 (Nat.le_of_eq hg.symm)) hb); replace HO451 := Aside0.mk (Kd.R_below (Kd.RA HO451.out) hb); have BK452 := Aside0.mk (hbox); have GW452 := Aside0.mk (ge1 hg (LA HB.out)); have GE452 := Aside0.mk (ge1 hg (LA HB.out)); replace HB := Aside0.mk (below_step (LA HB.out) hb); have NB384_452 := Aside0.mk ((by rw [hg]; exact Nat.ne_of_lt (blk_lt (g := gb384) (o := .cells #[.int .i64 a0_0, .slice A0_1 l0_1.length c0_1, .int .i64 a0_2] 24 (0, 0)) (BA BK384.out)) : gb384 ≠ gb452)); have NB452_384 := Aside0.mk ((by rw [hg]; exact Nat.ne_of_gt (blk_lt (g := gb384) (o := .cells #[.int .i64 a0_0, .slice A0_1 l0_1.length c0_1, .int .i64 a0_2] 24 (0, 0)) (BA BK384.out)) : gb452 ≠ gb384)); replace BK384 := Aside0.mk (blk_below (BA BK384.out) hb); have NB388_452 := Aside0.mk ((by rw [hg]; exact Nat.ne_of_lt (blk_lt (g := gb388) (o := .cells #[.int .i64 a0_0, .slice A0_1 l0_1.length c0_1, .int .i64 a0_2] 27 (0, 0)) (BA BK388.out)) : gb388 ≠ gb452)); have NB452_388 := Aside0.mk ((by rw [hg]; exact Nat.ne_of_gt (blk_lt (g := gb388) (o := .cells #[.int .i64 a0_0, .slice A0_1 l0_1.length c0_1, .int .i64 a0_2] 27 (0, 0)) (BA BK388.out)) : gb452 ≠ gb388)); replace BK388 := Aside0.mk (blk_below (BA BK388.out) hb); have NB395_452 := Aside0.mk ((by rw [hg]; exact Nat.ne_of_lt (blk_lt (g := gb395) (o := .cells #[.int .i64 t389, .slice Ao30 t390.length co30, .int .i64 t393] 27 (0, 0)) (BA BK395.out)) : gb395 ≠ gb452)); have NB452_395 := Aside0.mk ((by rw [hg]; exact Nat.ne_of_gt (blk_lt (g := gb395) (o := .cells #[.int .i64 t389, .slice Ao30 t390.length co30, .int .i64 t393] 27 (0, 0)) (BA BK395.out)) : gb452 ≠ gb395)); replace BK395 := Aside0.mk (blk_below (BA BK395.out) hb); have NB402_452 := Aside0.mk ((by rw [hg]; exact Nat.ne_of_lt (blk_lt (g := gb402) (o := .cells #[.int .i64 t396, .slice Ao37 t397.length co37, .int .i64 t400] 24 (0, 0)) (BA BK402.out)) : gb402 ≠ gb452)); have NB452_402 := Aside0.mk ((by rw [hg]; exact Nat.ne_of_gt (blk_lt (g := gb402) (o := .cells #[.int .i64 t396, .slice Ao37 t397.length co37, .int .i64 t400] 24 (0, 0)) (BA BK402.out)) : gb452 ≠ gb402)); replace BK402 := Aside0.mk (blk_below (BA BK402.out) hb); have NB417_452 := Aside0.mk ((by rw [hg]; exact Nat.ne_of_lt (blk_lt (g := gb417) (o := .cells #[.int .i64 t403, .slice Ao49 t404.length co49, .int .i64 t407] 27 (0, 0)) (BA BK417.out)) : gb417 ≠ gb452)); have NB452_417 := Aside0.mk ((by rw [hg]; exact Nat.ne_of_gt (blk_lt (g := gb417) (o := .cells #[.int .i64 t403, .slice Ao49 t404.length co49, .int .i64 t407] 27 (0, 0)) (BA BK417.out)) : gb452 ≠ gb417)); replace BK417 := Aside0.mk (blk_below (BA BK417.out) hb); have NB418_452 := Aside0.mk ((by rw [hg]; exact Nat.ne_of_lt (blk_lt (g := gb418) (o := .cells #[.int .i64 t408, .int .i64 t409, .int .i64 t410, .int .i64 t411, .int .i64 t412, .int .i64 t413, .string t414, .int .i64 t415] 36 (0, 0)) (BA BK418.out)) : gb418 ≠ gb452)); have NB452_418 := Aside0.mk ((by rw [hg]; exact Nat.ne_of_gt (blk_lt (g := gb418) (o := .cells #[.int .i64 t408, .int .i64 t409, .int .i64 t410, .int .i64 t411, .int .i64 t412, .int .i64 t413, .string t414, .int .i64 t415] 36 (0, 0)) (BA BK418.out)) : gb452 ≠ gb418)); replace BK418 := Aside0.mk (blk_below (BA BK418.out) hb); have NB433_452 := Aside0.mk ((by rw [hg]; exact Nat.ne_of_lt (blk_lt (g := gb433) (o := .cells #[.int .i64 t419, .slice Ao69 t420.length co69, .int .i64 t423] 24 (0, 0)) (BA BK433.out)) : gb433 ≠ gb452)); have NB452_433 := Aside0.mk ((by rw [hg]; exact Nat.ne_of_gt (blk_lt (g := gb433) (o := .cells #[.int .i64 t419, .slice Ao69 t420.length co69, .int .i64 t423] 24 (0, 0)) (BA BK433.out)) : gb452 ≠ gb433)); replace BK433 := Aside0.mk (blk_below (BA BK433.out) hb); have NB434_452 := Aside0.mk ((by rw [hg]; exact Nat.ne_of_lt (blk_lt (g := gb434) (o := .cells #[.int .i64 t424, .int .i64 t425, .int .i64 t426, .int .i64 t427, .int .i64 t428, .int .i64 t429, .string t430, .int .i64 t431] 36 (0, 0)) (BA BK434.out)) : gb434 ≠ gb452)); have NB452_434 := Aside0.mk ((by rw [hg]; exact Nat.ne_of_gt (blk_lt (g := gb434) (o := .cells #[.int .i64 t424, .int .i64 t425, .int .i64 t426, .int .i64 t427, .int .i64 t428, .int .i64 t429, .string t430, .int .i64 t431] 36 (0, 0)) (BA BK434.out)) : gb452 ≠ gb434)); replace BK434 := Aside0.mk (blk_below (BA BK434.out) hb); have NB443_452 := Aside0.mk ((by rw [hg]; exact Nat.ne_of_lt (blk_lt (g := gb443) (o := .cells #[.int .i64 t435, .slice Ao91 t436.length co91, .int .i64 t439] 27 (0, 0)) (BA BK443.out)) : gb443 ≠ gb452)); have NB452_443 := Aside0.mk ((by rw [hg]; exact Nat.ne_of_gt (blk_lt (g := gb443) (o := .cells #[.int .i64 t435, .slice Ao91 t436.length co91, .int .i64 t439] 27 (0, 0)) (BA BK443.out)) : gb452 ≠ gb443)); replace BK443 := Aside0.mk (blk_below (BA BK443.out) hb); clear hb hbox hg; have hnb96 := NB452_384.out; have hnc96 := NB384_452.out; have hnb97 := NB452_388.out; have hnc97 := NB388_452.out; have hnb98 := NB452_395.out; have hnc98 := NB395_452.out; have hnb99 := NB452_402.out; have hnc99 := NB402_452.out; have hnb100 := NB452_417.out; have hnc100 := NB417_452.out; have hnb101 := NB452_418.out; have hnc101 := NB418_452.out; have hnb102 := NB452_433.out; have hnc102 := NB433_452.out; have hnb103 := NB452_434.out; have hnc103 := NB434_452.out; have hnb104 := NB452_443.out; have hnc104 := NB443_452.out; obtain ⟨hcz105_0, hcz105_1, hcz105_2, hfz105_0, hfz105_1, hfz105_2⟩ := cz3 BK452.out; obtain ⟨Ao106, co106, eo106⟩ := Kd.V_slice HO447.out; subst eo106))
        (try simp only [Act.put, PU])
        go_cut [101] (fun v101 wc => ∃ (kq : Nat) (x101_19 : Bool), v101 = .bool x101_19 ∧ Aside0 (hopperlaw14_FeedTells.j1 kq l1 x101_19 a0_0 l0_1 a0_2 a0_0 l0_1 a0_2 = some true) ∧ Aside0 (kq ≤ kj3) ∧ Aside0 (Kd.R k36 36 wc w.heap.size (fun k_ => some k_ ≠ ((.slice Ao37 t397.length co37) : Value).ownBlock ∧ k_ ≠ gb418 ∧ k_ ≠ gb434) (.slice Ao30 t390.length co30) t390) ∧ Aside0 (Kd.R k36 36 wc w.heap.size (fun k_ => some k_ ≠ ((.slice Ao30 t390.length co30) : Value).ownBlock ∧ k_ ≠ gb418 ∧ k_ ≠ gb434) (.slice Ao37 t397.length co37) t397) ∧ Aside0 (Kd.V k36 36 wc w.heap.size (fun k_ => some k_ ≠ ((.slice Ao30 t390.length co30) : Value).ownBlock ∧ some k_ ≠ ((.slice Ao37 t397.length co37) : Value).ownBlock ∧ k_ ≠ gb384 ∧ k_ ≠ gb388 ∧ k_ ≠ gb395 ∧ k_ ≠ gb402 ∧ k_ ≠ gb417 ∧ k_ ≠ gb418 ∧ k_ ≠ gb433 ∧ k_ ≠ gb434 ∧ k_ ≠ gb443 ∧ k_ ≠ gb452) (.slice Ao49 t404.length co49) t404) ∧ Aside0 (Kd.V k36 36 wc w.heap.size (fun k_ => some k_ ≠ ((.slice Ao30 t390.length co30) : Value).ownBlock ∧ some k_ ≠ ((.slice Ao37 t397.length co37) : Value).ownBlock ∧ k_ ≠ gb384 ∧ k_ ≠ gb388 ∧ k_ ≠ gb395 ∧ k_ ≠ gb402 ∧ k_ ≠ gb417 ∧ k_ ≠ gb418 ∧ k_ ≠ gb433 ∧ k_ ≠ gb434 ∧ k_ ≠ gb443 ∧ k_ ≠ gb452) (.slice Ao69 t420.length co69) t420) ∧ Aside0 (Kd.V k36 36 wc w.heap.size (fun k_ => some k_ ≠ ((.slice Ao30 t390.length co30) : Value).ownBlock ∧ some k_ ≠ ((.slice Ao37 t397.length co37) : Value).ownBlock ∧ k_ ≠ gb384 ∧ k_ ≠ gb388 ∧ k_ ≠ gb395 ∧ k_ ≠ gb402 ∧ k_ ≠ gb417 ∧ k_ ≠ gb418 ∧ k_ ≠ gb433 ∧ k_ ≠ gb434 ∧ k_ ≠ gb443 ∧ k_ ≠ gb452) (.slice Ao91 t436.length co91) t436) ∧ Aside0 (Kd.V k36 36 wc w.heap.size (fun k_ => some k_ ≠ ((.slice Ao30 t390.length co30) : Value).ownBlock ∧ some k_ ≠ ((.slice Ao37 t397.length co37) : Value).ownBlock ∧ k_ ≠ gb384 ∧ k_ ≠ gb388 ∧ k_ ≠ gb395 ∧ k_ ≠ gb402 ∧ k_ ≠ gb417 ∧ k_ ≠ gb418 ∧ k_ ≠ gb433 ∧ k_ ≠ gb434 ∧ k_ ≠ gb443 ∧ k_ ≠ gb452) (.slice Ao106 t445.length co106) t445) ∧ Aside0 (wc.heap[gb384]? = some (.cells #[.int .i64 a0_0, (.slice A0_1 l0_1.length c0_1), .int .i64 a0_2] 24 (0, 0))) ∧ Aside0 (wc.heap[gb388]? = some (.cells #[.int .i64 a0_0, (.slice A0_1 l0_1.length c0_1), .int .i64 a0_2] 27 (0, 0))) ∧ Aside0 (wc.heap[gb395]? = some (.cells #[.int .i64 t389, (.slice Ao30 t390.length co30), .int .i64 t393] 27 (0, 0))) ∧ Aside0 (wc.heap[gb402]? = some (.cells #[.int .i64 t396, (.slice Ao37 t397.length co37), .int .i64 t400] 24 (0, 0))) ∧ Aside0 (wc.heap[gb417]? = some (.cells #[.int .i64 t403, (.slice Ao49 t404.length co49), .int .i64 t407] 27 (0, 0))) ∧ Aside0 (wc.heap[gb418]? = some (.cells #[.int .i64 t408, .int .i64 t409, .int .i64 t410, .int .i64 t411, .int .i64 t412, .int .i64 t413, .string t414, .int .i64 t415] 36 (0, 0))) ∧ Aside0 (wc.heap[gb433]? = some (.cells #[.int .i64 t419, (.slice Ao69 t420.length co69), .int .i64 t423] 24 (0, 0))) ∧ Aside0 (wc.heap[gb434]? = some (.cells #[.int .i64 t424, .int .i64 t425, .int .i64 t426, .int .i64 t427, .int .i64 t428, .int .i64 t429, .string t430, .int .i64 t431] 36 (0, 0))) ∧ Aside0 (wc.heap[gb443]? = some (.cells #[.int .i64 t435, (.slice Ao91 t436.length co91), .int .i64 t439] 27 (0, 0))) ∧ Aside0 (wc.heap[gb452]? = some (.cells #[.int .i64 t444, (.slice Ao106 t445.length co106), .int .i64 t448] 24 (0, 0))) ∧ Aside0 (Below w.heap.size w wc))
        case first =>
          have H := HC20.out
          clear HC20
          replace H := Option.bind_eq_some_iff.mp H
          obtain ⟨t453, A1070, H⟩ := H
          try dsimp only at H
          have A107 := Aside0.mk A1070
          clear A1070
          by_cases c108 : t453 = true
          · subst c108
            have H1 : (if t394 = t401 then ((hopperref14_Same.f kj3 t403 t404 t407 t419 t420 t423).bind fun t454 => (if t454 = true then (if (!(t408 == t424) || ((!(t409 == t425) || (!(t410 == t426) || (!(t411 == t427) || (!(t412 == t428) || (!(t413 == t429) || (!(t414.toList == t430.toList))))))) || (!(t415 == t431)))) = true then (hopperlaw14_FeedTells.j1 kj3 l1 true a0_0 l0_1 a0_2 a0_0 l0_1 a0_2) else (if t416 = t432 then ((hopperref14_Same.f kj3 t435 t436 t439 t444 t445 t448).bind fun t455 => (if t455 = true then ((hopperref13_Events.f kj3 t440 t449).bind fun t456 => (hopperlaw14_FeedTells.j1 kj3 l1 (!t456) a0_0 l0_1 a0_2 a0_0 l0_1 a0_2)) else (hopperlaw14_FeedTells.j1 kj3 l1 true a0_0 l0_1 a0_2 a0_0 l0_1 a0_2))) else (hopperlaw14_FeedTells.j1 kj3 l1 true a0_0 l0_1 a0_2 a0_0 l0_1 a0_2))) else (hopperlaw14_FeedTells.j1 kj3 l1 true a0_0 l0_1 a0_2 a0_0 l0_1 a0_2))) else (hopperlaw14_FeedTells.j1 kj3 l1 true a0_0 l0_1 a0_2 a0_0 l0_1 a0_2)) = some true := by rw [if_pos rfl] at H; exact H
            clear H
            have H := H1
            clear H1
            by_cases c109 : t394 = t401
            · rw [if_pos c109] at H
              have c109b0 : (t394 == t401) = true := beq_iff_eq.mpr c109
              have c109b1 : (t394 != t401) = false := bne_eq_false_iff_eq.mpr c109
              clear c109
              (first | rw [c109b0] | (simp only [i64_w, i32_w]; rw [c109b0]) | skip)
              replace H := Option.bind_eq_some_iff.mp H
              obtain ⟨t454, A1100, H⟩ := H
              try dsimp only at H
              have A110 := Aside0.mk A1100
              clear A1100
              by_cases c111 : t454 = true
              · subst c111
                have H1 : (if (!(t408 == t424) || ((!(t409 == t425) || (!(t410 == t426) || (!(t411 == t427) || (!(t412 == t428) || (!(t413 == t429) || (!(t414.toList == t430.toList))))))) || (!(t415 == t431)))) = true then (hopperlaw14_FeedTells.j1 kj3 l1 true a0_0 l0_1 a0_2 a0_0 l0_1 a0_2) else (if t416 = t432 then ((hopperref14_Same.f kj3 t435 t436 t439 t444 t445 t448).bind fun t455 => (if t455 = true then ((hopperref13_Events.f kj3 t440 t449).bind fun t456 => (hopperlaw14_FeedTells.j1 kj3 l1 (!t456) a0_0 l0_1 a0_2 a0_0 l0_1 a0_2)) else (hopperlaw14_FeedTells.j1 kj3 l1 true a0_0 l0_1 a0_2 a0_0 l0_1 a0_2))) else (hopperlaw14_FeedTells.j1 kj3 l1 true a0_0 l0_1 a0_2 a0_0 l0_1 a0_2))) = some true := by rw [if_pos rfl] at H; exact H
                clear H
                have H := H1
                clear H1
                by_cases c112 : (!(t408 == t424) || ((!(t409 == t425) || (!(t410 == t426) || (!(t411 == t427) || (!(t412 == t428) || (!(t413 == t429) || (!(t414.toList == t430.toList))))))) || (!(t415 == t431)))) = true
                · rw [if_pos c112] at H
                  have c112b0 : (!(t408 == t424) || ((!(t409 == t425) || (!(t410 == t426) || (!(t411 == t427) || (!(t412 == t428) || (!(t413 == t429) || (!(t414.toList == t430.toList))))))) || (!(t415 == t431)))) = true := c112
                  (try (have c112q : (t408 = t424 ∧ t409 = t425 ∧ t410 = t426 ∧ t411 = t427 ∧ t412 = t428 ∧ t413 = t429 ∧ t414.toList = t430.toList ∧ t415 = t431) = False := eq_false (fun ⟨h0_, h1_, h2_, h3_, h4_, h5_, h6_, h7_⟩ => by simp [h0_, h1_, h2_, h3_, h4_, h5_, h6_, h7_] at c112b0)))
                  clear c112
                  have H' := Aside0.mk H
                  clear H
                  have hnb113 := NB395_384.out
                  have hnc113 := NB384_395.out
                  have hnb114 := NB395_388.out
                  have hnc114 := NB388_395.out
                  have hnb115 := NB395_402.out
                  have hnc115 := NB402_395.out
                  have hnb116 := NB395_417.out
                  have hnc116 := NB417_395.out
                  have hnb117 := NB395_418.out
                  have hnc117 := NB418_395.out
                  have hnb118 := NB395_433.out
                  have hnc118 := NB433_395.out
                  have hnb119 := NB395_434.out
                  have hnc119 := NB434_395.out
                  have hnb120 := NB395_443.out
                  have hnc120 := NB443_395.out
                  have hnb121 := NB395_452.out
                  have hnc121 := NB452_395.out
                  have hcz122_0 : w95.cell? ⟨gb395, 0, none⟩ = some (.int .i64 t389) := (blk_cell BK395.out 0).trans rfl
                  have hcz122_1 : w95.cell? ⟨gb395, 1, none⟩ = some (.slice Ao30 t390.length co30) := (blk_cell BK395.out 1).trans rfl
                  have hcz122_2 : w95.cell? ⟨gb395, 2, none⟩ = some (.int .i64 t393) := (blk_cell BK395.out 2).trans rfl
                  have hfz122_0 := blk_frozen BK395.out 0
                  have hfz122_1 := blk_frozen BK395.out 1
                  have hfz122_2 := blk_frozen BK395.out 2
                  have hnb123 := NB402_384.out
                  have hnc123 := NB384_402.out
                  have hnb124 := NB402_388.out
                  have hnc124 := NB388_402.out
                  have hnb125 := NB402_417.out
                  have hnc125 := NB417_402.out
                  have hnb126 := NB402_418.out
                  have hnc126 := NB418_402.out
                  have hnb127 := NB402_433.out
                  have hnc127 := NB433_402.out
                  have hnb128 := NB402_434.out
                  have hnc128 := NB434_402.out
                  have hnb129 := NB402_443.out
                  have hnc129 := NB443_402.out
                  have hnb130 := NB402_452.out
                  have hnc130 := NB452_402.out
                  have hcz131_0 : w95.cell? ⟨gb402, 0, none⟩ = some (.int .i64 t396) := (blk_cell BK402.out 0).trans rfl
                  have hcz131_1 : w95.cell? ⟨gb402, 1, none⟩ = some (.slice Ao37 t397.length co37) := (blk_cell BK402.out 1).trans rfl
                  have hcz131_2 : w95.cell? ⟨gb402, 2, none⟩ = some (.int .i64 t400) := (blk_cell BK402.out 2).trans rfl
                  have hfz131_0 := blk_frozen BK402.out 0
                  have hfz131_1 := blk_frozen BK402.out 1
                  have hfz131_2 := blk_frozen BK402.out 2
                  go_wp2_with (first | ((with_reducible refine gate_callee (f := 17) rfl ?_); refine goesL_ (some 67) rfl rfl Try.func17 (by kernel_rfl) rfl #[.agg #[.int .i64 t389, .slice Ao30 t390.length co30, .int .i64 t393], .agg #[.int .i64 t396, .slice Ao37 t397.length co37, .int .i64 t400]] rfl (by (try simp only [List.map_toArray, List.map_cons, List.map_nil]); first | done | rfl | (simp only [List.length_drop, List.length_take]; rfl)) ?_; (with_reducible refine (hopperref14_Same.calls kj3 t389 _ _ t390 t393 t396 _ _ t397 t400 true _ ?side1 ?side2 ?side3 ?side4 A107.out).mono ?_); (case side1 => refine (Kd.R_reads' (e := 36) (base := w.heap.size) (ok := fun k_ => ((some k_ ≠ (.slice Ao37 t397.length co37 : Value).ownBlock ∧ (some k_ ≠ (v441 : Value).ownBlock ∧ (k_ ≠ gb418 ∧ k_ ≠ gb434))) ∧ some k_ ≠ (v450 : Value).ownBlock)) (n := t390.length) (c := co30) ?_).2.2; exact ((Kd.R_mono (Kd.R_mv (g := gb452) (Kd.R_types HO392.out BK452.out (by decide)) (fun _ hk => hk.2)) (fun _ h_ => h_.1)))); (case side2 => exact (Kd.R_reads' HO392.out).2.1); (case side3 => refine (Kd.R_reads' (e := 36) (base := w.heap.size) (ok := fun k_ => ((some k_ ≠ (.slice Ao30 t390.length co30 : Value).ownBlock ∧ (some k_ ≠ (v441 : Value).ownBlock ∧ (k_ ≠ gb418 ∧ k_ ≠ gb434))) ∧ some k_ ≠ (v450 : Value).ownBlock)) (n := t397.length) (c := co37) ?_).2.2; exact ((Kd.R_mono (Kd.R_mv (g := gb452) (Kd.R_types HO399.out BK452.out (by decide)) (fun _ hk => hk.2)) (fun _ h_ => h_.1)))); (case side4 => exact (Kd.R_reads' HO399.out).2.1); rintro e w132 ⟨rfl, hb⟩; refine ⟨_, rfl, ?_⟩; replace HO392 := Aside0.mk (Kd.R_below ((Kd.R_mono (Kd.R_mv (g := gb452) (Kd.R_types HO392.out BK452.out (by decide)) (fun _ hk => hk.2)) (fun _ h_ => h_.1))) hb); replace HO399 := Aside0.mk (Kd.R_below ((Kd.R_mono (Kd.R_mv (g := gb452) (Kd.R_types HO399.out BK452.out (by decide)) (fun _ hk => hk.2)) (fun _ h_ => h_.1))) hb); replace HO406 := Aside0.mk (Kd.V_below ((Kd.V_mono (Kd.V_mv (g := gb452) (Kd.V_mono HO406.out (fun k_ hk => (⟨hk, hk.2⟩ : _ ∧ k_ ≠ gb452))) (fun _ hk => hk.2)) (fun _ h_ => h_.1))) hb); replace HO422 := Aside0.mk (Kd.V_below ((Kd.V_mono (Kd.V_mv (g := gb452) (Kd.V_mono HO422.out (fun k_ hk => (⟨hk, hk.2⟩ : _ ∧ k_ ≠ gb452))) (fun _ hk => hk.2)) (fun _ h_ => h_.1))) hb); replace HO438 := Aside0.mk (Kd.V_below ((Kd.V_mono (Kd.V_mv (g := gb452) (Kd.V_mono HO438.out (fun k_ hk => (⟨hk, hk.2⟩ : _ ∧ k_ ≠ gb452))) (fun _ hk => hk.2)) (fun _ h_ => h_.1))) hb); replace HO447 := Aside0.mk (Kd.V_below ((Kd.V_mono (Kd.V_mv (g := gb452) (Kd.V_mono HO447.out (fun k_ hk => (⟨hk, hk.2⟩ : _ ∧ k_ ≠ gb452))) (fun _ hk => hk.2)) (fun _ h_ => h_.1))) hb); replace BK384 := Aside0.mk (blk_below (BF BK384.out NB384_452.out) hb); replace BK388 := Aside0.mk (blk_below (BF BK388.out NB388_452.out) hb); replace BK395 := Aside0.mk (blk_below (BF BK395.out NB395_452.out) hb); replace BK402 := Aside0.mk (blk_below (BF BK402.out NB402_452.out) hb); replace BK417 := Aside0.mk (blk_below (BF BK417.out NB417_452.out) hb); replace BK418 := Aside0.mk (blk_below (BF BK418.out NB418_452.out) hb); replace BK433 := Aside0.mk (blk_below (BF BK433.out NB433_452.out) hb); replace BK434 := Aside0.mk (blk_below (BF BK434.out NB434_452.out) hb); replace BK443 := Aside0.mk (blk_below (BF BK443.out NB443_452.out) hb); replace BK452 := Aside0.mk (blk_below (g := gb452) (o := .cells #[.int .i64 t444, .slice Ao106 t445.length co106, .int .i64 t448] 24 (0, 0)) (BP BK452.out (by rfl)) hb); replace HB := Aside0.mk (below_step (LG HB.out (G1 GE452.out G0)) hb); (try clear HO442); (try clear HO451); (try clear hb); (try clear hb2); (try clear hk); (try clear hi); have hnb133 := NB417_384.out; have hnc133 := NB384_417.out; have hnb134 := NB417_388.out; have hnc134 := NB388_417.out; have hnb135 := NB417_418.out; have hnc135 := NB418_417.out; have hnb136 := NB417_433.out; have hnc136 := NB433_417.out; have hnb137 := NB417_434.out; have hnc137 := NB434_417.out; have hnb138 := NB417_443.out; have hnc138 := NB443_417.out; have hnb139 := NB417_452.out; have hnc139 := NB452_417.out; obtain ⟨hcz140_0, hcz140_1, hcz140_2, hfz140_0, hfz140_1, hfz140_2⟩ := cz3 BK417.out; have hnb141 := NB433_384.out; have hnc141 := NB384_433.out; have hnb142 := NB433_388.out; have hnc142 := NB388_433.out; have hnb143 := NB433_418.out; have hnc143 := NB418_433.out; have hnb144 := NB433_434.out; have hnc144 := NB434_433.out; have hnb145 := NB433_443.out; have hnc145 := NB443_433.out; have hnb146 := NB433_452.out; have hnc146 := NB452_433.out; obtain ⟨hcz147_0, hcz147_1, hcz147_2, hfz147_0, hfz147_1, hfz147_2⟩ := cz3 BK433.out) | (go_at_call 17; (with_reducible refine (hopperref14_Same.calls kj3 t403 _ _ t404 t407 t419 _ _ t420 t423 true _ ?side1 ?side2 ?side3 ?side4 A110.out).mono ?_); (case side1 => exact Kd.CA (Kd.V_reads' HO406.out).2.2); (case side2 => exact (Kd.V_reads' HO406.out).2.1); (case side3 => exact Kd.CA (Kd.V_reads' HO422.out).2.2); (case side4 => exact (Kd.V_reads' HO422.out).2.1); rintro e w148 ⟨rfl, hb⟩; replace HO392 := Aside0.mk (Kd.R_below (Kd.RA HO392.out) hb); replace HO399 := Aside0.mk (Kd.R_below (Kd.RA HO399.out) hb); replace HO406 := Aside0.mk (Kd.V_below (Kd.VA HO406.out) hb); replace HO422 := Aside0.mk (Kd.V_below (Kd.VA HO422.out) hb); replace HO438 := Aside0.mk (Kd.V_below (Kd.VA HO438.out) hb); replace HO447 := Aside0.mk (Kd.V_below (Kd.VA HO447.out) hb); replace BK384 := Aside0.mk (blk_below (BA BK384.out) hb); replace BK388 := Aside0.mk (blk_below (BA BK388.out) hb); replace BK395 := Aside0.mk (blk_below (BA BK395.out) hb); replace BK402 := Aside0.mk (blk_below (BA BK402.out) hb); replace BK417 := Aside0.mk (blk_below (BA BK417.out) hb); replace BK418 := Aside0.mk (blk_below (BA BK418.out) hb); replace BK433 := Aside0.mk (blk_below (BA BK433.out) hb); replace BK434 := Aside0.mk (blk_below (BA BK434.out) hb); replace BK443 := Aside0.mk (blk_below (BA BK443.out) hb); replace BK452 := Aside0.mk (blk_below (BA BK452.out) hb); replace HB := Aside0.mk (below_step (LA HB.out) hb); (try clear HO442); (try clear HO451); (try clear hb); (try clear hb2); (try clear hk); (try clear hi); have hnb149 := NB418_384.out; have hnc149 := NB384_418.out; have hnb150 := NB418_388.out; have hnc150 := NB388_418.out; have hnb151 := NB418_434.out; have hnc151 := NB434_418.out; have hnb152 := NB418_443.out; have hnc152 := NB443_418.out; have hnb153 := NB418_452.out; have hnc153 := NB452_418.out; obtain ⟨hcz154_0, hcz154_1, hcz154_2, hcz154_3, hcz154_4, hcz154_5, hcz154_6, hcz154_7, hfz154_0, hfz154_1, hfz154_2, hfz154_3, hfz154_4, hfz154_5, hfz154_6, hfz154_7⟩ := cz8 BK418.out; have hnb155 := NB434_384.out; have hnc155 := NB384_434.out; have hnb156 := NB434_388.out; have hnc156 := NB388_434.out; have hnb157 := NB434_443.out; have hnc157 := NB443_434.out; have hnb158 := NB434_452.out; have hnc158 := NB452_434.out; obtain ⟨hcz159_0, hcz159_1, hcz159_2, hcz159_3, hcz159_4, hcz159_5, hcz159_6, hcz159_7, hfz159_0, hfz159_1, hfz159_2, hfz159_3, hfz159_4, hfz159_5, hfz159_6, hfz159_7⟩ := cz8 BK434.out))
                  go_meet
                  case rel => exact ⟨_, (true), (by first | (rw [HR_.out]; done) | rfl | (rw [HR_.out]; rfl) | (simp [HR_.out]; done) | (simp; done) | (simp [*]; done)), H', ⟨by have := HJ3.out; first | omega | exact Nat.le_refl _⟩, ⟨by (with_reducible repeat (first | apply Kd.R_alloc | apply Kd.R_drewN | apply Kd.R_drew)); exact Kd.R_mono HO392.out (fun _ hk => ⟨hk.1.1, ⟨hk.1.2.2.1, hk.1.2.2.2⟩⟩)⟩, ⟨by (with_reducible repeat (first | apply Kd.R_alloc | apply Kd.R_drewN | apply Kd.R_drew)); exact Kd.R_mono HO399.out (fun _ hk => ⟨hk.1.1, ⟨hk.1.2.2.1, hk.1.2.2.2⟩⟩)⟩, ⟨by (with_reducible repeat (first | apply Kd.V_alloc | apply Kd.V_drewN | apply Kd.V_drew)); exact Kd.V_mono HO406.out (fun _ hk => ⟨hk.1.1.1, ⟨hk.1.1.2.1, ⟨hk.1.1.2.2.2.1, ⟨hk.1.1.2.2.2.2.1, ⟨hk.1.1.2.2.2.2.2.1, ⟨hk.1.1.2.2.2.2.2.2.1, ⟨hk.1.1.2.2.2.2.2.2.2.1, ⟨hk.1.1.2.2.2.2.2.2.2.2.1, ⟨hk.1.1.2.2.2.2.2.2.2.2.2.1, ⟨hk.1.1.2.2.2.2.2.2.2.2.2.2.1, ⟨hk.1.1.2.2.2.2.2.2.2.2.2.2.2, hk.2⟩⟩⟩⟩⟩⟩⟩⟩⟩⟩⟩)⟩, ⟨by (with_reducible repeat (first | apply Kd.V_alloc | apply Kd.V_drewN | apply Kd.V_drew)); exact Kd.V_mono HO422.out (fun _ hk => ⟨hk.1.1.1, ⟨hk.1.1.2.1, ⟨hk.1.1.2.2.2.1, ⟨hk.1.1.2.2.2.2.1, ⟨hk.1.1.2.2.2.2.2.1, ⟨hk.1.1.2.2.2.2.2.2.1, ⟨hk.1.1.2.2.2.2.2.2.2.1, ⟨hk.1.1.2.2.2.2.2.2.2.2.1, ⟨hk.1.1.2.2.2.2.2.2.2.2.2.1, ⟨hk.1.1.2.2.2.2.2.2.2.2.2.2.1, ⟨hk.1.1.2.2.2.2.2.2.2.2.2.2.2, hk.2⟩⟩⟩⟩⟩⟩⟩⟩⟩⟩⟩)⟩, ⟨by (with_reducible repeat (first | apply Kd.V_alloc | apply Kd.V_drewN | apply Kd.V_drew)); exact Kd.V_mono HO438.out (fun _ hk => ⟨hk.1.1.1, ⟨hk.1.1.2.1, ⟨hk.1.1.2.2.2.1, ⟨hk.1.1.2.2.2.2.1, ⟨hk.1.1.2.2.2.2.2.1, ⟨hk.1.1.2.2.2.2.2.2.1, ⟨hk.1.1.2.2.2.2.2.2.2.1, ⟨hk.1.1.2.2.2.2.2.2.2.2.1, ⟨hk.1.1.2.2.2.2.2.2.2.2.2.1, ⟨hk.1.1.2.2.2.2.2.2.2.2.2.2.1, ⟨hk.1.1.2.2.2.2.2.2.2.2.2.2.2, hk.2⟩⟩⟩⟩⟩⟩⟩⟩⟩⟩⟩)⟩, ⟨by (with_reducible repeat (first | apply Kd.V_alloc | apply Kd.V_drewN | apply Kd.V_drew)); exact Kd.V_mono HO447.out (fun _ hk => ⟨hk.1.2.1, ⟨hk.1.2.2.1, ⟨hk.1.2.2.2.2.1, ⟨hk.1.2.2.2.2.2.1, ⟨hk.1.2.2.2.2.2.2.1, ⟨hk.1.2.2.2.2.2.2.2.1, ⟨hk.1.2.2.2.2.2.2.2.2.1, ⟨hk.1.2.2.2.2.2.2.2.2.2.1, ⟨hk.1.2.2.2.2.2.2.2.2.2.2.1, ⟨hk.1.2.2.2.2.2.2.2.2.2.2.2.1, ⟨hk.1.2.2.2.2.2.2.2.2.2.2.2.2, hk.2⟩⟩⟩⟩⟩⟩⟩⟩⟩⟩⟩)⟩, ⟨by (with_reducible repeat (first | refine blk_drewN ?_ _ | refine blk_drew ?_ | refine blk_alloc ?_ _)); exact BK384.out⟩, ⟨by (with_reducible repeat (first | refine blk_drewN ?_ _ | refine blk_drew ?_ | refine blk_alloc ?_ _)); exact BK388.out⟩, ⟨by (with_reducible repeat (first | refine blk_drewN ?_ _ | refine blk_drew ?_ | refine blk_alloc ?_ _)); exact BK395.out⟩, ⟨by (with_reducible repeat (first | refine blk_drewN ?_ _ | refine blk_drew ?_ | refine blk_alloc ?_ _)); exact BK402.out⟩, ⟨by (with_reducible repeat (first | refine blk_drewN ?_ _ | refine blk_drew ?_ | refine blk_alloc ?_ _)); exact BK417.out⟩, ⟨by (with_reducible repeat (first | refine blk_drewN ?_ _ | refine blk_drew ?_ | refine blk_alloc ?_ _)); exact BK418.out⟩, ⟨by (with_reducible repeat (first | refine blk_drewN ?_ _ | refine blk_drew ?_ | refine blk_alloc ?_ _)); exact BK433.out⟩, ⟨by (with_reducible repeat (first | refine blk_drewN ?_ _ | refine blk_drew ?_ | refine blk_alloc ?_ _)); exact BK434.out⟩, ⟨by (with_reducible repeat (first | refine blk_drewN ?_ _ | refine blk_drew ?_ | refine blk_alloc ?_ _)); exact BK443.out⟩, ⟨by (with_reducible repeat (first | refine blk_drewN ?_ _ | refine blk_drew ?_ | refine blk_alloc ?_ _)); exact BK452.out⟩, ⟨LG HB.out (G1 GE384.out (G1 GE388.out (G1 GE395.out (G1 GE402.out (G1 GE417.out (G1 GE418.out (G1 GE433.out (G1 GE434.out (G1 GE443.out (G1 GE452.out G0))))))))))⟩⟩
                · rw [if_neg c112] at H
                  have c112b0 : (!(t408 == t424) || ((!(t409 == t425) || (!(t410 == t426) || (!(t411 == t427) || (!(t412 == t428) || (!(t413 == t429) || (!(t414.toList == t430.toList))))))) || (!(t415 == t431)))) = false := by simpa using c112
                  (try (have c112q : (t408 = t424 ∧ t409 = t425 ∧ t410 = t426 ∧ t411 = t427 ∧ t412 = t428 ∧ t413 = t429 ∧ t414.toList = t430.toList ∧ t415 = t431) = True := eq_true (by simpa using c112b0)))
                  clear c112
                  by_cases c160 : t416 = t432
                  · rw [if_pos c160] at H
                    have c160b0 : (t416 == t432) = true := beq_iff_eq.mpr c160
                    have c160b1 : (t416 != t432) = false := bne_eq_false_iff_eq.mpr c160
                    clear c160
                    replace H := Option.bind_eq_some_iff.mp H
                    obtain ⟨t455, A1610, H⟩ := H
                    try dsimp only at H
                    have A161 := Aside0.mk A1610
                    clear A1610
                    by_cases c162 : t455 = true
                    · subst c162
                      have H1 : ((hopperref13_Events.f kj3 t440 t449).bind fun t456 => (hopperlaw14_FeedTells.j1 kj3 l1 (!t456) a0_0 l0_1 a0_2 a0_0 l0_1 a0_2)) = some true := by rw [if_pos rfl] at H; exact H
                      clear H
                      have H := H1
                      clear H1
                      replace H := Option.bind_eq_some_iff.mp H
                      obtain ⟨t456, A1630, H⟩ := H
                      try dsimp only at H
                      have A163 := Aside0.mk A1630
                      clear A1630
                      have H' := Aside0.mk H
                      clear H
                      have hnb164 := NB395_384.out
                      have hnc164 := NB384_395.out
                      have hnb165 := NB395_388.out
                      have hnc165 := NB388_395.out
                      have hnb166 := NB395_402.out
                      have hnc166 := NB402_395.out
                      have hnb167 := NB395_417.out
                      have hnc167 := NB417_395.out
                      have hnb168 := NB395_418.out
                      have hnc168 := NB418_395.out
                      have hnb169 := NB395_433.out
                      have hnc169 := NB433_395.out
                      have hnb170 := NB395_434.out
                      have hnc170 := NB434_395.out
                      have hnb171 := NB395_443.out
                      have hnc171 := NB443_395.out
                      have hnb172 := NB395_452.out
                      have hnc172 := NB452_395.out
                      have hcz173_0 : w95.cell? ⟨gb395, 0, none⟩ = some (.int .i64 t389) := (blk_cell BK395.out 0).trans rfl
                      have hcz173_1 : w95.cell? ⟨gb395, 1, none⟩ = some (.slice Ao30 t390.length co30) := (blk_cell BK395.out 1).trans rfl
                      have hcz173_2 : w95.cell? ⟨gb395, 2, none⟩ = some (.int .i64 t393) := (blk_cell BK395.out 2).trans rfl
                      have hfz173_0 := blk_frozen BK395.out 0
                      have hfz173_1 := blk_frozen BK395.out 1
                      have hfz173_2 := blk_frozen BK395.out 2
                      have hnb174 := NB402_384.out
                      have hnc174 := NB384_402.out
                      have hnb175 := NB402_388.out
                      have hnc175 := NB388_402.out
                      have hnb176 := NB402_417.out
                      have hnc176 := NB417_402.out
                      have hnb177 := NB402_418.out
                      have hnc177 := NB418_402.out
                      have hnb178 := NB402_433.out
                      have hnc178 := NB433_402.out
                      have hnb179 := NB402_434.out
                      have hnc179 := NB434_402.out
                      have hnb180 := NB402_443.out
                      have hnc180 := NB443_402.out
                      have hnb181 := NB402_452.out
                      have hnc181 := NB452_402.out
                      have hcz182_0 : w95.cell? ⟨gb402, 0, none⟩ = some (.int .i64 t396) := (blk_cell BK402.out 0).trans rfl
                      have hcz182_1 : w95.cell? ⟨gb402, 1, none⟩ = some (.slice Ao37 t397.length co37) := (blk_cell BK402.out 1).trans rfl
                      have hcz182_2 : w95.cell? ⟨gb402, 2, none⟩ = some (.int .i64 t400) := (blk_cell BK402.out 2).trans rfl
                      have hfz182_0 := blk_frozen BK402.out 0
                      have hfz182_1 := blk_frozen BK402.out 1
                      have hfz182_2 := blk_frozen BK402.out 2
                      go_wp2_with (first | ((with_reducible refine gate_callee (f := 17) rfl ?_); refine goesL_ (some 67) rfl rfl Try.func17 (by kernel_rfl) rfl #[.agg #[.int .i64 t389, .slice Ao30 t390.length co30, .int .i64 t393], .agg #[.int .i64 t396, .slice Ao37 t397.length co37, .int .i64 t400]] rfl (by (try simp only [List.map_toArray, List.map_cons, List.map_nil]); first | done | rfl | (simp only [List.length_drop, List.length_take]; rfl)) ?_; (with_reducible refine (hopperref14_Same.calls kj3 t389 _ _ t390 t393 t396 _ _ t397 t400 true _ ?side1 ?side2 ?side3 ?side4 A107.out).mono ?_); (case side1 => refine (Kd.R_reads' (e := 36) (base := w.heap.size) (ok := fun k_ => ((some k_ ≠ (.slice Ao37 t397.length co37 : Value).ownBlock ∧ (some k_ ≠ (v441 : Value).ownBlock ∧ (k_ ≠ gb418 ∧ k_ ≠ gb434))) ∧ some k_ ≠ (v450 : Value).ownBlock)) (n := t390.length) (c := co30) ?_).2.2; exact ((Kd.R_mono (Kd.R_mv (g := gb452) (Kd.R_types HO392.out BK452.out (by decide)) (fun _ hk => hk.2)) (fun _ h_ => h_.1)))); (case side2 => exact (Kd.R_reads' HO392.out).2.1); (case side3 => refine (Kd.R_reads' (e := 36) (base := w.heap.size) (ok := fun k_ => ((some k_ ≠ (.slice Ao30 t390.length co30 : Value).ownBlock ∧ (some k_ ≠ (v441 : Value).ownBlock ∧ (k_ ≠ gb418 ∧ k_ ≠ gb434))) ∧ some k_ ≠ (v450 : Value).ownBlock)) (n := t397.length) (c := co37) ?_).2.2; exact ((Kd.R_mono (Kd.R_mv (g := gb452) (Kd.R_types HO399.out BK452.out (by decide)) (fun _ hk => hk.2)) (fun _ h_ => h_.1)))); (case side4 => exact (Kd.R_reads' HO399.out).2.1); rintro e w183 ⟨rfl, hb⟩; refine ⟨_, rfl, ?_⟩; replace HO392 := Aside0.mk (Kd.R_below ((Kd.R_mono (Kd.R_mv (g := gb452) (Kd.R_types HO392.out BK452.out (by decide)) (fun _ hk => hk.2)) (fun _ h_ => h_.1))) hb); replace HO399 := Aside0.mk (Kd.R_below ((Kd.R_mono (Kd.R_mv (g := gb452) (Kd.R_types HO399.out BK452.out (by decide)) (fun _ hk => hk.2)) (fun _ h_ => h_.1))) hb); replace HO406 := Aside0.mk (Kd.V_below ((Kd.V_mono (Kd.V_mv (g := gb452) (Kd.V_mono HO406.out (fun k_ hk => (⟨hk, hk.2⟩ : _ ∧ k_ ≠ gb452))) (fun _ hk => hk.2)) (fun _ h_ => h_.1))) hb); replace HO422 := Aside0.mk (Kd.V_below ((Kd.V_mono (Kd.V_mv (g := gb452) (Kd.V_mono HO422.out (fun k_ hk => (⟨hk, hk.2⟩ : _ ∧ k_ ≠ gb452))) (fun _ hk => hk.2)) (fun _ h_ => h_.1))) hb); replace HO438 := Aside0.mk (Kd.V_below ((Kd.V_mono (Kd.V_mv (g := gb452) (Kd.V_mono HO438.out (fun k_ hk => (⟨hk, hk.2⟩ : _ ∧ k_ ≠ gb452))) (fun _ hk => hk.2)) (fun _ h_ => h_.1))) hb); replace HO442 := Aside0.mk (Kd.R_below ((Kd.R_mono (Kd.R_mv (g := gb452) (Kd.R_types HO442.out BK452.out (by decide)) (fun _ hk => hk.2)) (fun _ h_ => h_.1))) hb); replace HO447 := Aside0.mk (Kd.V_below ((Kd.V_mono (Kd.V_mv (g := gb452) (Kd.V_mono HO447.out (fun k_ hk => (⟨hk, hk.2⟩ : _ ∧ k_ ≠ gb452))) (fun _ hk => hk.2)) (fun _ h_ => h_.1))) hb); replace HO451 := Aside0.mk (Kd.R_below ((Kd.R_mono (Kd.R_mv (g := gb452) (Kd.R_types HO451.out BK452.out (by decide)) (fun _ hk => hk.2)) (fun _ h_ => h_.1))) hb); replace BK384 := Aside0.mk (blk_below (BF BK384.out NB384_452.out) hb); replace BK388 := Aside0.mk (blk_below (BF BK388.out NB388_452.out) hb); replace BK395 := Aside0.mk (blk_below (BF BK395.out NB395_452.out) hb); replace BK402 := Aside0.mk (blk_below (BF BK402.out NB402_452.out) hb); replace BK417 := Aside0.mk (blk_below (BF BK417.out NB417_452.out) hb); replace BK418 := Aside0.mk (blk_below (BF BK418.out NB418_452.out) hb); replace BK433 := Aside0.mk (blk_below (BF BK433.out NB433_452.out) hb); replace BK434 := Aside0.mk (blk_below (BF BK434.out NB434_452.out) hb); replace BK443 := Aside0.mk (blk_below (BF BK443.out NB443_452.out) hb); replace BK452 := Aside0.mk (blk_below (g := gb452) (o := .cells #[.int .i64 t444, .slice Ao106 t445.length co106, .int .i64 t448] 24 (0, 0)) (BP BK452.out (by rfl)) hb); replace HB := Aside0.mk (below_step (LG HB.out (G1 GE452.out G0)) hb); (try clear hb); (try clear hb2); (try clear hk); (try clear hi); have hnb184 := NB417_384.out; have hnc184 := NB384_417.out; have hnb185 := NB417_388.out; have hnc185 := NB388_417.out; have hnb186 := NB417_418.out; have hnc186 := NB418_417.out; have hnb187 := NB417_433.out; have hnc187 := NB433_417.out; have hnb188 := NB417_434.out; have hnc188 := NB434_417.out; have hnb189 := NB417_443.out; have hnc189 := NB443_417.out; have hnb190 := NB417_452.out; have hnc190 := NB452_417.out; obtain ⟨hcz191_0, hcz191_1, hcz191_2, hfz191_0, hfz191_1, hfz191_2⟩ := cz3 BK417.out; have hnb192 := NB433_384.out; have hnc192 := NB384_433.out; have hnb193 := NB433_388.out; have hnc193 := NB388_433.out; have hnb194 := NB433_418.out; have hnc194 := NB418_433.out; have hnb195 := NB433_434.out; have hnc195 := NB434_433.out; have hnb196 := NB433_443.out; have hnc196 := NB443_433.out; have hnb197 := NB433_452.out; have hnc197 := NB452_433.out; obtain ⟨hcz198_0, hcz198_1, hcz198_2, hfz198_0, hfz198_1, hfz198_2⟩ := cz3 BK433.out) | (go_at_call 17; (with_reducible refine (hopperref14_Same.calls kj3 t403 _ _ t404 t407 t419 _ _ t420 t423 true _ ?side1 ?side2 ?side3 ?side4 A110.out).mono ?_); (case side1 => exact Kd.CA (Kd.V_reads' HO406.out).2.2); (case side2 => exact (Kd.V_reads' HO406.out).2.1); (case side3 => exact Kd.CA (Kd.V_reads' HO422.out).2.2); (case side4 => exact (Kd.V_reads' HO422.out).2.1); rintro e w199 ⟨rfl, hb⟩; replace HO392 := Aside0.mk (Kd.R_below (Kd.RA HO392.out) hb); replace HO399 := Aside0.mk (Kd.R_below (Kd.RA HO399.out) hb); replace HO406 := Aside0.mk (Kd.V_below (Kd.VA HO406.out) hb); replace HO422 := Aside0.mk (Kd.V_below (Kd.VA HO422.out) hb); replace HO438 := Aside0.mk (Kd.V_below (Kd.VA HO438.out) hb); replace HO442 := Aside0.mk (Kd.R_below (Kd.RA HO442.out) hb); replace HO447 := Aside0.mk (Kd.V_below (Kd.VA HO447.out) hb); replace HO451 := Aside0.mk (Kd.R_below (Kd.RA HO451.out) hb); replace BK384 := Aside0.mk (blk_below (BA BK384.out) hb); replace BK388 := Aside0.mk (blk_below (BA BK388.out) hb); replace BK395 := Aside0.mk (blk_below (BA BK395.out) hb); replace BK402 := Aside0.mk (blk_below (BA BK402.out) hb); replace BK417 := Aside0.mk (blk_below (BA BK417.out) hb); replace BK418 := Aside0.mk (blk_below (BA BK418.out) hb); replace BK433 := Aside0.mk (blk_below (BA BK433.out) hb); replace BK434 := Aside0.mk (blk_below (BA BK434.out) hb); replace BK443 := Aside0.mk (blk_below (BA BK443.out) hb); replace BK452 := Aside0.mk (blk_below (BA BK452.out) hb); replace HB := Aside0.mk (below_step (LA HB.out) hb); (try clear hb); (try clear hb2); (try clear hk); (try clear hi); have hnb200 := NB418_384.out; have hnc200 := NB384_418.out; have hnb201 := NB418_388.out; have hnc201 := NB388_418.out; have hnb202 := NB418_434.out; have hnc202 := NB434_418.out; have hnb203 := NB418_443.out; have hnc203 := NB443_418.out; have hnb204 := NB418_452.out; have hnc204 := NB452_418.out; obtain ⟨hcz205_0, hcz205_1, hcz205_2, hcz205_3, hcz205_4, hcz205_5, hcz205_6, hcz205_7, hfz205_0, hfz205_1, hfz205_2, hfz205_3, hfz205_4, hfz205_5, hfz205_6, hfz205_7⟩ := cz8 BK418.out; have hnb206 := NB434_384.out; have hnc206 := NB384_434.out; have hnb207 := NB434_388.out; have hnc207 := NB388_434.out; have hnb208 := NB434_443.out; have hnc208 := NB443_434.out; have hnb209 := NB434_452.out; have hnc209 := NB452_434.out; obtain ⟨hcz210_0, hcz210_1, hcz210_2, hcz210_3, hcz210_4, hcz210_5, hcz210_6, hcz210_7, hfz210_0, hfz210_1, hfz210_2, hfz210_3, hfz210_4, hfz210_5, hfz210_6, hfz210_7⟩ := cz8 BK434.out; have hnb211 := NB443_384.out; have hnc211 := NB384_443.out; have hnb212 := NB443_388.out; have hnc212 := NB388_443.out; have hnb213 := NB443_452.out; have hnc213 := NB452_443.out; obtain ⟨hcz214_0, hcz214_1, hcz214_2, hfz214_0, hfz214_1, hfz214_2⟩ := cz3 BK443.out; have hnb215 := NB452_384.out; have hnc215 := NB384_452.out; have hnb216 := NB452_388.out; have hnc216 := NB388_452.out; obtain ⟨hcz217_0, hcz217_1, hcz217_2, hfz217_0, hfz217_1, hfz217_2⟩ := cz3 BK452.out) | (go_at_call 17; (with_reducible refine (hopperref14_Same.calls kj3 t435 _ _ t436 t439 t444 _ _ t445 t448 true _ ?side1 ?side2 ?side3 ?side4 A161.out).mono ?_); (case side1 => exact Kd.CA (Kd.V_reads' HO438.out).2.2); (case side2 => exact (Kd.V_reads' HO438.out).2.1); (case side3 => exact Kd.CA (Kd.V_reads' HO447.out).2.2); (case side4 => exact (Kd.V_reads' HO447.out).2.1); rintro e w218 ⟨rfl, hb⟩; replace HO392 := Aside0.mk (Kd.R_below (Kd.RA HO392.out) hb); replace HO399 := Aside0.mk (Kd.R_below (Kd.RA HO399.out) hb); replace HO406 := Aside0.mk (Kd.V_below (Kd.VA HO406.out) hb); replace HO422 := Aside0.mk (Kd.V_below (Kd.VA HO422.out) hb); replace HO438 := Aside0.mk (Kd.V_below (Kd.VA HO438.out) hb); replace HO442 := Aside0.mk (Kd.R_below (Kd.RA HO442.out) hb); replace HO447 := Aside0.mk (Kd.V_below (Kd.VA HO447.out) hb); replace HO451 := Aside0.mk (Kd.R_below (Kd.RA HO451.out) hb); replace BK384 := Aside0.mk (blk_below (BA BK384.out) hb); replace BK388 := Aside0.mk (blk_below (BA BK388.out) hb); replace BK395 := Aside0.mk (blk_below (BA BK395.out) hb); replace BK402 := Aside0.mk (blk_below (BA BK402.out) hb); replace BK417 := Aside0.mk (blk_below (BA BK417.out) hb); replace BK418 := Aside0.mk (blk_below (BA BK418.out) hb); replace BK433 := Aside0.mk (blk_below (BA BK433.out) hb); replace BK434 := Aside0.mk (blk_below (BA BK434.out) hb); replace BK443 := Aside0.mk (blk_below (BA BK443.out) hb); replace BK452 := Aside0.mk (blk_below (BA BK452.out) hb); replace HB := Aside0.mk (below_step (LA HB.out) hb); (try clear hb); (try clear hb2); (try clear hk); (try clear hi); obtain ⟨Ao219, co219, eo219⟩ := Kd.R_slice HO442.out; subst eo219; obtain ⟨Ao220, co220, eo220⟩ := Kd.R_slice HO451.out; subst eo220) | (go_at_call 18; (with_reducible refine (hopperref13_Events.calls kj3 _ _ t440 _ _ t449 t456 _ ?side1 ?side2 ?side3 ?side4 A163.out).mono ?_); (case side1 => exact Kd.CA (Kd.R_reads' HO442.out).2.2); (case side2 => exact (Kd.R_reads' HO442.out).2.1); (case side3 => exact Kd.CA (Kd.R_reads' HO451.out).2.2); (case side4 => exact (Kd.R_reads' HO451.out).2.1); rintro e w' ⟨rfl, ⟨nd, rfl⟩⟩))
                      go_meet
                      case rel => exact ⟨_, (!t456), (by first | (rw [HR_.out]; done) | rfl | (rw [HR_.out]; rfl) | (simp [HR_.out]; done) | (simp; done) | (simp [*]; done)), H', ⟨by have := HJ3.out; first | omega | exact Nat.le_refl _⟩, ⟨by (with_reducible repeat (first | apply Kd.R_alloc | apply Kd.R_drewN | apply Kd.R_drew)); exact Kd.R_mono HO392.out (fun _ hk => ⟨hk.1.1, ⟨hk.1.2.2.1, hk.1.2.2.2⟩⟩)⟩, ⟨by (with_reducible repeat (first | apply Kd.R_alloc | apply Kd.R_drewN | apply Kd.R_drew)); exact Kd.R_mono HO399.out (fun _ hk => ⟨hk.1.1, ⟨hk.1.2.2.1, hk.1.2.2.2⟩⟩)⟩, ⟨by (with_reducible repeat (first | apply Kd.V_alloc | apply Kd.V_drewN | apply Kd.V_drew)); exact Kd.V_mono HO406.out (fun _ hk => ⟨hk.1.1.1, ⟨hk.1.1.2.1, ⟨hk.1.1.2.2.2.1, ⟨hk.1.1.2.2.2.2.1, ⟨hk.1.1.2.2.2.2.2.1, ⟨hk.1.1.2.2.2.2.2.2.1, ⟨hk.1.1.2.2.2.2.2.2.2.1, ⟨hk.1.1.2.2.2.2.2.2.2.2.1, ⟨hk.1.1.2.2.2.2.2.2.2.2.2.1, ⟨hk.1.1.2.2.2.2.2.2.2.2.2.2.1, ⟨hk.1.1.2.2.2.2.2.2.2.2.2.2.2, hk.2⟩⟩⟩⟩⟩⟩⟩⟩⟩⟩⟩)⟩, ⟨by (with_reducible repeat (first | apply Kd.V_alloc | apply Kd.V_drewN | apply Kd.V_drew)); exact Kd.V_mono HO422.out (fun _ hk => ⟨hk.1.1.1, ⟨hk.1.1.2.1, ⟨hk.1.1.2.2.2.1, ⟨hk.1.1.2.2.2.2.1, ⟨hk.1.1.2.2.2.2.2.1, ⟨hk.1.1.2.2.2.2.2.2.1, ⟨hk.1.1.2.2.2.2.2.2.2.1, ⟨hk.1.1.2.2.2.2.2.2.2.2.1, ⟨hk.1.1.2.2.2.2.2.2.2.2.2.1, ⟨hk.1.1.2.2.2.2.2.2.2.2.2.2.1, ⟨hk.1.1.2.2.2.2.2.2.2.2.2.2.2, hk.2⟩⟩⟩⟩⟩⟩⟩⟩⟩⟩⟩)⟩, ⟨by (with_reducible repeat (first | apply Kd.V_alloc | apply Kd.V_drewN | apply Kd.V_drew)); exact Kd.V_mono HO438.out (fun _ hk => ⟨hk.1.1.1, ⟨hk.1.1.2.1, ⟨hk.1.1.2.2.2.1, ⟨hk.1.1.2.2.2.2.1, ⟨hk.1.1.2.2.2.2.2.1, ⟨hk.1.1.2.2.2.2.2.2.1, ⟨hk.1.1.2.2.2.2.2.2.2.1, ⟨hk.1.1.2.2.2.2.2.2.2.2.1, ⟨hk.1.1.2.2.2.2.2.2.2.2.2.1, ⟨hk.1.1.2.2.2.2.2.2.2.2.2.2.1, ⟨hk.1.1.2.2.2.2.2.2.2.2.2.2.2, hk.2⟩⟩⟩⟩⟩⟩⟩⟩⟩⟩⟩)⟩, ⟨by (with_reducible repeat (first | apply Kd.V_alloc | apply Kd.V_drewN | apply Kd.V_drew)); exact Kd.V_mono HO447.out (fun _ hk => ⟨hk.1.2.1, ⟨hk.1.2.2.1, ⟨hk.1.2.2.2.2.1, ⟨hk.1.2.2.2.2.2.1, ⟨hk.1.2.2.2.2.2.2.1, ⟨hk.1.2.2.2.2.2.2.2.1, ⟨hk.1.2.2.2.2.2.2.2.2.1, ⟨hk.1.2.2.2.2.2.2.2.2.2.1, ⟨hk.1.2.2.2.2.2.2.2.2.2.2.1, ⟨hk.1.2.2.2.2.2.2.2.2.2.2.2.1, ⟨hk.1.2.2.2.2.2.2.2.2.2.2.2.2, hk.2⟩⟩⟩⟩⟩⟩⟩⟩⟩⟩⟩)⟩, ⟨by (with_reducible repeat (first | refine blk_drewN ?_ _ | refine blk_drew ?_ | refine blk_alloc ?_ _)); exact BK384.out⟩, ⟨by (with_reducible repeat (first | refine blk_drewN ?_ _ | refine blk_drew ?_ | refine blk_alloc ?_ _)); exact BK388.out⟩, ⟨by (with_reducible repeat (first | refine blk_drewN ?_ _ | refine blk_drew ?_ | refine blk_alloc ?_ _)); exact BK395.out⟩, ⟨by (with_reducible repeat (first | refine blk_drewN ?_ _ | refine blk_drew ?_ | refine blk_alloc ?_ _)); exact BK402.out⟩, ⟨by (with_reducible repeat (first | refine blk_drewN ?_ _ | refine blk_drew ?_ | refine blk_alloc ?_ _)); exact BK417.out⟩, ⟨by (with_reducible repeat (first | refine blk_drewN ?_ _ | refine blk_drew ?_ | refine blk_alloc ?_ _)); exact BK418.out⟩, ⟨by (with_reducible repeat (first | refine blk_drewN ?_ _ | refine blk_drew ?_ | refine blk_alloc ?_ _)); exact BK433.out⟩, ⟨by (with_reducible repeat (first | refine blk_drewN ?_ _ | refine blk_drew ?_ | refine blk_alloc ?_ _)); exact BK434.out⟩, ⟨by (with_reducible repeat (first | refine blk_drewN ?_ _ | refine blk_drew ?_ | refine blk_alloc ?_ _)); exact BK443.out⟩, ⟨by (with_reducible repeat (first | refine blk_drewN ?_ _ | refine blk_drew ?_ | refine blk_alloc ?_ _)); exact BK452.out⟩, ⟨LG HB.out (G1 GE384.out (G1 GE388.out (G1 GE395.out (G1 GE402.out (G1 GE417.out (G1 GE418.out (G1 GE433.out (G1 GE434.out (G1 GE443.out (G1 GE452.out G0))))))))))⟩⟩
                    · replace c162 := Bool.eq_false_iff.mpr c162
                      subst c162
                      have H1 : (hopperlaw14_FeedTells.j1 kj3 l1 true a0_0 l0_1 a0_2 a0_0 l0_1 a0_2) = some true := by rw [if_neg (show ¬ (false = true) by decide)] at H; exact H
                      clear H
                      have H := H1
                      clear H1
                      have H' := Aside0.mk H
                      clear H
                      have hnb221 := NB395_384.out
                      have hnc221 := NB384_395.out
                      have hnb222 := NB395_388.out
                      have hnc222 := NB388_395.out
                      have hnb223 := NB395_402.out
                      have hnc223 := NB402_395.out
                      have hnb224 := NB395_417.out
                      have hnc224 := NB417_395.out
                      have hnb225 := NB395_418.out
                      have hnc225 := NB418_395.out
                      have hnb226 := NB395_433.out
                      have hnc226 := NB433_395.out
                      have hnb227 := NB395_434.out
                      have hnc227 := NB434_395.out
                      have hnb228 := NB395_443.out
                      have hnc228 := NB443_395.out
                      have hnb229 := NB395_452.out
                      have hnc229 := NB452_395.out
                      have hcz230_0 : w95.cell? ⟨gb395, 0, none⟩ = some (.int .i64 t389) := (blk_cell BK395.out 0).trans rfl
                      have hcz230_1 : w95.cell? ⟨gb395, 1, none⟩ = some (.slice Ao30 t390.length co30) := (blk_cell BK395.out 1).trans rfl
                      have hcz230_2 : w95.cell? ⟨gb395, 2, none⟩ = some (.int .i64 t393) := (blk_cell BK395.out 2).trans rfl
                      have hfz230_0 := blk_frozen BK395.out 0
                      have hfz230_1 := blk_frozen BK395.out 1
                      have hfz230_2 := blk_frozen BK395.out 2
                      have hnb231 := NB402_384.out
                      have hnc231 := NB384_402.out
                      have hnb232 := NB402_388.out
                      have hnc232 := NB388_402.out
                      have hnb233 := NB402_417.out
                      have hnc233 := NB417_402.out
                      have hnb234 := NB402_418.out
                      have hnc234 := NB418_402.out
                      have hnb235 := NB402_433.out
                      have hnc235 := NB433_402.out
                      have hnb236 := NB402_434.out
                      have hnc236 := NB434_402.out
                      have hnb237 := NB402_443.out
                      have hnc237 := NB443_402.out
                      have hnb238 := NB402_452.out
                      have hnc238 := NB452_402.out
                      have hcz239_0 : w95.cell? ⟨gb402, 0, none⟩ = some (.int .i64 t396) := (blk_cell BK402.out 0).trans rfl
                      have hcz239_1 : w95.cell? ⟨gb402, 1, none⟩ = some (.slice Ao37 t397.length co37) := (blk_cell BK402.out 1).trans rfl
                      have hcz239_2 : w95.cell? ⟨gb402, 2, none⟩ = some (.int .i64 t400) := (blk_cell BK402.out 2).trans rfl
                      have hfz239_0 := blk_frozen BK402.out 0
                      have hfz239_1 := blk_frozen BK402.out 1
                      have hfz239_2 := blk_frozen BK402.out 2
                      go_wp2_with (first | ((with_reducible refine gate_callee (f := 17) rfl ?_); refine goesL_ (some 67) rfl rfl Try.func17 (by kernel_rfl) rfl #[.agg #[.int .i64 t389, .slice Ao30 t390.length co30, .int .i64 t393], .agg #[.int .i64 t396, .slice Ao37 t397.length co37, .int .i64 t400]] rfl (by (try simp only [List.map_toArray, List.map_cons, List.map_nil]); first | done | rfl | (simp only [List.length_drop, List.length_take]; rfl)) ?_; (with_reducible refine (hopperref14_Same.calls kj3 t389 _ _ t390 t393 t396 _ _ t397 t400 true _ ?side1 ?side2 ?side3 ?side4 A107.out).mono ?_); (case side1 => refine (Kd.R_reads' (e := 36) (base := w.heap.size) (ok := fun k_ => ((some k_ ≠ (.slice Ao37 t397.length co37 : Value).ownBlock ∧ (some k_ ≠ (v441 : Value).ownBlock ∧ (k_ ≠ gb418 ∧ k_ ≠ gb434))) ∧ some k_ ≠ (v450 : Value).ownBlock)) (n := t390.length) (c := co30) ?_).2.2; exact ((Kd.R_mono (Kd.R_mv (g := gb452) (Kd.R_types HO392.out BK452.out (by decide)) (fun _ hk => hk.2)) (fun _ h_ => h_.1)))); (case side2 => exact (Kd.R_reads' HO392.out).2.1); (case side3 => refine (Kd.R_reads' (e := 36) (base := w.heap.size) (ok := fun k_ => ((some k_ ≠ (.slice Ao30 t390.length co30 : Value).ownBlock ∧ (some k_ ≠ (v441 : Value).ownBlock ∧ (k_ ≠ gb418 ∧ k_ ≠ gb434))) ∧ some k_ ≠ (v450 : Value).ownBlock)) (n := t397.length) (c := co37) ?_).2.2; exact ((Kd.R_mono (Kd.R_mv (g := gb452) (Kd.R_types HO399.out BK452.out (by decide)) (fun _ hk => hk.2)) (fun _ h_ => h_.1)))); (case side4 => exact (Kd.R_reads' HO399.out).2.1); rintro e w240 ⟨rfl, hb⟩; refine ⟨_, rfl, ?_⟩; replace HO392 := Aside0.mk (Kd.R_below ((Kd.R_mono (Kd.R_mv (g := gb452) (Kd.R_types HO392.out BK452.out (by decide)) (fun _ hk => hk.2)) (fun _ h_ => h_.1))) hb); replace HO399 := Aside0.mk (Kd.R_below ((Kd.R_mono (Kd.R_mv (g := gb452) (Kd.R_types HO399.out BK452.out (by decide)) (fun _ hk => hk.2)) (fun _ h_ => h_.1))) hb); replace HO406 := Aside0.mk (Kd.V_below ((Kd.V_mono (Kd.V_mv (g := gb452) (Kd.V_mono HO406.out (fun k_ hk => (⟨hk, hk.2⟩ : _ ∧ k_ ≠ gb452))) (fun _ hk => hk.2)) (fun _ h_ => h_.1))) hb); replace HO422 := Aside0.mk (Kd.V_below ((Kd.V_mono (Kd.V_mv (g := gb452) (Kd.V_mono HO422.out (fun k_ hk => (⟨hk, hk.2⟩ : _ ∧ k_ ≠ gb452))) (fun _ hk => hk.2)) (fun _ h_ => h_.1))) hb); replace HO438 := Aside0.mk (Kd.V_below ((Kd.V_mono (Kd.V_mv (g := gb452) (Kd.V_mono HO438.out (fun k_ hk => (⟨hk, hk.2⟩ : _ ∧ k_ ≠ gb452))) (fun _ hk => hk.2)) (fun _ h_ => h_.1))) hb); replace HO447 := Aside0.mk (Kd.V_below ((Kd.V_mono (Kd.V_mv (g := gb452) (Kd.V_mono HO447.out (fun k_ hk => (⟨hk, hk.2⟩ : _ ∧ k_ ≠ gb452))) (fun _ hk => hk.2)) (fun _ h_ => h_.1))) hb); replace BK384 := Aside0.mk (blk_below (BF BK384.out NB384_452.out) hb); replace BK388 := Aside0.mk (blk_below (BF BK388.out NB388_452.out) hb); replace BK395 := Aside0.mk (blk_below (BF BK395.out NB395_452.out) hb); replace BK402 := Aside0.mk (blk_below (BF BK402.out NB402_452.out) hb); replace BK417 := Aside0.mk (blk_below (BF BK417.out NB417_452.out) hb); replace BK418 := Aside0.mk (blk_below (BF BK418.out NB418_452.out) hb); replace BK433 := Aside0.mk (blk_below (BF BK433.out NB433_452.out) hb); replace BK434 := Aside0.mk (blk_below (BF BK434.out NB434_452.out) hb); replace BK443 := Aside0.mk (blk_below (BF BK443.out NB443_452.out) hb); replace BK452 := Aside0.mk (blk_below (g := gb452) (o := .cells #[.int .i64 t444, .slice Ao106 t445.length co106, .int .i64 t448] 24 (0, 0)) (BP BK452.out (by rfl)) hb); replace HB := Aside0.mk (below_step (LG HB.out (G1 GE452.out G0)) hb); (try clear HO442); (try clear HO451); (try clear hb); (try clear hb2); (try clear hk); (try clear hi); have hnb241 := NB417_384.out; have hnc241 := NB384_417.out; have hnb242 := NB417_388.out; have hnc242 := NB388_417.out; have hnb243 := NB417_418.out; have hnc243 := NB418_417.out; have hnb244 := NB417_433.out; have hnc244 := NB433_417.out; have hnb245 := NB417_434.out; have hnc245 := NB434_417.out; have hnb246 := NB417_443.out; have hnc246 := NB443_417.out; have hnb247 := NB417_452.out; have hnc247 := NB452_417.out; obtain ⟨hcz248_0, hcz248_1, hcz248_2, hfz248_0, hfz248_1, hfz248_2⟩ := cz3 BK417.out; have hnb249 := NB433_384.out; have hnc249 := NB384_433.out; have hnb250 := NB433_388.out; have hnc250 := NB388_433.out; have hnb251 := NB433_418.out; have hnc251 := NB418_433.out; have hnb252 := NB433_434.out; have hnc252 := NB434_433.out; have hnb253 := NB433_443.out; have hnc253 := NB443_433.out; have hnb254 := NB433_452.out; have hnc254 := NB452_433.out; obtain ⟨hcz255_0, hcz255_1, hcz255_2, hfz255_0, hfz255_1, hfz255_2⟩ := cz3 BK433.out) | (go_at_call 17; (with_reducible refine (hopperref14_Same.calls kj3 t403 _ _ t404 t407 t419 _ _ t420 t423 true _ ?side1 ?side2 ?side3 ?side4 A110.out).mono ?_); (case side1 => exact Kd.CA (Kd.V_reads' HO406.out).2.2); (case side2 => exact (Kd.V_reads' HO406.out).2.1); (case side3 => exact Kd.CA (Kd.V_reads' HO422.out).2.2); (case side4 => exact (Kd.V_reads' HO422.out).2.1); rintro e w256 ⟨rfl, hb⟩; replace HO392 := Aside0.mk (Kd.R_below (Kd.RA HO392.out) hb); replace HO399 := Aside0.mk (Kd.R_below (Kd.RA HO399.out) hb); replace HO406 := Aside0.mk (Kd.V_below (Kd.VA HO406.out) hb); replace HO422 := Aside0.mk (Kd.V_below (Kd.VA HO422.out) hb); replace HO438 := Aside0.mk (Kd.V_below (Kd.VA HO438.out) hb); replace HO447 := Aside0.mk (Kd.V_below (Kd.VA HO447.out) hb); replace BK384 := Aside0.mk (blk_below (BA BK384.out) hb); replace BK388 := Aside0.mk (blk_below (BA BK388.out) hb); replace BK395 := Aside0.mk (blk_below (BA BK395.out) hb); replace BK402 := Aside0.mk (blk_below (BA BK402.out) hb); replace BK417 := Aside0.mk (blk_below (BA BK417.out) hb); replace BK418 := Aside0.mk (blk_below (BA BK418.out) hb); replace BK433 := Aside0.mk (blk_below (BA BK433.out) hb); replace BK434 := Aside0.mk (blk_below (BA BK434.out) hb); replace BK443 := Aside0.mk (blk_below (BA BK443.out) hb); replace BK452 := Aside0.mk (blk_below (BA BK452.out) hb); replace HB := Aside0.mk (below_step (LA HB.out) hb); (try clear HO442); (try clear HO451); (try clear hb); (try clear hb2); (try clear hk); (try clear hi); have hnb257 := NB418_384.out; have hnc257 := NB384_418.out; have hnb258 := NB418_388.out; have hnc258 := NB388_418.out; have hnb259 := NB418_434.out; have hnc259 := NB434_418.out; have hnb260 := NB418_443.out; have hnc260 := NB443_418.out; have hnb261 := NB418_452.out; have hnc261 := NB452_418.out; obtain ⟨hcz262_0, hcz262_1, hcz262_2, hcz262_3, hcz262_4, hcz262_5, hcz262_6, hcz262_7, hfz262_0, hfz262_1, hfz262_2, hfz262_3, hfz262_4, hfz262_5, hfz262_6, hfz262_7⟩ := cz8 BK418.out; have hnb263 := NB434_384.out; have hnc263 := NB384_434.out; have hnb264 := NB434_388.out; have hnc264 := NB388_434.out; have hnb265 := NB434_443.out; have hnc265 := NB443_434.out; have hnb266 := NB434_452.out; have hnc266 := NB452_434.out; obtain ⟨hcz267_0, hcz267_1, hcz267_2, hcz267_3, hcz267_4, hcz267_5, hcz267_6, hcz267_7, hfz267_0, hfz267_1, hfz267_2, hfz267_3, hfz267_4, hfz267_5, hfz267_6, hfz267_7⟩ := cz8 BK434.out; have hnb268 := NB443_384.out; have hnc268 := NB384_443.out; have hnb269 := NB443_388.out; have hnc269 := NB388_443.out; have hnb270 := NB443_452.out; have hnc270 := NB452_443.out; obtain ⟨hcz271_0, hcz271_1, hcz271_2, hfz271_0, hfz271_1, hfz271_2⟩ := cz3 BK443.out; have hnb272 := NB452_384.out; have hnc272 := NB384_452.out; have hnb273 := NB452_388.out; have hnc273 := NB388_452.out; obtain ⟨hcz274_0, hcz274_1, hcz274_2, hfz274_0, hfz274_1, hfz274_2⟩ := cz3 BK452.out) | (go_at_call 17; (with_reducible refine (hopperref14_Same.calls kj3 t435 _ _ t436 t439 t444 _ _ t445 t448 false _ ?side1 ?side2 ?side3 ?side4 A161.out).mono ?_); (case side1 => exact Kd.CA (Kd.V_reads' HO438.out).2.2); (case side2 => exact (Kd.V_reads' HO438.out).2.1); (case side3 => exact Kd.CA (Kd.V_reads' HO447.out).2.2); (case side4 => exact (Kd.V_reads' HO447.out).2.1); rintro e w275 ⟨rfl, hb⟩; replace HO392 := Aside0.mk (Kd.R_below (Kd.RA HO392.out) hb); replace HO399 := Aside0.mk (Kd.R_below (Kd.RA HO399.out) hb); replace HO406 := Aside0.mk (Kd.V_below (Kd.VA HO406.out) hb); replace HO422 := Aside0.mk (Kd.V_below (Kd.VA HO422.out) hb); replace HO438 := Aside0.mk (Kd.V_below (Kd.VA HO438.out) hb); replace HO447 := Aside0.mk (Kd.V_below (Kd.VA HO447.out) hb); replace BK384 := Aside0.mk (blk_below (BA BK384.out) hb); replace BK388 := Aside0.mk (blk_below (BA BK388.out) hb); replace BK395 := Aside0.mk (blk_below (BA BK395.out) hb); replace BK402 := Aside0.mk (blk_below (BA BK402.out) hb); replace BK417 := Aside0.mk (blk_below (BA BK417.out) hb); replace BK418 := Aside0.mk (blk_below (BA BK418.out) hb); replace BK433 := Aside0.mk (blk_below (BA BK433.out) hb); replace BK434 := Aside0.mk (blk_below (BA BK434.out) hb); replace BK443 := Aside0.mk (blk_below (BA BK443.out) hb); replace BK452 := Aside0.mk (blk_below (BA BK452.out) hb); replace HB := Aside0.mk (below_step (LA HB.out) hb); (try clear HO442); (try clear HO451); (try clear hb); (try clear hb2); (try clear hk); (try clear hi)))
                      go_meet
                      case rel => exact ⟨_, (true), (by first | (rw [HR_.out]; done) | rfl | (rw [HR_.out]; rfl) | (simp [HR_.out]; done) | (simp; done) | (simp [*]; done)), H', ⟨by have := HJ3.out; first | omega | exact Nat.le_refl _⟩, ⟨by (with_reducible repeat (first | apply Kd.R_alloc | apply Kd.R_drewN | apply Kd.R_drew)); exact Kd.R_mono HO392.out (fun _ hk => ⟨hk.1.1, ⟨hk.1.2.2.1, hk.1.2.2.2⟩⟩)⟩, ⟨by (with_reducible repeat (first | apply Kd.R_alloc | apply Kd.R_drewN | apply Kd.R_drew)); exact Kd.R_mono HO399.out (fun _ hk => ⟨hk.1.1, ⟨hk.1.2.2.1, hk.1.2.2.2⟩⟩)⟩, ⟨by (with_reducible repeat (first | apply Kd.V_alloc | apply Kd.V_drewN | apply Kd.V_drew)); exact Kd.V_mono HO406.out (fun _ hk => ⟨hk.1.1.1, ⟨hk.1.1.2.1, ⟨hk.1.1.2.2.2.1, ⟨hk.1.1.2.2.2.2.1, ⟨hk.1.1.2.2.2.2.2.1, ⟨hk.1.1.2.2.2.2.2.2.1, ⟨hk.1.1.2.2.2.2.2.2.2.1, ⟨hk.1.1.2.2.2.2.2.2.2.2.1, ⟨hk.1.1.2.2.2.2.2.2.2.2.2.1, ⟨hk.1.1.2.2.2.2.2.2.2.2.2.2.1, ⟨hk.1.1.2.2.2.2.2.2.2.2.2.2.2, hk.2⟩⟩⟩⟩⟩⟩⟩⟩⟩⟩⟩)⟩, ⟨by (with_reducible repeat (first | apply Kd.V_alloc | apply Kd.V_drewN | apply Kd.V_drew)); exact Kd.V_mono HO422.out (fun _ hk => ⟨hk.1.1.1, ⟨hk.1.1.2.1, ⟨hk.1.1.2.2.2.1, ⟨hk.1.1.2.2.2.2.1, ⟨hk.1.1.2.2.2.2.2.1, ⟨hk.1.1.2.2.2.2.2.2.1, ⟨hk.1.1.2.2.2.2.2.2.2.1, ⟨hk.1.1.2.2.2.2.2.2.2.2.1, ⟨hk.1.1.2.2.2.2.2.2.2.2.2.1, ⟨hk.1.1.2.2.2.2.2.2.2.2.2.2.1, ⟨hk.1.1.2.2.2.2.2.2.2.2.2.2.2, hk.2⟩⟩⟩⟩⟩⟩⟩⟩⟩⟩⟩)⟩, ⟨by (with_reducible repeat (first | apply Kd.V_alloc | apply Kd.V_drewN | apply Kd.V_drew)); exact Kd.V_mono HO438.out (fun _ hk => ⟨hk.1.1.1, ⟨hk.1.1.2.1, ⟨hk.1.1.2.2.2.1, ⟨hk.1.1.2.2.2.2.1, ⟨hk.1.1.2.2.2.2.2.1, ⟨hk.1.1.2.2.2.2.2.2.1, ⟨hk.1.1.2.2.2.2.2.2.2.1, ⟨hk.1.1.2.2.2.2.2.2.2.2.1, ⟨hk.1.1.2.2.2.2.2.2.2.2.2.1, ⟨hk.1.1.2.2.2.2.2.2.2.2.2.2.1, ⟨hk.1.1.2.2.2.2.2.2.2.2.2.2.2, hk.2⟩⟩⟩⟩⟩⟩⟩⟩⟩⟩⟩)⟩, ⟨by (with_reducible repeat (first | apply Kd.V_alloc | apply Kd.V_drewN | apply Kd.V_drew)); exact Kd.V_mono HO447.out (fun _ hk => ⟨hk.1.2.1, ⟨hk.1.2.2.1, ⟨hk.1.2.2.2.2.1, ⟨hk.1.2.2.2.2.2.1, ⟨hk.1.2.2.2.2.2.2.1, ⟨hk.1.2.2.2.2.2.2.2.1, ⟨hk.1.2.2.2.2.2.2.2.2.1, ⟨hk.1.2.2.2.2.2.2.2.2.2.1, ⟨hk.1.2.2.2.2.2.2.2.2.2.2.1, ⟨hk.1.2.2.2.2.2.2.2.2.2.2.2.1, ⟨hk.1.2.2.2.2.2.2.2.2.2.2.2.2, hk.2⟩⟩⟩⟩⟩⟩⟩⟩⟩⟩⟩)⟩, ⟨by (with_reducible repeat (first | refine blk_drewN ?_ _ | refine blk_drew ?_ | refine blk_alloc ?_ _)); exact BK384.out⟩, ⟨by (with_reducible repeat (first | refine blk_drewN ?_ _ | refine blk_drew ?_ | refine blk_alloc ?_ _)); exact BK388.out⟩, ⟨by (with_reducible repeat (first | refine blk_drewN ?_ _ | refine blk_drew ?_ | refine blk_alloc ?_ _)); exact BK395.out⟩, ⟨by (with_reducible repeat (first | refine blk_drewN ?_ _ | refine blk_drew ?_ | refine blk_alloc ?_ _)); exact BK402.out⟩, ⟨by (with_reducible repeat (first | refine blk_drewN ?_ _ | refine blk_drew ?_ | refine blk_alloc ?_ _)); exact BK417.out⟩, ⟨by (with_reducible repeat (first | refine blk_drewN ?_ _ | refine blk_drew ?_ | refine blk_alloc ?_ _)); exact BK418.out⟩, ⟨by (with_reducible repeat (first | refine blk_drewN ?_ _ | refine blk_drew ?_ | refine blk_alloc ?_ _)); exact BK433.out⟩, ⟨by (with_reducible repeat (first | refine blk_drewN ?_ _ | refine blk_drew ?_ | refine blk_alloc ?_ _)); exact BK434.out⟩, ⟨by (with_reducible repeat (first | refine blk_drewN ?_ _ | refine blk_drew ?_ | refine blk_alloc ?_ _)); exact BK443.out⟩, ⟨by (with_reducible repeat (first | refine blk_drewN ?_ _ | refine blk_drew ?_ | refine blk_alloc ?_ _)); exact BK452.out⟩, ⟨LG HB.out (G1 GE384.out (G1 GE388.out (G1 GE395.out (G1 GE402.out (G1 GE417.out (G1 GE418.out (G1 GE433.out (G1 GE434.out (G1 GE443.out (G1 GE452.out G0))))))))))⟩⟩
                  · rw [if_neg c160] at H
                    have c160b0 : (t416 == t432) = false := beq_eq_false_iff_ne.mpr c160
                    have c160b1 : (t416 != t432) = true := bne_iff_ne.mpr c160
                    have H' := Aside0.mk H
                    clear H
                    have hnb276 := NB395_384.out
                    have hnc276 := NB384_395.out
                    have hnb277 := NB395_388.out
                    have hnc277 := NB388_395.out
                    have hnb278 := NB395_402.out
                    have hnc278 := NB402_395.out
                    have hnb279 := NB395_417.out
                    have hnc279 := NB417_395.out
                    have hnb280 := NB395_418.out
                    have hnc280 := NB418_395.out
                    have hnb281 := NB395_433.out
                    have hnc281 := NB433_395.out
                    have hnb282 := NB395_434.out
                    have hnc282 := NB434_395.out
                    have hnb283 := NB395_443.out
                    have hnc283 := NB443_395.out
                    have hnb284 := NB395_452.out
                    have hnc284 := NB452_395.out
                    have hcz285_0 : w95.cell? ⟨gb395, 0, none⟩ = some (.int .i64 t389) := (blk_cell BK395.out 0).trans rfl
                    have hcz285_1 : w95.cell? ⟨gb395, 1, none⟩ = some (.slice Ao30 t390.length co30) := (blk_cell BK395.out 1).trans rfl
                    have hcz285_2 : w95.cell? ⟨gb395, 2, none⟩ = some (.int .i64 t393) := (blk_cell BK395.out 2).trans rfl
                    have hfz285_0 := blk_frozen BK395.out 0
                    have hfz285_1 := blk_frozen BK395.out 1
                    have hfz285_2 := blk_frozen BK395.out 2
                    have hnb286 := NB402_384.out
                    have hnc286 := NB384_402.out
                    have hnb287 := NB402_388.out
                    have hnc287 := NB388_402.out
                    have hnb288 := NB402_417.out
                    have hnc288 := NB417_402.out
                    have hnb289 := NB402_418.out
                    have hnc289 := NB418_402.out
                    have hnb290 := NB402_433.out
                    have hnc290 := NB433_402.out
                    have hnb291 := NB402_434.out
                    have hnc291 := NB434_402.out
                    have hnb292 := NB402_443.out
                    have hnc292 := NB443_402.out
                    have hnb293 := NB402_452.out
                    have hnc293 := NB452_402.out
                    have hcz294_0 : w95.cell? ⟨gb402, 0, none⟩ = some (.int .i64 t396) := (blk_cell BK402.out 0).trans rfl
                    have hcz294_1 : w95.cell? ⟨gb402, 1, none⟩ = some (.slice Ao37 t397.length co37) := (blk_cell BK402.out 1).trans rfl
                    have hcz294_2 : w95.cell? ⟨gb402, 2, none⟩ = some (.int .i64 t400) := (blk_cell BK402.out 2).trans rfl
                    have hfz294_0 := blk_frozen BK402.out 0
                    have hfz294_1 := blk_frozen BK402.out 1
                    have hfz294_2 := blk_frozen BK402.out 2
                    go_wp2_with (first | ((with_reducible refine gate_callee (f := 17) rfl ?_); refine goesL_ (some 67) rfl rfl Try.func17 (by kernel_rfl) rfl #[.agg #[.int .i64 t389, .slice Ao30 t390.length co30, .int .i64 t393], .agg #[.int .i64 t396, .slice Ao37 t397.length co37, .int .i64 t400]] rfl (by (try simp only [List.map_toArray, List.map_cons, List.map_nil]); first | done | rfl | (simp only [List.length_drop, List.length_take]; rfl)) ?_; (with_reducible refine (hopperref14_Same.calls kj3 t389 _ _ t390 t393 t396 _ _ t397 t400 true _ ?side1 ?side2 ?side3 ?side4 A107.out).mono ?_); (case side1 => refine (Kd.R_reads' (e := 36) (base := w.heap.size) (ok := fun k_ => ((some k_ ≠ (.slice Ao37 t397.length co37 : Value).ownBlock ∧ (some k_ ≠ (v441 : Value).ownBlock ∧ (k_ ≠ gb418 ∧ k_ ≠ gb434))) ∧ some k_ ≠ (v450 : Value).ownBlock)) (n := t390.length) (c := co30) ?_).2.2; exact ((Kd.R_mono (Kd.R_mv (g := gb452) (Kd.R_types HO392.out BK452.out (by decide)) (fun _ hk => hk.2)) (fun _ h_ => h_.1)))); (case side2 => exact (Kd.R_reads' HO392.out).2.1); (case side3 => refine (Kd.R_reads' (e := 36) (base := w.heap.size) (ok := fun k_ => ((some k_ ≠ (.slice Ao30 t390.length co30 : Value).ownBlock ∧ (some k_ ≠ (v441 : Value).ownBlock ∧ (k_ ≠ gb418 ∧ k_ ≠ gb434))) ∧ some k_ ≠ (v450 : Value).ownBlock)) (n := t397.length) (c := co37) ?_).2.2; exact ((Kd.R_mono (Kd.R_mv (g := gb452) (Kd.R_types HO399.out BK452.out (by decide)) (fun _ hk => hk.2)) (fun _ h_ => h_.1)))); (case side4 => exact (Kd.R_reads' HO399.out).2.1); rintro e w295 ⟨rfl, hb⟩; refine ⟨_, rfl, ?_⟩; replace HO392 := Aside0.mk (Kd.R_below ((Kd.R_mono (Kd.R_mv (g := gb452) (Kd.R_types HO392.out BK452.out (by decide)) (fun _ hk => hk.2)) (fun _ h_ => h_.1))) hb); replace HO399 := Aside0.mk (Kd.R_below ((Kd.R_mono (Kd.R_mv (g := gb452) (Kd.R_types HO399.out BK452.out (by decide)) (fun _ hk => hk.2)) (fun _ h_ => h_.1))) hb); replace HO406 := Aside0.mk (Kd.V_below ((Kd.V_mono (Kd.V_mv (g := gb452) (Kd.V_mono HO406.out (fun k_ hk => (⟨hk, hk.2⟩ : _ ∧ k_ ≠ gb452))) (fun _ hk => hk.2)) (fun _ h_ => h_.1))) hb); replace HO422 := Aside0.mk (Kd.V_below ((Kd.V_mono (Kd.V_mv (g := gb452) (Kd.V_mono HO422.out (fun k_ hk => (⟨hk, hk.2⟩ : _ ∧ k_ ≠ gb452))) (fun _ hk => hk.2)) (fun _ h_ => h_.1))) hb); replace HO438 := Aside0.mk (Kd.V_below ((Kd.V_mono (Kd.V_mv (g := gb452) (Kd.V_mono HO438.out (fun k_ hk => (⟨hk, hk.2⟩ : _ ∧ k_ ≠ gb452))) (fun _ hk => hk.2)) (fun _ h_ => h_.1))) hb); replace HO447 := Aside0.mk (Kd.V_below ((Kd.V_mono (Kd.V_mv (g := gb452) (Kd.V_mono HO447.out (fun k_ hk => (⟨hk, hk.2⟩ : _ ∧ k_ ≠ gb452))) (fun _ hk => hk.2)) (fun _ h_ => h_.1))) hb); replace BK384 := Aside0.mk (blk_below (BF BK384.out NB384_452.out) hb); replace BK388 := Aside0.mk (blk_below (BF BK388.out NB388_452.out) hb); replace BK395 := Aside0.mk (blk_below (BF BK395.out NB395_452.out) hb); replace BK402 := Aside0.mk (blk_below (BF BK402.out NB402_452.out) hb); replace BK417 := Aside0.mk (blk_below (BF BK417.out NB417_452.out) hb); replace BK418 := Aside0.mk (blk_below (BF BK418.out NB418_452.out) hb); replace BK433 := Aside0.mk (blk_below (BF BK433.out NB433_452.out) hb); replace BK434 := Aside0.mk (blk_below (BF BK434.out NB434_452.out) hb); replace BK443 := Aside0.mk (blk_below (BF BK443.out NB443_452.out) hb); replace BK452 := Aside0.mk (blk_below (g := gb452) (o := .cells #[.int .i64 t444, .slice Ao106 t445.length co106, .int .i64 t448] 24 (0, 0)) (BP BK452.out (by rfl)) hb); replace HB := Aside0.mk (below_step (LG HB.out (G1 GE452.out G0)) hb); (try clear HO442); (try clear HO451); (try clear hb); (try clear hb2); (try clear hk); (try clear hi); have hnb296 := NB417_384.out; have hnc296 := NB384_417.out; have hnb297 := NB417_388.out; have hnc297 := NB388_417.out; have hnb298 := NB417_418.out; have hnc298 := NB418_417.out; have hnb299 := NB417_433.out; have hnc299 := NB433_417.out; have hnb300 := NB417_434.out; have hnc300 := NB434_417.out; have hnb301 := NB417_443.out; have hnc301 := NB443_417.out; have hnb302 := NB417_452.out; have hnc302 := NB452_417.out; obtain ⟨hcz303_0, hcz303_1, hcz303_2, hfz303_0, hfz303_1, hfz303_2⟩ := cz3 BK417.out; have hnb304 := NB433_384.out; have hnc304 := NB384_433.out; have hnb305 := NB433_388.out; have hnc305 := NB388_433.out; have hnb306 := NB433_418.out; have hnc306 := NB418_433.out; have hnb307 := NB433_434.out; have hnc307 := NB434_433.out; have hnb308 := NB433_443.out; have hnc308 := NB443_433.out; have hnb309 := NB433_452.out; have hnc309 := NB452_433.out; obtain ⟨hcz310_0, hcz310_1, hcz310_2, hfz310_0, hfz310_1, hfz310_2⟩ := cz3 BK433.out) | (go_at_call 17; (with_reducible refine (hopperref14_Same.calls kj3 t403 _ _ t404 t407 t419 _ _ t420 t423 true _ ?side1 ?side2 ?side3 ?side4 A110.out).mono ?_); (case side1 => exact Kd.CA (Kd.V_reads' HO406.out).2.2); (case side2 => exact (Kd.V_reads' HO406.out).2.1); (case side3 => exact Kd.CA (Kd.V_reads' HO422.out).2.2); (case side4 => exact (Kd.V_reads' HO422.out).2.1); rintro e w311 ⟨rfl, hb⟩; replace HO392 := Aside0.mk (Kd.R_below (Kd.RA HO392.out) hb); replace HO399 := Aside0.mk (Kd.R_below (Kd.RA HO399.out) hb); replace HO406 := Aside0.mk (Kd.V_below (Kd.VA HO406.out) hb); replace HO422 := Aside0.mk (Kd.V_below (Kd.VA HO422.out) hb); replace HO438 := Aside0.mk (Kd.V_below (Kd.VA HO438.out) hb); replace HO447 := Aside0.mk (Kd.V_below (Kd.VA HO447.out) hb); replace BK384 := Aside0.mk (blk_below (BA BK384.out) hb); replace BK388 := Aside0.mk (blk_below (BA BK388.out) hb); replace BK395 := Aside0.mk (blk_below (BA BK395.out) hb); replace BK402 := Aside0.mk (blk_below (BA BK402.out) hb); replace BK417 := Aside0.mk (blk_below (BA BK417.out) hb); replace BK418 := Aside0.mk (blk_below (BA BK418.out) hb); replace BK433 := Aside0.mk (blk_below (BA BK433.out) hb); replace BK434 := Aside0.mk (blk_below (BA BK434.out) hb); replace BK443 := Aside0.mk (blk_below (BA BK443.out) hb); replace BK452 := Aside0.mk (blk_below (BA BK452.out) hb); replace HB := Aside0.mk (below_step (LA HB.out) hb); (try clear HO442); (try clear HO451); (try clear hb); (try clear hb2); (try clear hk); (try clear hi); have hnb312 := NB418_384.out; have hnc312 := NB384_418.out; have hnb313 := NB418_388.out; have hnc313 := NB388_418.out; have hnb314 := NB418_434.out; have hnc314 := NB434_418.out; have hnb315 := NB418_443.out; have hnc315 := NB443_418.out; have hnb316 := NB418_452.out; have hnc316 := NB452_418.out; obtain ⟨hcz317_0, hcz317_1, hcz317_2, hcz317_3, hcz317_4, hcz317_5, hcz317_6, hcz317_7, hfz317_0, hfz317_1, hfz317_2, hfz317_3, hfz317_4, hfz317_5, hfz317_6, hfz317_7⟩ := cz8 BK418.out; have hnb318 := NB434_384.out; have hnc318 := NB384_434.out; have hnb319 := NB434_388.out; have hnc319 := NB388_434.out; have hnb320 := NB434_443.out; have hnc320 := NB443_434.out; have hnb321 := NB434_452.out; have hnc321 := NB452_434.out; obtain ⟨hcz322_0, hcz322_1, hcz322_2, hcz322_3, hcz322_4, hcz322_5, hcz322_6, hcz322_7, hfz322_0, hfz322_1, hfz322_2, hfz322_3, hfz322_4, hfz322_5, hfz322_6, hfz322_7⟩ := cz8 BK434.out))
                    go_meet
                    case rel => exact ⟨_, (true), (by first | (rw [HR_.out]; done) | rfl | (rw [HR_.out]; rfl) | (simp [HR_.out]; done) | (simp; done) | (simp [*]; done)), H', ⟨by have := HJ3.out; first | omega | exact Nat.le_refl _⟩, ⟨by (with_reducible repeat (first | apply Kd.R_alloc | apply Kd.R_drewN | apply Kd.R_drew)); exact Kd.R_mono HO392.out (fun _ hk => ⟨hk.1.1, ⟨hk.1.2.2.1, hk.1.2.2.2⟩⟩)⟩, ⟨by (with_reducible repeat (first | apply Kd.R_alloc | apply Kd.R_drewN | apply Kd.R_drew)); exact Kd.R_mono HO399.out (fun _ hk => ⟨hk.1.1, ⟨hk.1.2.2.1, hk.1.2.2.2⟩⟩)⟩, ⟨by (with_reducible repeat (first | apply Kd.V_alloc | apply Kd.V_drewN | apply Kd.V_drew)); exact Kd.V_mono HO406.out (fun _ hk => ⟨hk.1.1.1, ⟨hk.1.1.2.1, ⟨hk.1.1.2.2.2.1, ⟨hk.1.1.2.2.2.2.1, ⟨hk.1.1.2.2.2.2.2.1, ⟨hk.1.1.2.2.2.2.2.2.1, ⟨hk.1.1.2.2.2.2.2.2.2.1, ⟨hk.1.1.2.2.2.2.2.2.2.2.1, ⟨hk.1.1.2.2.2.2.2.2.2.2.2.1, ⟨hk.1.1.2.2.2.2.2.2.2.2.2.2.1, ⟨hk.1.1.2.2.2.2.2.2.2.2.2.2.2, hk.2⟩⟩⟩⟩⟩⟩⟩⟩⟩⟩⟩)⟩, ⟨by (with_reducible repeat (first | apply Kd.V_alloc | apply Kd.V_drewN | apply Kd.V_drew)); exact Kd.V_mono HO422.out (fun _ hk => ⟨hk.1.1.1, ⟨hk.1.1.2.1, ⟨hk.1.1.2.2.2.1, ⟨hk.1.1.2.2.2.2.1, ⟨hk.1.1.2.2.2.2.2.1, ⟨hk.1.1.2.2.2.2.2.2.1, ⟨hk.1.1.2.2.2.2.2.2.2.1, ⟨hk.1.1.2.2.2.2.2.2.2.2.1, ⟨hk.1.1.2.2.2.2.2.2.2.2.2.1, ⟨hk.1.1.2.2.2.2.2.2.2.2.2.2.1, ⟨hk.1.1.2.2.2.2.2.2.2.2.2.2.2, hk.2⟩⟩⟩⟩⟩⟩⟩⟩⟩⟩⟩)⟩, ⟨by (with_reducible repeat (first | apply Kd.V_alloc | apply Kd.V_drewN | apply Kd.V_drew)); exact Kd.V_mono HO438.out (fun _ hk => ⟨hk.1.1.1, ⟨hk.1.1.2.1, ⟨hk.1.1.2.2.2.1, ⟨hk.1.1.2.2.2.2.1, ⟨hk.1.1.2.2.2.2.2.1, ⟨hk.1.1.2.2.2.2.2.2.1, ⟨hk.1.1.2.2.2.2.2.2.2.1, ⟨hk.1.1.2.2.2.2.2.2.2.2.1, ⟨hk.1.1.2.2.2.2.2.2.2.2.2.1, ⟨hk.1.1.2.2.2.2.2.2.2.2.2.2.1, ⟨hk.1.1.2.2.2.2.2.2.2.2.2.2.2, hk.2⟩⟩⟩⟩⟩⟩⟩⟩⟩⟩⟩)⟩, ⟨by (with_reducible repeat (first | apply Kd.V_alloc | apply Kd.V_drewN | apply Kd.V_drew)); exact Kd.V_mono HO447.out (fun _ hk => ⟨hk.1.2.1, ⟨hk.1.2.2.1, ⟨hk.1.2.2.2.2.1, ⟨hk.1.2.2.2.2.2.1, ⟨hk.1.2.2.2.2.2.2.1, ⟨hk.1.2.2.2.2.2.2.2.1, ⟨hk.1.2.2.2.2.2.2.2.2.1, ⟨hk.1.2.2.2.2.2.2.2.2.2.1, ⟨hk.1.2.2.2.2.2.2.2.2.2.2.1, ⟨hk.1.2.2.2.2.2.2.2.2.2.2.2.1, ⟨hk.1.2.2.2.2.2.2.2.2.2.2.2.2, hk.2⟩⟩⟩⟩⟩⟩⟩⟩⟩⟩⟩)⟩, ⟨by (with_reducible repeat (first | refine blk_drewN ?_ _ | refine blk_drew ?_ | refine blk_alloc ?_ _)); exact BK384.out⟩, ⟨by (with_reducible repeat (first | refine blk_drewN ?_ _ | refine blk_drew ?_ | refine blk_alloc ?_ _)); exact BK388.out⟩, ⟨by (with_reducible repeat (first | refine blk_drewN ?_ _ | refine blk_drew ?_ | refine blk_alloc ?_ _)); exact BK395.out⟩, ⟨by (with_reducible repeat (first | refine blk_drewN ?_ _ | refine blk_drew ?_ | refine blk_alloc ?_ _)); exact BK402.out⟩, ⟨by (with_reducible repeat (first | refine blk_drewN ?_ _ | refine blk_drew ?_ | refine blk_alloc ?_ _)); exact BK417.out⟩, ⟨by (with_reducible repeat (first | refine blk_drewN ?_ _ | refine blk_drew ?_ | refine blk_alloc ?_ _)); exact BK418.out⟩, ⟨by (with_reducible repeat (first | refine blk_drewN ?_ _ | refine blk_drew ?_ | refine blk_alloc ?_ _)); exact BK433.out⟩, ⟨by (with_reducible repeat (first | refine blk_drewN ?_ _ | refine blk_drew ?_ | refine blk_alloc ?_ _)); exact BK434.out⟩, ⟨by (with_reducible repeat (first | refine blk_drewN ?_ _ | refine blk_drew ?_ | refine blk_alloc ?_ _)); exact BK443.out⟩, ⟨by (with_reducible repeat (first | refine blk_drewN ?_ _ | refine blk_drew ?_ | refine blk_alloc ?_ _)); exact BK452.out⟩, ⟨LG HB.out (G1 GE384.out (G1 GE388.out (G1 GE395.out (G1 GE402.out (G1 GE417.out (G1 GE418.out (G1 GE433.out (G1 GE434.out (G1 GE443.out (G1 GE452.out G0))))))))))⟩⟩
              · replace c111 := Bool.eq_false_iff.mpr c111
                subst c111
                have H1 : (hopperlaw14_FeedTells.j1 kj3 l1 true a0_0 l0_1 a0_2 a0_0 l0_1 a0_2) = some true := by rw [if_neg (show ¬ (false = true) by decide)] at H; exact H
                clear H
                have H := H1
                clear H1
                have H' := Aside0.mk H
                clear H
                have hnb323 := NB395_384.out
                have hnc323 := NB384_395.out
                have hnb324 := NB395_388.out
                have hnc324 := NB388_395.out
                have hnb325 := NB395_402.out
                have hnc325 := NB402_395.out
                have hnb326 := NB395_417.out
                have hnc326 := NB417_395.out
                have hnb327 := NB395_418.out
                have hnc327 := NB418_395.out
                have hnb328 := NB395_433.out
                have hnc328 := NB433_395.out
                have hnb329 := NB395_434.out
                have hnc329 := NB434_395.out
                have hnb330 := NB395_443.out
                have hnc330 := NB443_395.out
                have hnb331 := NB395_452.out
                have hnc331 := NB452_395.out
                have hcz332_0 : w95.cell? ⟨gb395, 0, none⟩ = some (.int .i64 t389) := (blk_cell BK395.out 0).trans rfl
                have hcz332_1 : w95.cell? ⟨gb395, 1, none⟩ = some (.slice Ao30 t390.length co30) := (blk_cell BK395.out 1).trans rfl
                have hcz332_2 : w95.cell? ⟨gb395, 2, none⟩ = some (.int .i64 t393) := (blk_cell BK395.out 2).trans rfl
                have hfz332_0 := blk_frozen BK395.out 0
                have hfz332_1 := blk_frozen BK395.out 1
                have hfz332_2 := blk_frozen BK395.out 2
                have hnb333 := NB402_384.out
                have hnc333 := NB384_402.out
                have hnb334 := NB402_388.out
                have hnc334 := NB388_402.out
                have hnb335 := NB402_417.out
                have hnc335 := NB417_402.out
                have hnb336 := NB402_418.out
                have hnc336 := NB418_402.out
                have hnb337 := NB402_433.out
                have hnc337 := NB433_402.out
                have hnb338 := NB402_434.out
                have hnc338 := NB434_402.out
                have hnb339 := NB402_443.out
                have hnc339 := NB443_402.out
                have hnb340 := NB402_452.out
                have hnc340 := NB452_402.out
                have hcz341_0 : w95.cell? ⟨gb402, 0, none⟩ = some (.int .i64 t396) := (blk_cell BK402.out 0).trans rfl
                have hcz341_1 : w95.cell? ⟨gb402, 1, none⟩ = some (.slice Ao37 t397.length co37) := (blk_cell BK402.out 1).trans rfl
                have hcz341_2 : w95.cell? ⟨gb402, 2, none⟩ = some (.int .i64 t400) := (blk_cell BK402.out 2).trans rfl
                have hfz341_0 := blk_frozen BK402.out 0
                have hfz341_1 := blk_frozen BK402.out 1
                have hfz341_2 := blk_frozen BK402.out 2
                go_wp2_with (first | ((with_reducible refine gate_callee (f := 17) rfl ?_); refine goesL_ (some 67) rfl rfl Try.func17 (by kernel_rfl) rfl #[.agg #[.int .i64 t389, .slice Ao30 t390.length co30, .int .i64 t393], .agg #[.int .i64 t396, .slice Ao37 t397.length co37, .int .i64 t400]] rfl (by (try simp only [List.map_toArray, List.map_cons, List.map_nil]); first | done | rfl | (simp only [List.length_drop, List.length_take]; rfl)) ?_; (with_reducible refine (hopperref14_Same.calls kj3 t389 _ _ t390 t393 t396 _ _ t397 t400 true _ ?side1 ?side2 ?side3 ?side4 A107.out).mono ?_); (case side1 => refine (Kd.R_reads' (e := 36) (base := w.heap.size) (ok := fun k_ => ((some k_ ≠ (.slice Ao37 t397.length co37 : Value).ownBlock ∧ (some k_ ≠ (v441 : Value).ownBlock ∧ (k_ ≠ gb418 ∧ k_ ≠ gb434))) ∧ some k_ ≠ (v450 : Value).ownBlock)) (n := t390.length) (c := co30) ?_).2.2; exact ((Kd.R_mono (Kd.R_mv (g := gb452) (Kd.R_types HO392.out BK452.out (by decide)) (fun _ hk => hk.2)) (fun _ h_ => h_.1)))); (case side2 => exact (Kd.R_reads' HO392.out).2.1); (case side3 => refine (Kd.R_reads' (e := 36) (base := w.heap.size) (ok := fun k_ => ((some k_ ≠ (.slice Ao30 t390.length co30 : Value).ownBlock ∧ (some k_ ≠ (v441 : Value).ownBlock ∧ (k_ ≠ gb418 ∧ k_ ≠ gb434))) ∧ some k_ ≠ (v450 : Value).ownBlock)) (n := t397.length) (c := co37) ?_).2.2; exact ((Kd.R_mono (Kd.R_mv (g := gb452) (Kd.R_types HO399.out BK452.out (by decide)) (fun _ hk => hk.2)) (fun _ h_ => h_.1)))); (case side4 => exact (Kd.R_reads' HO399.out).2.1); rintro e w342 ⟨rfl, hb⟩; refine ⟨_, rfl, ?_⟩; replace HO392 := Aside0.mk (Kd.R_below ((Kd.R_mono (Kd.R_mv (g := gb452) (Kd.R_types HO392.out BK452.out (by decide)) (fun _ hk => hk.2)) (fun _ h_ => h_.1))) hb); replace HO399 := Aside0.mk (Kd.R_below ((Kd.R_mono (Kd.R_mv (g := gb452) (Kd.R_types HO399.out BK452.out (by decide)) (fun _ hk => hk.2)) (fun _ h_ => h_.1))) hb); replace HO406 := Aside0.mk (Kd.V_below ((Kd.V_mono (Kd.V_mv (g := gb452) (Kd.V_mono HO406.out (fun k_ hk => (⟨hk, hk.2⟩ : _ ∧ k_ ≠ gb452))) (fun _ hk => hk.2)) (fun _ h_ => h_.1))) hb); replace HO422 := Aside0.mk (Kd.V_below ((Kd.V_mono (Kd.V_mv (g := gb452) (Kd.V_mono HO422.out (fun k_ hk => (⟨hk, hk.2⟩ : _ ∧ k_ ≠ gb452))) (fun _ hk => hk.2)) (fun _ h_ => h_.1))) hb); replace HO438 := Aside0.mk (Kd.V_below ((Kd.V_mono (Kd.V_mv (g := gb452) (Kd.V_mono HO438.out (fun k_ hk => (⟨hk, hk.2⟩ : _ ∧ k_ ≠ gb452))) (fun _ hk => hk.2)) (fun _ h_ => h_.1))) hb); replace HO447 := Aside0.mk (Kd.V_below ((Kd.V_mono (Kd.V_mv (g := gb452) (Kd.V_mono HO447.out (fun k_ hk => (⟨hk, hk.2⟩ : _ ∧ k_ ≠ gb452))) (fun _ hk => hk.2)) (fun _ h_ => h_.1))) hb); replace BK384 := Aside0.mk (blk_below (BF BK384.out NB384_452.out) hb); replace BK388 := Aside0.mk (blk_below (BF BK388.out NB388_452.out) hb); replace BK395 := Aside0.mk (blk_below (BF BK395.out NB395_452.out) hb); replace BK402 := Aside0.mk (blk_below (BF BK402.out NB402_452.out) hb); replace BK417 := Aside0.mk (blk_below (BF BK417.out NB417_452.out) hb); replace BK418 := Aside0.mk (blk_below (BF BK418.out NB418_452.out) hb); replace BK433 := Aside0.mk (blk_below (BF BK433.out NB433_452.out) hb); replace BK434 := Aside0.mk (blk_below (BF BK434.out NB434_452.out) hb); replace BK443 := Aside0.mk (blk_below (BF BK443.out NB443_452.out) hb); replace BK452 := Aside0.mk (blk_below (g := gb452) (o := .cells #[.int .i64 t444, .slice Ao106 t445.length co106, .int .i64 t448] 24 (0, 0)) (BP BK452.out (by rfl)) hb); replace HB := Aside0.mk (below_step (LG HB.out (G1 GE452.out G0)) hb); (try clear HO442); (try clear HO451); (try clear hb); (try clear hb2); (try clear hk); (try clear hi); have hnb343 := NB417_384.out; have hnc343 := NB384_417.out; have hnb344 := NB417_388.out; have hnc344 := NB388_417.out; have hnb345 := NB417_418.out; have hnc345 := NB418_417.out; have hnb346 := NB417_433.out; have hnc346 := NB433_417.out; have hnb347 := NB417_434.out; have hnc347 := NB434_417.out; have hnb348 := NB417_443.out; have hnc348 := NB443_417.out; have hnb349 := NB417_452.out; have hnc349 := NB452_417.out; obtain ⟨hcz350_0, hcz350_1, hcz350_2, hfz350_0, hfz350_1, hfz350_2⟩ := cz3 BK417.out; have hnb351 := NB433_384.out; have hnc351 := NB384_433.out; have hnb352 := NB433_388.out; have hnc352 := NB388_433.out; have hnb353 := NB433_418.out; have hnc353 := NB418_433.out; have hnb354 := NB433_434.out; have hnc354 := NB434_433.out; have hnb355 := NB433_443.out; have hnc355 := NB443_433.out; have hnb356 := NB433_452.out; have hnc356 := NB452_433.out; obtain ⟨hcz357_0, hcz357_1, hcz357_2, hfz357_0, hfz357_1, hfz357_2⟩ := cz3 BK433.out) | (go_at_call 17; (with_reducible refine (hopperref14_Same.calls kj3 t403 _ _ t404 t407 t419 _ _ t420 t423 false _ ?side1 ?side2 ?side3 ?side4 A110.out).mono ?_); (case side1 => exact Kd.CA (Kd.V_reads' HO406.out).2.2); (case side2 => exact (Kd.V_reads' HO406.out).2.1); (case side3 => exact Kd.CA (Kd.V_reads' HO422.out).2.2); (case side4 => exact (Kd.V_reads' HO422.out).2.1); rintro e w358 ⟨rfl, hb⟩; replace HO392 := Aside0.mk (Kd.R_below (Kd.RA HO392.out) hb); replace HO399 := Aside0.mk (Kd.R_below (Kd.RA HO399.out) hb); replace HO406 := Aside0.mk (Kd.V_below (Kd.VA HO406.out) hb); replace HO422 := Aside0.mk (Kd.V_below (Kd.VA HO422.out) hb); replace HO438 := Aside0.mk (Kd.V_below (Kd.VA HO438.out) hb); replace HO447 := Aside0.mk (Kd.V_below (Kd.VA HO447.out) hb); replace BK384 := Aside0.mk (blk_below (BA BK384.out) hb); replace BK388 := Aside0.mk (blk_below (BA BK388.out) hb); replace BK395 := Aside0.mk (blk_below (BA BK395.out) hb); replace BK402 := Aside0.mk (blk_below (BA BK402.out) hb); replace BK417 := Aside0.mk (blk_below (BA BK417.out) hb); replace BK418 := Aside0.mk (blk_below (BA BK418.out) hb); replace BK433 := Aside0.mk (blk_below (BA BK433.out) hb); replace BK434 := Aside0.mk (blk_below (BA BK434.out) hb); replace BK443 := Aside0.mk (blk_below (BA BK443.out) hb); replace BK452 := Aside0.mk (blk_below (BA BK452.out) hb); replace HB := Aside0.mk (below_step (LA HB.out) hb); (try clear HO442); (try clear HO451); (try clear hb); (try clear hb2); (try clear hk); (try clear hi)))
                go_meet
                case rel => exact ⟨_, (true), (by first | (rw [HR_.out]; done) | rfl | (rw [HR_.out]; rfl) | (simp [HR_.out]; done) | (simp; done) | (simp [*]; done)), H', ⟨by have := HJ3.out; first | omega | exact Nat.le_refl _⟩, ⟨by (with_reducible repeat (first | apply Kd.R_alloc | apply Kd.R_drewN | apply Kd.R_drew)); exact Kd.R_mono HO392.out (fun _ hk => ⟨hk.1.1, ⟨hk.1.2.2.1, hk.1.2.2.2⟩⟩)⟩, ⟨by (with_reducible repeat (first | apply Kd.R_alloc | apply Kd.R_drewN | apply Kd.R_drew)); exact Kd.R_mono HO399.out (fun _ hk => ⟨hk.1.1, ⟨hk.1.2.2.1, hk.1.2.2.2⟩⟩)⟩, ⟨by (with_reducible repeat (first | apply Kd.V_alloc | apply Kd.V_drewN | apply Kd.V_drew)); exact Kd.V_mono HO406.out (fun _ hk => ⟨hk.1.1.1, ⟨hk.1.1.2.1, ⟨hk.1.1.2.2.2.1, ⟨hk.1.1.2.2.2.2.1, ⟨hk.1.1.2.2.2.2.2.1, ⟨hk.1.1.2.2.2.2.2.2.1, ⟨hk.1.1.2.2.2.2.2.2.2.1, ⟨hk.1.1.2.2.2.2.2.2.2.2.1, ⟨hk.1.1.2.2.2.2.2.2.2.2.2.1, ⟨hk.1.1.2.2.2.2.2.2.2.2.2.2.1, ⟨hk.1.1.2.2.2.2.2.2.2.2.2.2.2, hk.2⟩⟩⟩⟩⟩⟩⟩⟩⟩⟩⟩)⟩, ⟨by (with_reducible repeat (first | apply Kd.V_alloc | apply Kd.V_drewN | apply Kd.V_drew)); exact Kd.V_mono HO422.out (fun _ hk => ⟨hk.1.1.1, ⟨hk.1.1.2.1, ⟨hk.1.1.2.2.2.1, ⟨hk.1.1.2.2.2.2.1, ⟨hk.1.1.2.2.2.2.2.1, ⟨hk.1.1.2.2.2.2.2.2.1, ⟨hk.1.1.2.2.2.2.2.2.2.1, ⟨hk.1.1.2.2.2.2.2.2.2.2.1, ⟨hk.1.1.2.2.2.2.2.2.2.2.2.1, ⟨hk.1.1.2.2.2.2.2.2.2.2.2.2.1, ⟨hk.1.1.2.2.2.2.2.2.2.2.2.2.2, hk.2⟩⟩⟩⟩⟩⟩⟩⟩⟩⟩⟩)⟩, ⟨by (with_reducible repeat (first | apply Kd.V_alloc | apply Kd.V_drewN | apply Kd.V_drew)); exact Kd.V_mono HO438.out (fun _ hk => ⟨hk.1.1.1, ⟨hk.1.1.2.1, ⟨hk.1.1.2.2.2.1, ⟨hk.1.1.2.2.2.2.1, ⟨hk.1.1.2.2.2.2.2.1, ⟨hk.1.1.2.2.2.2.2.2.1, ⟨hk.1.1.2.2.2.2.2.2.2.1, ⟨hk.1.1.2.2.2.2.2.2.2.2.1, ⟨hk.1.1.2.2.2.2.2.2.2.2.2.1, ⟨hk.1.1.2.2.2.2.2.2.2.2.2.2.1, ⟨hk.1.1.2.2.2.2.2.2.2.2.2.2.2, hk.2⟩⟩⟩⟩⟩⟩⟩⟩⟩⟩⟩)⟩, ⟨by (with_reducible repeat (first | apply Kd.V_alloc | apply Kd.V_drewN | apply Kd.V_drew)); exact Kd.V_mono HO447.out (fun _ hk => ⟨hk.1.2.1, ⟨hk.1.2.2.1, ⟨hk.1.2.2.2.2.1, ⟨hk.1.2.2.2.2.2.1, ⟨hk.1.2.2.2.2.2.2.1, ⟨hk.1.2.2.2.2.2.2.2.1, ⟨hk.1.2.2.2.2.2.2.2.2.1, ⟨hk.1.2.2.2.2.2.2.2.2.2.1, ⟨hk.1.2.2.2.2.2.2.2.2.2.2.1, ⟨hk.1.2.2.2.2.2.2.2.2.2.2.2.1, ⟨hk.1.2.2.2.2.2.2.2.2.2.2.2.2, hk.2⟩⟩⟩⟩⟩⟩⟩⟩⟩⟩⟩)⟩, ⟨by (with_reducible repeat (first | refine blk_drewN ?_ _ | refine blk_drew ?_ | refine blk_alloc ?_ _)); exact BK384.out⟩, ⟨by (with_reducible repeat (first | refine blk_drewN ?_ _ | refine blk_drew ?_ | refine blk_alloc ?_ _)); exact BK388.out⟩, ⟨by (with_reducible repeat (first | refine blk_drewN ?_ _ | refine blk_drew ?_ | refine blk_alloc ?_ _)); exact BK395.out⟩, ⟨by (with_reducible repeat (first | refine blk_drewN ?_ _ | refine blk_drew ?_ | refine blk_alloc ?_ _)); exact BK402.out⟩, ⟨by (with_reducible repeat (first | refine blk_drewN ?_ _ | refine blk_drew ?_ | refine blk_alloc ?_ _)); exact BK417.out⟩, ⟨by (with_reducible repeat (first | refine blk_drewN ?_ _ | refine blk_drew ?_ | refine blk_alloc ?_ _)); exact BK418.out⟩, ⟨by (with_reducible repeat (first | refine blk_drewN ?_ _ | refine blk_drew ?_ | refine blk_alloc ?_ _)); exact BK433.out⟩, ⟨by (with_reducible repeat (first | refine blk_drewN ?_ _ | refine blk_drew ?_ | refine blk_alloc ?_ _)); exact BK434.out⟩, ⟨by (with_reducible repeat (first | refine blk_drewN ?_ _ | refine blk_drew ?_ | refine blk_alloc ?_ _)); exact BK443.out⟩, ⟨by (with_reducible repeat (first | refine blk_drewN ?_ _ | refine blk_drew ?_ | refine blk_alloc ?_ _)); exact BK452.out⟩, ⟨LG HB.out (G1 GE384.out (G1 GE388.out (G1 GE395.out (G1 GE402.out (G1 GE417.out (G1 GE418.out (G1 GE433.out (G1 GE434.out (G1 GE443.out (G1 GE452.out G0))))))))))⟩⟩
            · rw [if_neg c109] at H
              have c109b0 : (t394 == t401) = false := beq_eq_false_iff_ne.mpr c109
              have c109b1 : (t394 != t401) = true := bne_iff_ne.mpr c109
              (first | rw [c109b0] | (simp only [i64_w, i32_w]; rw [c109b0]) | skip)
              have H' := Aside0.mk H
              clear H
              have hnb359 := NB395_384.out
              have hnc359 := NB384_395.out
              have hnb360 := NB395_388.out
              have hnc360 := NB388_395.out
              have hnb361 := NB395_402.out
              have hnc361 := NB402_395.out
              have hnb362 := NB395_417.out
              have hnc362 := NB417_395.out
              have hnb363 := NB395_418.out
              have hnc363 := NB418_395.out
              have hnb364 := NB395_433.out
              have hnc364 := NB433_395.out
              have hnb365 := NB395_434.out
              have hnc365 := NB434_395.out
              have hnb366 := NB395_443.out
              have hnc366 := NB443_395.out
              have hnb367 := NB395_452.out
              have hnc367 := NB452_395.out
              have hcz368_0 : w95.cell? ⟨gb395, 0, none⟩ = some (.int .i64 t389) := (blk_cell BK395.out 0).trans rfl
              have hcz368_1 : w95.cell? ⟨gb395, 1, none⟩ = some (.slice Ao30 t390.length co30) := (blk_cell BK395.out 1).trans rfl
              have hcz368_2 : w95.cell? ⟨gb395, 2, none⟩ = some (.int .i64 t393) := (blk_cell BK395.out 2).trans rfl
              have hfz368_0 := blk_frozen BK395.out 0
              have hfz368_1 := blk_frozen BK395.out 1
              have hfz368_2 := blk_frozen BK395.out 2
              have hnb369 := NB402_384.out
              have hnc369 := NB384_402.out
              have hnb370 := NB402_388.out
              have hnc370 := NB388_402.out
              have hnb371 := NB402_417.out
              have hnc371 := NB417_402.out
              have hnb372 := NB402_418.out
              have hnc372 := NB418_402.out
              have hnb373 := NB402_433.out
              have hnc373 := NB433_402.out
              have hnb374 := NB402_434.out
              have hnc374 := NB434_402.out
              have hnb375 := NB402_443.out
              have hnc375 := NB443_402.out
              have hnb376 := NB402_452.out
              have hnc376 := NB452_402.out
              have hcz377_0 : w95.cell? ⟨gb402, 0, none⟩ = some (.int .i64 t396) := (blk_cell BK402.out 0).trans rfl
              have hcz377_1 : w95.cell? ⟨gb402, 1, none⟩ = some (.slice Ao37 t397.length co37) := (blk_cell BK402.out 1).trans rfl
              have hcz377_2 : w95.cell? ⟨gb402, 2, none⟩ = some (.int .i64 t400) := (blk_cell BK402.out 2).trans rfl
              have hfz377_0 := blk_frozen BK402.out 0
              have hfz377_1 := blk_frozen BK402.out 1
              have hfz377_2 := blk_frozen BK402.out 2
              go_wp2_with (first | ((with_reducible refine gate_callee (f := 17) rfl ?_); refine goesL_ (some 67) rfl rfl Try.func17 (by kernel_rfl) rfl #[.agg #[.int .i64 t389, .slice Ao30 t390.length co30, .int .i64 t393], .agg #[.int .i64 t396, .slice Ao37 t397.length co37, .int .i64 t400]] rfl (by (try simp only [List.map_toArray, List.map_cons, List.map_nil]); first | done | rfl | (simp only [List.length_drop, List.length_take]; rfl)) ?_; (with_reducible refine (hopperref14_Same.calls kj3 t389 _ _ t390 t393 t396 _ _ t397 t400 true _ ?side1 ?side2 ?side3 ?side4 A107.out).mono ?_); (case side1 => refine (Kd.R_reads' (e := 36) (base := w.heap.size) (ok := fun k_ => ((some k_ ≠ (.slice Ao37 t397.length co37 : Value).ownBlock ∧ (some k_ ≠ (v441 : Value).ownBlock ∧ (k_ ≠ gb418 ∧ k_ ≠ gb434))) ∧ some k_ ≠ (v450 : Value).ownBlock)) (n := t390.length) (c := co30) ?_).2.2; exact ((Kd.R_mono (Kd.R_mv (g := gb452) (Kd.R_types HO392.out BK452.out (by decide)) (fun _ hk => hk.2)) (fun _ h_ => h_.1)))); (case side2 => exact (Kd.R_reads' HO392.out).2.1); (case side3 => refine (Kd.R_reads' (e := 36) (base := w.heap.size) (ok := fun k_ => ((some k_ ≠ (.slice Ao30 t390.length co30 : Value).ownBlock ∧ (some k_ ≠ (v441 : Value).ownBlock ∧ (k_ ≠ gb418 ∧ k_ ≠ gb434))) ∧ some k_ ≠ (v450 : Value).ownBlock)) (n := t397.length) (c := co37) ?_).2.2; exact ((Kd.R_mono (Kd.R_mv (g := gb452) (Kd.R_types HO399.out BK452.out (by decide)) (fun _ hk => hk.2)) (fun _ h_ => h_.1)))); (case side4 => exact (Kd.R_reads' HO399.out).2.1); rintro e w378 ⟨rfl, hb⟩; refine ⟨_, rfl, ?_⟩; replace HO392 := Aside0.mk (Kd.R_below ((Kd.R_mono (Kd.R_mv (g := gb452) (Kd.R_types HO392.out BK452.out (by decide)) (fun _ hk => hk.2)) (fun _ h_ => h_.1))) hb); replace HO399 := Aside0.mk (Kd.R_below ((Kd.R_mono (Kd.R_mv (g := gb452) (Kd.R_types HO399.out BK452.out (by decide)) (fun _ hk => hk.2)) (fun _ h_ => h_.1))) hb); replace HO406 := Aside0.mk (Kd.V_below ((Kd.V_mono (Kd.V_mv (g := gb452) (Kd.V_mono HO406.out (fun k_ hk => (⟨hk, hk.2⟩ : _ ∧ k_ ≠ gb452))) (fun _ hk => hk.2)) (fun _ h_ => h_.1))) hb); replace HO422 := Aside0.mk (Kd.V_below ((Kd.V_mono (Kd.V_mv (g := gb452) (Kd.V_mono HO422.out (fun k_ hk => (⟨hk, hk.2⟩ : _ ∧ k_ ≠ gb452))) (fun _ hk => hk.2)) (fun _ h_ => h_.1))) hb); replace HO438 := Aside0.mk (Kd.V_below ((Kd.V_mono (Kd.V_mv (g := gb452) (Kd.V_mono HO438.out (fun k_ hk => (⟨hk, hk.2⟩ : _ ∧ k_ ≠ gb452))) (fun _ hk => hk.2)) (fun _ h_ => h_.1))) hb); replace HO447 := Aside0.mk (Kd.V_below ((Kd.V_mono (Kd.V_mv (g := gb452) (Kd.V_mono HO447.out (fun k_ hk => (⟨hk, hk.2⟩ : _ ∧ k_ ≠ gb452))) (fun _ hk => hk.2)) (fun _ h_ => h_.1))) hb); replace BK384 := Aside0.mk (blk_below (BF BK384.out NB384_452.out) hb); replace BK388 := Aside0.mk (blk_below (BF BK388.out NB388_452.out) hb); replace BK395 := Aside0.mk (blk_below (BF BK395.out NB395_452.out) hb); replace BK402 := Aside0.mk (blk_below (BF BK402.out NB402_452.out) hb); replace BK417 := Aside0.mk (blk_below (BF BK417.out NB417_452.out) hb); replace BK418 := Aside0.mk (blk_below (BF BK418.out NB418_452.out) hb); replace BK433 := Aside0.mk (blk_below (BF BK433.out NB433_452.out) hb); replace BK434 := Aside0.mk (blk_below (BF BK434.out NB434_452.out) hb); replace BK443 := Aside0.mk (blk_below (BF BK443.out NB443_452.out) hb); replace BK452 := Aside0.mk (blk_below (g := gb452) (o := .cells #[.int .i64 t444, .slice Ao106 t445.length co106, .int .i64 t448] 24 (0, 0)) (BP BK452.out (by rfl)) hb); replace HB := Aside0.mk (below_step (LG HB.out (G1 GE452.out G0)) hb); (try clear HO442); (try clear HO451); (try clear hb); (try clear hb2); (try clear hk); (try clear hi)))
              go_meet
              case rel => exact ⟨_, (true), (by first | (rw [HR_.out]; done) | rfl | (rw [HR_.out]; rfl) | (simp [HR_.out]; done) | (simp; done) | (simp [*]; done)), H', ⟨by have := HJ3.out; first | omega | exact Nat.le_refl _⟩, ⟨by (with_reducible repeat (first | apply Kd.R_alloc | apply Kd.R_drewN | apply Kd.R_drew)); exact Kd.R_mono HO392.out (fun _ hk => ⟨hk.1.1, ⟨hk.1.2.2.1, hk.1.2.2.2⟩⟩)⟩, ⟨by (with_reducible repeat (first | apply Kd.R_alloc | apply Kd.R_drewN | apply Kd.R_drew)); exact Kd.R_mono HO399.out (fun _ hk => ⟨hk.1.1, ⟨hk.1.2.2.1, hk.1.2.2.2⟩⟩)⟩, ⟨by (with_reducible repeat (first | apply Kd.V_alloc | apply Kd.V_drewN | apply Kd.V_drew)); exact Kd.V_mono HO406.out (fun _ hk => ⟨hk.1.1.1, ⟨hk.1.1.2.1, ⟨hk.1.1.2.2.2.1, ⟨hk.1.1.2.2.2.2.1, ⟨hk.1.1.2.2.2.2.2.1, ⟨hk.1.1.2.2.2.2.2.2.1, ⟨hk.1.1.2.2.2.2.2.2.2.1, ⟨hk.1.1.2.2.2.2.2.2.2.2.1, ⟨hk.1.1.2.2.2.2.2.2.2.2.2.1, ⟨hk.1.1.2.2.2.2.2.2.2.2.2.2.1, ⟨hk.1.1.2.2.2.2.2.2.2.2.2.2.2, hk.2⟩⟩⟩⟩⟩⟩⟩⟩⟩⟩⟩)⟩, ⟨by (with_reducible repeat (first | apply Kd.V_alloc | apply Kd.V_drewN | apply Kd.V_drew)); exact Kd.V_mono HO422.out (fun _ hk => ⟨hk.1.1.1, ⟨hk.1.1.2.1, ⟨hk.1.1.2.2.2.1, ⟨hk.1.1.2.2.2.2.1, ⟨hk.1.1.2.2.2.2.2.1, ⟨hk.1.1.2.2.2.2.2.2.1, ⟨hk.1.1.2.2.2.2.2.2.2.1, ⟨hk.1.1.2.2.2.2.2.2.2.2.1, ⟨hk.1.1.2.2.2.2.2.2.2.2.2.1, ⟨hk.1.1.2.2.2.2.2.2.2.2.2.2.1, ⟨hk.1.1.2.2.2.2.2.2.2.2.2.2.2, hk.2⟩⟩⟩⟩⟩⟩⟩⟩⟩⟩⟩)⟩, ⟨by (with_reducible repeat (first | apply Kd.V_alloc | apply Kd.V_drewN | apply Kd.V_drew)); exact Kd.V_mono HO438.out (fun _ hk => ⟨hk.1.1.1, ⟨hk.1.1.2.1, ⟨hk.1.1.2.2.2.1, ⟨hk.1.1.2.2.2.2.1, ⟨hk.1.1.2.2.2.2.2.1, ⟨hk.1.1.2.2.2.2.2.2.1, ⟨hk.1.1.2.2.2.2.2.2.2.1, ⟨hk.1.1.2.2.2.2.2.2.2.2.1, ⟨hk.1.1.2.2.2.2.2.2.2.2.2.1, ⟨hk.1.1.2.2.2.2.2.2.2.2.2.2.1, ⟨hk.1.1.2.2.2.2.2.2.2.2.2.2.2, hk.2⟩⟩⟩⟩⟩⟩⟩⟩⟩⟩⟩)⟩, ⟨by (with_reducible repeat (first | apply Kd.V_alloc | apply Kd.V_drewN | apply Kd.V_drew)); exact Kd.V_mono HO447.out (fun _ hk => ⟨hk.1.2.1, ⟨hk.1.2.2.1, ⟨hk.1.2.2.2.2.1, ⟨hk.1.2.2.2.2.2.1, ⟨hk.1.2.2.2.2.2.2.1, ⟨hk.1.2.2.2.2.2.2.2.1, ⟨hk.1.2.2.2.2.2.2.2.2.1, ⟨hk.1.2.2.2.2.2.2.2.2.2.1, ⟨hk.1.2.2.2.2.2.2.2.2.2.2.1, ⟨hk.1.2.2.2.2.2.2.2.2.2.2.2.1, ⟨hk.1.2.2.2.2.2.2.2.2.2.2.2.2, hk.2⟩⟩⟩⟩⟩⟩⟩⟩⟩⟩⟩)⟩, ⟨by (with_reducible repeat (first | refine blk_drewN ?_ _ | refine blk_drew ?_ | refine blk_alloc ?_ _)); exact BK384.out⟩, ⟨by (with_reducible repeat (first | refine blk_drewN ?_ _ | refine blk_drew ?_ | refine blk_alloc ?_ _)); exact BK388.out⟩, ⟨by (with_reducible repeat (first | refine blk_drewN ?_ _ | refine blk_drew ?_ | refine blk_alloc ?_ _)); exact BK395.out⟩, ⟨by (with_reducible repeat (first | refine blk_drewN ?_ _ | refine blk_drew ?_ | refine blk_alloc ?_ _)); exact BK402.out⟩, ⟨by (with_reducible repeat (first | refine blk_drewN ?_ _ | refine blk_drew ?_ | refine blk_alloc ?_ _)); exact BK417.out⟩, ⟨by (with_reducible repeat (first | refine blk_drewN ?_ _ | refine blk_drew ?_ | refine blk_alloc ?_ _)); exact BK418.out⟩, ⟨by (with_reducible repeat (first | refine blk_drewN ?_ _ | refine blk_drew ?_ | refine blk_alloc ?_ _)); exact BK433.out⟩, ⟨by (with_reducible repeat (first | refine blk_drewN ?_ _ | refine blk_drew ?_ | refine blk_alloc ?_ _)); exact BK434.out⟩, ⟨by (with_reducible repeat (first | refine blk_drewN ?_ _ | refine blk_drew ?_ | refine blk_alloc ?_ _)); exact BK443.out⟩, ⟨by (with_reducible repeat (first | refine blk_drewN ?_ _ | refine blk_drew ?_ | refine blk_alloc ?_ _)); exact BK452.out⟩, ⟨LG HB.out (G1 GE384.out (G1 GE388.out (G1 GE395.out (G1 GE402.out (G1 GE417.out (G1 GE418.out (G1 GE433.out (G1 GE434.out (G1 GE443.out (G1 GE452.out G0))))))))))⟩⟩
          · replace c108 := Bool.eq_false_iff.mpr c108
            subst c108
            have H1 : (hopperlaw14_FeedTells.j1 kj3 l1 true a0_0 l0_1 a0_2 a0_0 l0_1 a0_2) = some true := by rw [if_neg (show ¬ (false = true) by decide)] at H; exact H
            clear H
            have H := H1
            clear H1
            have H' := Aside0.mk H
            clear H
            have hnb379 := NB395_384.out
            have hnc379 := NB384_395.out
            have hnb380 := NB395_388.out
            have hnc380 := NB388_395.out
            have hnb381 := NB395_402.out
            have hnc381 := NB402_395.out
            have hnb382 := NB395_417.out
            have hnc382 := NB417_395.out
            have hnb383 := NB395_418.out
            have hnc383 := NB418_395.out
            have hnb384 := NB395_433.out
            have hnc384 := NB433_395.out
            have hnb385 := NB395_434.out
            have hnc385 := NB434_395.out
            have hnb386 := NB395_443.out
            have hnc386 := NB443_395.out
            have hnb387 := NB395_452.out
            have hnc387 := NB452_395.out
            have hcz388_0 : w95.cell? ⟨gb395, 0, none⟩ = some (.int .i64 t389) := (blk_cell BK395.out 0).trans rfl
            have hcz388_1 : w95.cell? ⟨gb395, 1, none⟩ = some (.slice Ao30 t390.length co30) := (blk_cell BK395.out 1).trans rfl
            have hcz388_2 : w95.cell? ⟨gb395, 2, none⟩ = some (.int .i64 t393) := (blk_cell BK395.out 2).trans rfl
            have hfz388_0 := blk_frozen BK395.out 0
            have hfz388_1 := blk_frozen BK395.out 1
            have hfz388_2 := blk_frozen BK395.out 2
            have hnb389 := NB402_384.out
            have hnc389 := NB384_402.out
            have hnb390 := NB402_388.out
            have hnc390 := NB388_402.out
            have hnb391 := NB402_417.out
            have hnc391 := NB417_402.out
            have hnb392 := NB402_418.out
            have hnc392 := NB418_402.out
            have hnb393 := NB402_433.out
            have hnc393 := NB433_402.out
            have hnb394 := NB402_434.out
            have hnc394 := NB434_402.out
            have hnb395 := NB402_443.out
            have hnc395 := NB443_402.out
            have hnb396 := NB402_452.out
            have hnc396 := NB452_402.out
            have hcz397_0 : w95.cell? ⟨gb402, 0, none⟩ = some (.int .i64 t396) := (blk_cell BK402.out 0).trans rfl
            have hcz397_1 : w95.cell? ⟨gb402, 1, none⟩ = some (.slice Ao37 t397.length co37) := (blk_cell BK402.out 1).trans rfl
            have hcz397_2 : w95.cell? ⟨gb402, 2, none⟩ = some (.int .i64 t400) := (blk_cell BK402.out 2).trans rfl
            have hfz397_0 := blk_frozen BK402.out 0
            have hfz397_1 := blk_frozen BK402.out 1
            have hfz397_2 := blk_frozen BK402.out 2
            go_wp2_with (first | ((with_reducible refine gate_callee (f := 17) rfl ?_); refine goesL_ (some 67) rfl rfl Try.func17 (by kernel_rfl) rfl #[.agg #[.int .i64 t389, .slice Ao30 t390.length co30, .int .i64 t393], .agg #[.int .i64 t396, .slice Ao37 t397.length co37, .int .i64 t400]] rfl (by (try simp only [List.map_toArray, List.map_cons, List.map_nil]); first | done | rfl | (simp only [List.length_drop, List.length_take]; rfl)) ?_; (with_reducible refine (hopperref14_Same.calls kj3 t389 _ _ t390 t393 t396 _ _ t397 t400 false _ ?side1 ?side2 ?side3 ?side4 A107.out).mono ?_); (case side1 => refine (Kd.R_reads' (e := 36) (base := w.heap.size) (ok := fun k_ => ((some k_ ≠ (.slice Ao37 t397.length co37 : Value).ownBlock ∧ (some k_ ≠ (v441 : Value).ownBlock ∧ (k_ ≠ gb418 ∧ k_ ≠ gb434))) ∧ some k_ ≠ (v450 : Value).ownBlock)) (n := t390.length) (c := co30) ?_).2.2; exact ((Kd.R_mono (Kd.R_mv (g := gb452) (Kd.R_types HO392.out BK452.out (by decide)) (fun _ hk => hk.2)) (fun _ h_ => h_.1)))); (case side2 => exact (Kd.R_reads' HO392.out).2.1); (case side3 => refine (Kd.R_reads' (e := 36) (base := w.heap.size) (ok := fun k_ => ((some k_ ≠ (.slice Ao30 t390.length co30 : Value).ownBlock ∧ (some k_ ≠ (v441 : Value).ownBlock ∧ (k_ ≠ gb418 ∧ k_ ≠ gb434))) ∧ some k_ ≠ (v450 : Value).ownBlock)) (n := t397.length) (c := co37) ?_).2.2; exact ((Kd.R_mono (Kd.R_mv (g := gb452) (Kd.R_types HO399.out BK452.out (by decide)) (fun _ hk => hk.2)) (fun _ h_ => h_.1)))); (case side4 => exact (Kd.R_reads' HO399.out).2.1); rintro e w398 ⟨rfl, hb⟩; refine ⟨_, rfl, ?_⟩; replace HO392 := Aside0.mk (Kd.R_below ((Kd.R_mono (Kd.R_mv (g := gb452) (Kd.R_types HO392.out BK452.out (by decide)) (fun _ hk => hk.2)) (fun _ h_ => h_.1))) hb); replace HO399 := Aside0.mk (Kd.R_below ((Kd.R_mono (Kd.R_mv (g := gb452) (Kd.R_types HO399.out BK452.out (by decide)) (fun _ hk => hk.2)) (fun _ h_ => h_.1))) hb); replace HO406 := Aside0.mk (Kd.V_below ((Kd.V_mono (Kd.V_mv (g := gb452) (Kd.V_mono HO406.out (fun k_ hk => (⟨hk, hk.2⟩ : _ ∧ k_ ≠ gb452))) (fun _ hk => hk.2)) (fun _ h_ => h_.1))) hb); replace HO422 := Aside0.mk (Kd.V_below ((Kd.V_mono (Kd.V_mv (g := gb452) (Kd.V_mono HO422.out (fun k_ hk => (⟨hk, hk.2⟩ : _ ∧ k_ ≠ gb452))) (fun _ hk => hk.2)) (fun _ h_ => h_.1))) hb); replace HO438 := Aside0.mk (Kd.V_below ((Kd.V_mono (Kd.V_mv (g := gb452) (Kd.V_mono HO438.out (fun k_ hk => (⟨hk, hk.2⟩ : _ ∧ k_ ≠ gb452))) (fun _ hk => hk.2)) (fun _ h_ => h_.1))) hb); replace HO447 := Aside0.mk (Kd.V_below ((Kd.V_mono (Kd.V_mv (g := gb452) (Kd.V_mono HO447.out (fun k_ hk => (⟨hk, hk.2⟩ : _ ∧ k_ ≠ gb452))) (fun _ hk => hk.2)) (fun _ h_ => h_.1))) hb); replace BK384 := Aside0.mk (blk_below (BF BK384.out NB384_452.out) hb); replace BK388 := Aside0.mk (blk_below (BF BK388.out NB388_452.out) hb); replace BK395 := Aside0.mk (blk_below (BF BK395.out NB395_452.out) hb); replace BK402 := Aside0.mk (blk_below (BF BK402.out NB402_452.out) hb); replace BK417 := Aside0.mk (blk_below (BF BK417.out NB417_452.out) hb); replace BK418 := Aside0.mk (blk_below (BF BK418.out NB418_452.out) hb); replace BK433 := Aside0.mk (blk_below (BF BK433.out NB433_452.out) hb); replace BK434 := Aside0.mk (blk_below (BF BK434.out NB434_452.out) hb); replace BK443 := Aside0.mk (blk_below (BF BK443.out NB443_452.out) hb); replace BK452 := Aside0.mk (blk_below (g := gb452) (o := .cells #[.int .i64 t444, .slice Ao106 t445.length co106, .int .i64 t448] 24 (0, 0)) (BP BK452.out (by rfl)) hb); replace HB := Aside0.mk (below_step (LG HB.out (G1 GE452.out G0)) hb); (try clear HO442); (try clear HO451); (try clear hb); (try clear hb2); (try clear hk); (try clear hi)))
            go_meet
            case rel => exact ⟨_, (true), (by first | (rw [HR_.out]; done) | rfl | (rw [HR_.out]; rfl) | (simp [HR_.out]; done) | (simp; done) | (simp [*]; done)), H', ⟨by have := HJ3.out; first | omega | exact Nat.le_refl _⟩, ⟨by (with_reducible repeat (first | apply Kd.R_alloc | apply Kd.R_drewN | apply Kd.R_drew)); exact Kd.R_mono HO392.out (fun _ hk => ⟨hk.1.1, ⟨hk.1.2.2.1, hk.1.2.2.2⟩⟩)⟩, ⟨by (with_reducible repeat (first | apply Kd.R_alloc | apply Kd.R_drewN | apply Kd.R_drew)); exact Kd.R_mono HO399.out (fun _ hk => ⟨hk.1.1, ⟨hk.1.2.2.1, hk.1.2.2.2⟩⟩)⟩, ⟨by (with_reducible repeat (first | apply Kd.V_alloc | apply Kd.V_drewN | apply Kd.V_drew)); exact Kd.V_mono HO406.out (fun _ hk => ⟨hk.1.1.1, ⟨hk.1.1.2.1, ⟨hk.1.1.2.2.2.1, ⟨hk.1.1.2.2.2.2.1, ⟨hk.1.1.2.2.2.2.2.1, ⟨hk.1.1.2.2.2.2.2.2.1, ⟨hk.1.1.2.2.2.2.2.2.2.1, ⟨hk.1.1.2.2.2.2.2.2.2.2.1, ⟨hk.1.1.2.2.2.2.2.2.2.2.2.1, ⟨hk.1.1.2.2.2.2.2.2.2.2.2.2.1, ⟨hk.1.1.2.2.2.2.2.2.2.2.2.2.2, hk.2⟩⟩⟩⟩⟩⟩⟩⟩⟩⟩⟩)⟩, ⟨by (with_reducible repeat (first | apply Kd.V_alloc | apply Kd.V_drewN | apply Kd.V_drew)); exact Kd.V_mono HO422.out (fun _ hk => ⟨hk.1.1.1, ⟨hk.1.1.2.1, ⟨hk.1.1.2.2.2.1, ⟨hk.1.1.2.2.2.2.1, ⟨hk.1.1.2.2.2.2.2.1, ⟨hk.1.1.2.2.2.2.2.2.1, ⟨hk.1.1.2.2.2.2.2.2.2.1, ⟨hk.1.1.2.2.2.2.2.2.2.2.1, ⟨hk.1.1.2.2.2.2.2.2.2.2.2.1, ⟨hk.1.1.2.2.2.2.2.2.2.2.2.2.1, ⟨hk.1.1.2.2.2.2.2.2.2.2.2.2.2, hk.2⟩⟩⟩⟩⟩⟩⟩⟩⟩⟩⟩)⟩, ⟨by (with_reducible repeat (first | apply Kd.V_alloc | apply Kd.V_drewN | apply Kd.V_drew)); exact Kd.V_mono HO438.out (fun _ hk => ⟨hk.1.1.1, ⟨hk.1.1.2.1, ⟨hk.1.1.2.2.2.1, ⟨hk.1.1.2.2.2.2.1, ⟨hk.1.1.2.2.2.2.2.1, ⟨hk.1.1.2.2.2.2.2.2.1, ⟨hk.1.1.2.2.2.2.2.2.2.1, ⟨hk.1.1.2.2.2.2.2.2.2.2.1, ⟨hk.1.1.2.2.2.2.2.2.2.2.2.1, ⟨hk.1.1.2.2.2.2.2.2.2.2.2.2.1, ⟨hk.1.1.2.2.2.2.2.2.2.2.2.2.2, hk.2⟩⟩⟩⟩⟩⟩⟩⟩⟩⟩⟩)⟩, ⟨by (with_reducible repeat (first | apply Kd.V_alloc | apply Kd.V_drewN | apply Kd.V_drew)); exact Kd.V_mono HO447.out (fun _ hk => ⟨hk.1.2.1, ⟨hk.1.2.2.1, ⟨hk.1.2.2.2.2.1, ⟨hk.1.2.2.2.2.2.1, ⟨hk.1.2.2.2.2.2.2.1, ⟨hk.1.2.2.2.2.2.2.2.1, ⟨hk.1.2.2.2.2.2.2.2.2.1, ⟨hk.1.2.2.2.2.2.2.2.2.2.1, ⟨hk.1.2.2.2.2.2.2.2.2.2.2.1, ⟨hk.1.2.2.2.2.2.2.2.2.2.2.2.1, ⟨hk.1.2.2.2.2.2.2.2.2.2.2.2.2, hk.2⟩⟩⟩⟩⟩⟩⟩⟩⟩⟩⟩)⟩, ⟨by (with_reducible repeat (first | refine blk_drewN ?_ _ | refine blk_drew ?_ | refine blk_alloc ?_ _)); exact BK384.out⟩, ⟨by (with_reducible repeat (first | refine blk_drewN ?_ _ | refine blk_drew ?_ | refine blk_alloc ?_ _)); exact BK388.out⟩, ⟨by (with_reducible repeat (first | refine blk_drewN ?_ _ | refine blk_drew ?_ | refine blk_alloc ?_ _)); exact BK395.out⟩, ⟨by (with_reducible repeat (first | refine blk_drewN ?_ _ | refine blk_drew ?_ | refine blk_alloc ?_ _)); exact BK402.out⟩, ⟨by (with_reducible repeat (first | refine blk_drewN ?_ _ | refine blk_drew ?_ | refine blk_alloc ?_ _)); exact BK417.out⟩, ⟨by (with_reducible repeat (first | refine blk_drewN ?_ _ | refine blk_drew ?_ | refine blk_alloc ?_ _)); exact BK418.out⟩, ⟨by (with_reducible repeat (first | refine blk_drewN ?_ _ | refine blk_drew ?_ | refine blk_alloc ?_ _)); exact BK433.out⟩, ⟨by (with_reducible repeat (first | refine blk_drewN ?_ _ | refine blk_drew ?_ | refine blk_alloc ?_ _)); exact BK434.out⟩, ⟨by (with_reducible repeat (first | refine blk_drewN ?_ _ | refine blk_drew ?_ | refine blk_alloc ?_ _)); exact BK443.out⟩, ⟨by (with_reducible repeat (first | refine blk_drewN ?_ _ | refine blk_drew ?_ | refine blk_alloc ?_ _)); exact BK452.out⟩, ⟨LG HB.out (G1 GE384.out (G1 GE388.out (G1 GE395.out (G1 GE402.out (G1 GE417.out (G1 GE418.out (G1 GE433.out (G1 GE434.out (G1 GE443.out (G1 GE452.out G0))))))))))⟩⟩
        case rest =>
          clear HC20
          try clear c1
          try clear c2
          try clear p2
          try clear c3
          try clear c4
          try clear c5
          try clear c6
          try clear c7
          try clear c8
          try clear c9
          try clear c10
          try clear c11
          try clear c12
          try clear c13
          try clear c14
          try clear c15
          try clear c16
          try clear c17
          try clear c18
          try clear c19
          try clear c20
          try clear c21
          try clear c22
          try clear c23
          try clear c24
          try clear c25
          try clear c26
          try clear c27
          try clear c28
          try clear c29
          try clear c30
          try clear c31
          try clear c32
          try clear c33
          try clear c34
          try clear c35
          try clear c36
          try clear c37
          try clear c38
          try clear c39
          try clear c43
          try clear c44
          try clear c45
          try clear c46
          try clear c47
          try clear c51
          try clear c52
          try clear c53
          try clear c54
          try clear c61
          try clear c62
          try clear c63
          try clear c64
          try clear c65
          try clear c66
          try clear c67
          try clear c71
          try clear c72
          try clear c73
          try clear c74
          try clear c75
          try clear c76
          try clear c82
          try clear c83
          try clear c84
          try clear c85
          try clear c86
          try clear c87
          try clear c88
          try clear c89
          try clear c96
          try clear c97
          try clear c98
          try clear c99
          try clear c100
          try clear c101
          try clear c102
          try clear c103
          try clear c104
          try clear c108
          try clear c109
          try clear c109b0
          try clear c109b1
          try clear c111
          try clear c112
          try clear c112b0
          try clear c113
          try clear c114
          try clear c115
          try clear c116
          try clear c117
          try clear c118
          try clear c119
          try clear c120
          try clear c121
          try clear c123
          try clear c124
          try clear c125
          try clear c126
          try clear c127
          try clear c128
          try clear c129
          try clear c130
          try clear c133
          try clear c134
          try clear c135
          try clear c136
          try clear c137
          try clear c138
          try clear c139
          try clear c141
          try clear c142
          try clear c143
          try clear c144
          try clear c145
          try clear c146
          try clear c149
          try clear c150
          try clear c151
          try clear c152
          try clear c153
          try clear c155
          try clear c156
          try clear c157
          try clear c158
          try clear c160
          try clear c160b0
          try clear c160b1
          try clear c162
          try clear c164
          try clear c165
          try clear c166
          try clear c167
          try clear c168
          try clear c169
          try clear c170
          try clear c171
          try clear c172
          try clear c174
          try clear c175
          try clear c176
          try clear c177
          try clear c178
          try clear c179
          try clear c180
          try clear c181
          try clear c184
          try clear c185
          try clear c186
          try clear c187
          try clear c188
          try clear c189
          try clear c190
          try clear c192
          try clear c193
          try clear c194
          try clear c195
          try clear c196
          try clear c197
          try clear c200
          try clear c201
          try clear c202
          try clear c203
          try clear c204
          try clear c206
          try clear c207
          try clear c208
          try clear c209
          try clear c211
          try clear c212
          try clear c213
          try clear c215
          try clear c216
          try clear c221
          try clear c222
          try clear c223
          try clear c224
          try clear c225
          try clear c226
          try clear c227
          try clear c228
          try clear c229
          try clear c231
          try clear c232
          try clear c233
          try clear c234
          try clear c235
          try clear c236
          try clear c237
          try clear c238
          try clear c241
          try clear c242
          try clear c243
          try clear c244
          try clear c245
          try clear c246
          try clear c247
          try clear c249
          try clear c250
          try clear c251
          try clear c252
          try clear c253
          try clear c254
          try clear c257
          try clear c258
          try clear c259
          try clear c260
          try clear c261
          try clear c263
          try clear c264
          try clear c265
          try clear c266
          try clear c268
          try clear c269
          try clear c270
          try clear c272
          try clear c273
          try clear c276
          try clear c277
          try clear c278
          try clear c279
          try clear c280
          try clear c281
          try clear c282
          try clear c283
          try clear c284
          try clear c286
          try clear c287
          try clear c288
          try clear c289
          try clear c290
          try clear c291
          try clear c292
          try clear c293
          try clear c296
          try clear c297
          try clear c298
          try clear c299
          try clear c300
          try clear c301
          try clear c302
          try clear c304
          try clear c305
          try clear c306
          try clear c307
          try clear c308
          try clear c309
          try clear c312
          try clear c313
          try clear c314
          try clear c315
          try clear c316
          try clear c318
          try clear c319
          try clear c320
          try clear c321
          try clear c323
          try clear c324
          try clear c325
          try clear c326
          try clear c327
          try clear c328
          try clear c329
          try clear c330
          try clear c331
          try clear c333
          try clear c334
          try clear c335
          try clear c336
          try clear c337
          try clear c338
          try clear c339
          try clear c340
          try clear c343
          try clear c344
          try clear c345
          try clear c346
          try clear c347
          try clear c348
          try clear c349
          try clear c351
          try clear c352
          try clear c353
          try clear c354
          try clear c355
          try clear c356
          try clear c359
          try clear c360
          try clear c361
          try clear c362
          try clear c363
          try clear c364
          try clear c365
          try clear c366
          try clear c367
          try clear c369
          try clear c370
          try clear c371
          try clear c372
          try clear c373
          try clear c374
          try clear c375
          try clear c376
          try clear c379
          try clear c380
          try clear c381
          try clear c382
          try clear c383
          try clear c384
          try clear c385
          try clear c386
          try clear c387
          try clear c389
          try clear c390
          try clear c391
          try clear c392
          try clear c393
          try clear c394
          try clear c395
          try clear c396
          try clear hcz105_0
          try clear hcz105_1
          try clear hcz105_2
          try clear hcz10_0
          try clear hcz10_1
          try clear hcz10_2
          try clear hcz122_0
          try clear hcz122_1
          try clear hcz122_2
          try clear hcz131_0
          try clear hcz131_1
          try clear hcz131_2
          try clear hcz140_0
          try clear hcz140_1
          try clear hcz140_2
          try clear hcz147_0
          try clear hcz147_1
          try clear hcz147_2
          try clear hcz154_0
          try clear hcz154_1
          try clear hcz154_2
          try clear hcz154_3
          try clear hcz154_4
          try clear hcz154_5
          try clear hcz154_6
          try clear hcz154_7
          try clear hcz159_0
          try clear hcz159_1
          try clear hcz159_2
          try clear hcz159_3
          try clear hcz159_4
          try clear hcz159_5
          try clear hcz159_6
          try clear hcz159_7
          try clear hcz173_0
          try clear hcz173_1
          try clear hcz173_2
          try clear hcz182_0
          try clear hcz182_1
          try clear hcz182_2
          try clear hcz191_0
          try clear hcz191_1
          try clear hcz191_2
          try clear hcz198_0
          try clear hcz198_1
          try clear hcz198_2
          try clear hcz205_0
          try clear hcz205_1
          try clear hcz205_2
          try clear hcz205_3
          try clear hcz205_4
          try clear hcz205_5
          try clear hcz205_6
          try clear hcz205_7
          try clear hcz210_0
          try clear hcz210_1
          try clear hcz210_2
          try clear hcz210_3
          try clear hcz210_4
          try clear hcz210_5
          try clear hcz210_6
          try clear hcz210_7
          try clear hcz214_0
          try clear hcz214_1
          try clear hcz214_2
          try clear hcz217_0
          try clear hcz217_1
          try clear hcz217_2
          try clear hcz21_0
          try clear hcz21_1
          try clear hcz21_2
          try clear hcz230_0
          try clear hcz230_1
          try clear hcz230_2
          try clear hcz239_0
          try clear hcz239_1
          try clear hcz239_2
          try clear hcz248_0
          try clear hcz248_1
          try clear hcz248_2
          try clear hcz24_0
          try clear hcz24_1
          try clear hcz24_2
          try clear hcz255_0
          try clear hcz255_1
          try clear hcz255_2
          try clear hcz262_0
          try clear hcz262_1
          try clear hcz262_2
          try clear hcz262_3
          try clear hcz262_4
          try clear hcz262_5
          try clear hcz262_6
          try clear hcz262_7
          try clear hcz267_0
          try clear hcz267_1
          try clear hcz267_2
          try clear hcz267_3
          try clear hcz267_4
          try clear hcz267_5
          try clear hcz267_6
          try clear hcz267_7
          try clear hcz271_0
          try clear hcz271_1
          try clear hcz271_2
          try clear hcz274_0
          try clear hcz274_1
          try clear hcz274_2
          try clear hcz285_0
          try clear hcz285_1
          try clear hcz285_2
          try clear hcz294_0
          try clear hcz294_1
          try clear hcz294_2
          try clear hcz29_0
          try clear hcz29_1
          try clear hcz29_2
          try clear hcz303_0
          try clear hcz303_1
          try clear hcz303_2
          try clear hcz310_0
          try clear hcz310_1
          try clear hcz310_2
          try clear hcz317_0
          try clear hcz317_1
          try clear hcz317_2
          try clear hcz317_3
          try clear hcz317_4
          try clear hcz317_5
          try clear hcz317_6
          try clear hcz317_7
          try clear hcz322_0
          try clear hcz322_1
          try clear hcz322_2
          try clear hcz322_3
          try clear hcz322_4
          try clear hcz322_5
          try clear hcz322_6
          try clear hcz322_7
          try clear hcz332_0
          try clear hcz332_1
          try clear hcz332_2
          try clear hcz341_0
          try clear hcz341_1
          try clear hcz341_2
          try clear hcz350_0
          try clear hcz350_1
          try clear hcz350_2
          try clear hcz357_0
          try clear hcz357_1
          try clear hcz357_2
          try clear hcz368_0
          try clear hcz368_1
          try clear hcz368_2
          try clear hcz36_0
          try clear hcz36_1
          try clear hcz36_2
          try clear hcz377_0
          try clear hcz377_1
          try clear hcz377_2
          try clear hcz388_0
          try clear hcz388_1
          try clear hcz388_2
          try clear hcz397_0
          try clear hcz397_1
          try clear hcz397_2
          try clear hcz39_0
          try clear hcz39_1
          try clear hcz39_2
          try clear hcz48_0
          try clear hcz48_1
          try clear hcz48_2
          try clear hcz55_0
          try clear hcz55_1
          try clear hcz55_2
          try clear hcz55_3
          try clear hcz55_4
          try clear hcz55_5
          try clear hcz55_6
          try clear hcz55_7
          try clear hcz57_0
          try clear hcz57_1
          try clear hcz57_2
          try clear hcz68_0
          try clear hcz68_1
          try clear hcz68_2
          try clear hcz77_0
          try clear hcz77_1
          try clear hcz77_2
          try clear hcz77_3
          try clear hcz77_4
          try clear hcz77_5
          try clear hcz77_6
          try clear hcz77_7
          try clear hcz79_0
          try clear hcz79_1
          try clear hcz79_2
          try clear hcz90_0
          try clear hcz90_1
          try clear hcz90_2
          try clear hcz93_0
          try clear hcz93_1
          try clear hcz93_2
          try clear hcz9_0
          try clear hcz9_1
          try clear hcz9_2
          try clear hfz105_0
          try clear hfz105_1
          try clear hfz105_2
          try clear hfz10_0
          try clear hfz10_1
          try clear hfz10_2
          try clear hfz122_0
          try clear hfz122_1
          try clear hfz122_2
          try clear hfz131_0
          try clear hfz131_1
          try clear hfz131_2
          try clear hfz140_0
          try clear hfz140_1
          try clear hfz140_2
          try clear hfz147_0
          try clear hfz147_1
          try clear hfz147_2
          try clear hfz154_0
          try clear hfz154_1
          try clear hfz154_2
          try clear hfz154_3
          try clear hfz154_4
          try clear hfz154_5
          try clear hfz154_6
          try clear hfz154_7
          try clear hfz159_0
          try clear hfz159_1
          try clear hfz159_2
          try clear hfz159_3
          try clear hfz159_4
          try clear hfz159_5
          try clear hfz159_6
          try clear hfz159_7
          try clear hfz173_0
          try clear hfz173_1
          try clear hfz173_2
          try clear hfz182_0
          try clear hfz182_1
          try clear hfz182_2
          try clear hfz191_0
          try clear hfz191_1
          try clear hfz191_2
          try clear hfz198_0
          try clear hfz198_1
          try clear hfz198_2
          try clear hfz205_0
          try clear hfz205_1
          try clear hfz205_2
          try clear hfz205_3
          try clear hfz205_4
          try clear hfz205_5
          try clear hfz205_6
          try clear hfz205_7
          try clear hfz210_0
          try clear hfz210_1
          try clear hfz210_2
          try clear hfz210_3
          try clear hfz210_4
          try clear hfz210_5
          try clear hfz210_6
          try clear hfz210_7
          try clear hfz214_0
          try clear hfz214_1
          try clear hfz214_2
          try clear hfz217_0
          try clear hfz217_1
          try clear hfz217_2
          try clear hfz21_0
          try clear hfz21_1
          try clear hfz21_2
          try clear hfz230_0
          try clear hfz230_1
          try clear hfz230_2
          try clear hfz239_0
          try clear hfz239_1
          try clear hfz239_2
          try clear hfz248_0
          try clear hfz248_1
          try clear hfz248_2
          try clear hfz24_0
          try clear hfz24_1
          try clear hfz24_2
          try clear hfz255_0
          try clear hfz255_1
          try clear hfz255_2
          try clear hfz262_0
          try clear hfz262_1
          try clear hfz262_2
          try clear hfz262_3
          try clear hfz262_4
          try clear hfz262_5
          try clear hfz262_6
          try clear hfz262_7
          try clear hfz267_0
          try clear hfz267_1
          try clear hfz267_2
          try clear hfz267_3
          try clear hfz267_4
          try clear hfz267_5
          try clear hfz267_6
          try clear hfz267_7
          try clear hfz271_0
          try clear hfz271_1
          try clear hfz271_2
          try clear hfz274_0
          try clear hfz274_1
          try clear hfz274_2
          try clear hfz285_0
          try clear hfz285_1
          try clear hfz285_2
          try clear hfz294_0
          try clear hfz294_1
          try clear hfz294_2
          try clear hfz29_0
          try clear hfz29_1
          try clear hfz29_2
          try clear hfz303_0
          try clear hfz303_1
          try clear hfz303_2
          try clear hfz310_0
          try clear hfz310_1
          try clear hfz310_2
          try clear hfz317_0
          try clear hfz317_1
          try clear hfz317_2
          try clear hfz317_3
          try clear hfz317_4
          try clear hfz317_5
          try clear hfz317_6
          try clear hfz317_7
          try clear hfz322_0
          try clear hfz322_1
          try clear hfz322_2
          try clear hfz322_3
          try clear hfz322_4
          try clear hfz322_5
          try clear hfz322_6
          try clear hfz322_7
          try clear hfz332_0
          try clear hfz332_1
          try clear hfz332_2
          try clear hfz341_0
          try clear hfz341_1
          try clear hfz341_2
          try clear hfz350_0
          try clear hfz350_1
          try clear hfz350_2
          try clear hfz357_0
          try clear hfz357_1
          try clear hfz357_2
          try clear hfz368_0
          try clear hfz368_1
          try clear hfz368_2
          try clear hfz36_0
          try clear hfz36_1
          try clear hfz36_2
          try clear hfz377_0
          try clear hfz377_1
          try clear hfz377_2
          try clear hfz388_0
          try clear hfz388_1
          try clear hfz388_2
          try clear hfz397_0
          try clear hfz397_1
          try clear hfz397_2
          try clear hfz39_0
          try clear hfz39_1
          try clear hfz39_2
          try clear hfz48_0
          try clear hfz48_1
          try clear hfz48_2
          try clear hfz55_0
          try clear hfz55_1
          try clear hfz55_2
          try clear hfz55_3
          try clear hfz55_4
          try clear hfz55_5
          try clear hfz55_6
          try clear hfz55_7
          try clear hfz57_0
          try clear hfz57_1
          try clear hfz57_2
          try clear hfz68_0
          try clear hfz68_1
          try clear hfz68_2
          try clear hfz77_0
          try clear hfz77_1
          try clear hfz77_2
          try clear hfz77_3
          try clear hfz77_4
          try clear hfz77_5
          try clear hfz77_6
          try clear hfz77_7
          try clear hfz79_0
          try clear hfz79_1
          try clear hfz79_2
          try clear hfz90_0
          try clear hfz90_1
          try clear hfz90_2
          try clear hfz93_0
          try clear hfz93_1
          try clear hfz93_2
          try clear hfz9_0
          try clear hfz9_1
          try clear hfz9_2
          try clear p2
          obtain ⟨kq, x101_19, rfl, HA, HJ19, HO_396001, HO_403001, HO_418001, HO_434001, HO_444001, HO_453001, BK384, BK388, BK395, BK402, BK417, BK418, BK433, BK434, BK443, BK452, HB⟩ := hcut
          cases kq with
          | zero => exact absurd HA.out (by simp [hopperlaw14_FeedTells.j1])
          | succ kj19 =>
            have H := HA.out
            clear HA
            simp only [hopperlaw14_FeedTells.j1] at H
            by_cases c399 : x101_19 = true
            · subst c399
              have H1 : (some false) = some true := by rw [if_pos rfl] at H; exact H
              clear H
              have H := H1
              clear H1
              exact absurd H (by simp)
            · replace c399 := Bool.eq_false_iff.mpr c399
              subst c399
              have H1 : ((feed_Tell.f kj19 a0_0 l0_1 a0_2 l1).bind fun bt457 => ((hopperref14_Tell.f kj19 a0_0 l0_1 a0_2 l1).bind fun bt462 => ((hopperref14_Same.f kj19 bt457.1 bt457.2.1 bt457.2.2 bt462.1 bt462.2.1 bt462.2.2).bind fun t467 => (if t467 = true then ((feed_Covers.f kj19 l0_1 l1).bind fun t468 => ((hopperref14_Covers.f kj19 l0_1 l1).bind fun t469 => (if (t468 == t469) = true then ((hopperlaw14_live.f kj19).bind fun t470 => (some t470)) else (some false)))) else (some false))))) = some true := by rw [if_neg (show ¬ (false = true) by decide)] at H; exact H
              clear H
              have H := H1
              clear H1
              replace H := Option.bind_eq_some_iff.mp H
              obtain ⟨⟨t457, t458, t461⟩, A4000, H⟩ := H
              try dsimp only at H
              have A400 := Aside0.mk A4000
              clear A4000
              replace H := Option.bind_eq_some_iff.mp H
              obtain ⟨⟨t462, t463, t466⟩, A4010, H⟩ := H
              try dsimp only at H
              have A401 := Aside0.mk A4010
              clear A4010
              replace H := Option.bind_eq_some_iff.mp H
              obtain ⟨t467, A4020, H⟩ := H
              try dsimp only at H
              have A402 := Aside0.mk A4020
              clear A4020
              by_cases c403 : t467 = true
              rotate_left
              · replace c403 := Bool.eq_false_iff.mpr c403
                subst c403
                have H1 : (some false) = some true := by rw [if_neg (show ¬ (false = true) by decide)] at H; exact H
                clear H
                have H := H1
                clear H1
                exact absurd H (by simp)
              subst c403
              have H1 : ((feed_Covers.f kj19 l0_1 l1).bind fun t468 => ((hopperref14_Covers.f kj19 l0_1 l1).bind fun t469 => (if (t468 == t469) = true then ((hopperlaw14_live.f kj19).bind fun t470 => (some t470)) else (some false)))) = some true := by rw [if_pos rfl] at H; exact H
              clear H
              have H := H1
              clear H1
              replace H := Option.bind_eq_some_iff.mp H
              obtain ⟨t468, A4040, H⟩ := H
              try dsimp only at H
              have A404 := Aside0.mk A4040
              clear A4040
              replace H := Option.bind_eq_some_iff.mp H
              obtain ⟨t469, A4050, H⟩ := H
              try dsimp only at H
              have A405 := Aside0.mk A4050
              clear A4050
              by_cases c406 : (t468 == t469) = true
              rotate_left
              · rw [if_neg c406] at H
                have c406b0 : (t468 == t469) = false := by simpa using c406
                (try (have c406b1 : decide (t468 = t469) = false := by simpa using c406))
                (try (have c406b2 : (t468 == t469) = false := by simpa using c406))
                (try (have c406b3 : ¬ (t468 = t469) := by simpa using c406))
                clear c406
                exact absurd H (by simp)
              rw [if_pos c406] at H
              have c406b0 : (t468 == t469) = true := c406
              (try (have c406b1 : decide (t468 = t469) = true := by simpa using c406))
              (try (have c406b2 : (t468 == t469) = true := by simpa using c406))
              clear c406
              replace H := Option.bind_eq_some_iff.mp H
              obtain ⟨t470, A4070, H⟩ := H
              try dsimp only at H
              have A407 := Aside0.mk A4070
              clear A4070
              have HR_ := Aside0.mk (Option.some.inj H)
              clear H
              try go_wp2
              have n0_ := Aside0.mk (Kd.R_drew HO_396001.out)
              have n1_ := Aside0.mk (Kd.R_drew HO_403001.out)
              have n2_ := Aside0.mk (Kd.V_drew HO_418001.out)
              have n3_ := Aside0.mk (Kd.V_drew HO_434001.out)
              have n4_ := Aside0.mk (Kd.V_drew HO_444001.out)
              have n5_ := Aside0.mk (Kd.V_drew HO_453001.out)
              have n6_ := Aside0.mk (blk_drew BK384.out)
              have n7_ := Aside0.mk (blk_drew BK388.out)
              have n8_ := Aside0.mk (blk_drew BK395.out)
              have n9_ := Aside0.mk (blk_drew BK402.out)
              have n10_ := Aside0.mk (blk_drew BK417.out)
              have n11_ := Aside0.mk (blk_drew BK418.out)
              have n12_ := Aside0.mk (blk_drew BK433.out)
              have n13_ := Aside0.mk (blk_drew BK434.out)
              have n14_ := Aside0.mk (blk_drew BK443.out)
              have n15_ := Aside0.mk (blk_drew BK452.out)
              have n16_ := Aside0.mk (below_drew1 HB.out)
              clear HO_396001
              clear HO_403001
              clear HO_418001
              clear HO_434001
              clear HO_444001
              clear HO_453001
              clear BK384
              clear BK388
              clear BK395
              clear BK402
              clear BK417
              clear BK418
              clear BK433
              clear BK434
              clear BK443
              clear BK452
              clear HB
              have HO_396001 := n0_
              have HO_403001 := n1_
              have HO_418001 := n2_
              have HO_434001 := n3_
              have HO_444001 := n4_
              have HO_453001 := n5_
              have BK384 := n6_
              have BK388 := n7_
              have BK395 := n8_
              have BK402 := n9_
              have BK417 := n10_
              have BK418 := n11_
              have BK433 := n12_
              have BK434 := n13_
              have BK443 := n14_
              have BK452 := n15_
              have HB := n16_
              clear n0_ n1_ n2_ n3_ n4_ n5_ n6_ n7_ n8_ n9_ n10_ n11_ n12_ n13_ n14_ n15_ n16_
              refine start_ (n := 22) (S := fun w' => w'.cell? ⟨gb388, 0, none⟩ = some (.int .i64 a0_0) ∧ w'.cell? ⟨gb388, 1, none⟩ = some (.slice A0_1 l0_1.length c0_1) ∧ w'.cell? ⟨gb388, 2, none⟩ = some (.int .i64 a0_2) ∧ w'.cell? ⟨gb384, 0, none⟩ = some (.int .i64 a0_0) ∧ w'.cell? ⟨gb384, 1, none⟩ = some (.slice A0_1 l0_1.length c0_1) ∧ w'.cell? ⟨gb384, 2, none⟩ = some (.int .i64 a0_2)) (ds := []) (tf 0 22) (by kernel_rfl) rfl rfl ⟨(blk_cell BK388.out 0).trans rfl, (blk_cell BK388.out 1).trans rfl, (blk_cell BK388.out 2).trans rfl, (blk_cell BK384.out 0).trans rfl, (blk_cell BK384.out 1).trans rfl, (blk_cell BK384.out 2).trans rfl⟩ (fun hHeld => ?_); refine with_tabW hopperlaw14_FeedTells.tab12 hopperlaw14_FeedTells.bits12 (fun HT_ HW_ => ?_)
              generalize wc.drew = w408 at HO_396001 HO_403001 HO_418001 HO_434001 HO_444001 HO_453001 BK384 BK388 BK395 BK402 BK417 BK418 BK433 BK434 BK443 BK452 HB hHeld ⊢
              refine pure_ (i := 1) (N := some 103) (v := ?_) (a' := ?_) #[false, true, false, false, false, false, false, false, false, false, false, false, false, false, false, false, false, false, false, false, false, false] rfl rfl (any_of HT_.out (by kernel_rfl)) (fun _ _ _ h => h) (Or.inl ⟨by rfl, ?_⟩) ?_ ?_
              rotate_left
              · intro w'
                go_simp
                with_reducible rfl
              rotate_left
              · simp only [Act.put, PU, i64_w, i32_w]
                rfl
              refine pure_ (i := 4) (N := some 106) (v := ?_) (a' := ?_) #[false, true, false, false, true, false, false, false, false, false, false, false, false, false, false, false, false, false, false, false, false, false] rfl rfl (any_of HT_.out (by kernel_rfl)) (fun _ _ _ h => h) (Or.inl ⟨by rfl, ?_⟩) ?_ ?_
              rotate_left
              · intro w'
                go_simp
                with_reducible rfl
              rotate_left
              · simp only [Act.put, PU, i64_w, i32_w]
                rfl
              refine take_ (i := 0) (N := some 102) (v := ?_) (a' := ?_) #[true, true, false, false, true, false, false, false, false, false, false, false, false, false, false, false, false, false, false, false, false, false] rfl rfl (take_ofW HT_.out HW_.out (by kernel_rfl)) (fun _ _ _ h => h) (Or.inl ⟨by rfl, ?_⟩) hHeld ?_ ?_
              rotate_left
              · rintro w' ⟨s0, s1, s2, s3, s4, s5⟩
                go_simp
                with_reducible rfl
              rotate_left
              · simp only [Act.put, PU, i64_w, i32_w]
                rfl
              refine take_ (i := 3) (N := some 105) (v := ?_) (a' := ?_) #[true, true, false, true, true, false, false, false, false, false, false, false, false, false, false, false, false, false, false, false, false, false] rfl rfl (take_ofW HT_.out HW_.out (by kernel_rfl)) (fun _ _ _ h => h) (Or.inl ⟨by rfl, ?_⟩) hHeld ?_ ?_
              rotate_left
              · rintro w' ⟨s0, s1, s2, s3, s4, s5⟩
                go_simp
                with_reducible rfl
              rotate_left
              · simp only [Act.put, PU, i64_w, i32_w]
                rfl
              refine one_ (i := 2) (N := some 104) (tf 5 22) rfl rfl (one_of HT_.out (by kernel_rfl)) (by decide) (fun K hK => ?_)
              refine goes_ Try.func19 (by kernel_rfl) rfl #[.agg #[.int .i64 a0_0, .slice A0_1 l0_1.length c0_1, .int .i64 a0_2], .slice A1 l1.length c1] (by rfl) rfl rfl (by (try simp only [List.map_toArray, List.map_cons, List.map_nil]); first | done | rfl | (simp only [List.length_drop, List.length_take]; rfl)) ?_
              with_reducible refine (feed_Tell.calls kj19 a0_0 _ _ l0_1 a0_2 _ _ l1 t457 t458 t461 _ ?side1 ?side2 ?side3 ?side4 A400.out).mono ?_
              (case side1 => exact Kd.CA (Kd.C_below HR0_1.out HB.out))
              (case side2 => exact HC0_1.out)
              (case side3 => exact Kd.CA (Kd.C_below HR1.out HB.out))
              (case side4 => exact HC1.out)
              rintro e w409 ⟨v459, rfl, ho0, hb⟩
              refine ⟨_, rfl, ?_⟩
              have n0_ := Aside0.mk (Kd.R_elder' (Kd.RA HO_396001.out) (Kd.R_base ho0) hb)
              have n1_ := Aside0.mk (Kd.R_elder' (Kd.RA HO_403001.out) (Kd.R_base ho0) hb)
              have n2_ := Aside0.mk (Kd.V_elder' (Kd.VA HO_418001.out) (Kd.R_base ho0) hb)
              have n3_ := Aside0.mk (Kd.V_elder' (Kd.VA HO_434001.out) (Kd.R_base ho0) hb)
              have n4_ := Aside0.mk (Kd.V_elder' (Kd.VA HO_444001.out) (Kd.R_base ho0) hb)
              have n5_ := Aside0.mk (Kd.V_elder' (Kd.VA HO_453001.out) (Kd.R_base ho0) hb)
              have n6_ := Aside0.mk (Kd.R_lower (Kd.R_newB (Kd.R_newB (Kd.R_new' (Kd.R_new' ho0 (Kd.R_lt (Kd.RA HO_396001.out))) (Kd.R_lt (Kd.RA HO_403001.out))) (g := gb418) (o := .cells #[.int .i64 t408, .int .i64 t409, .int .i64 t410, .int .i64 t411, .int .i64 t412, .int .i64 t413, .string t414, .int .i64 t415] 36 (0, 0)) (BA BK418.out)) (g := gb434) (o := .cells #[.int .i64 t424, .int .i64 t425, .int .i64 t426, .int .i64 t427, .int .i64 t428, .int .i64 t429, .string t430, .int .i64 t431] 36 (0, 0)) (BA BK434.out)) (below_size (LG HB.out (G1 GE384.out (G1 GE388.out (G1 GE395.out (G1 GE402.out (G1 GE417.out (G1 GE418.out (G1 GE433.out (G1 GE434.out (G1 GE443.out (G1 GE452.out G0)))))))))))))
              have n7_ := Aside0.mk (blk_below (BA BK384.out) hb)
              have n8_ := Aside0.mk (blk_below (BA BK388.out) hb)
              have n9_ := Aside0.mk (blk_below (BA BK395.out) hb)
              have n10_ := Aside0.mk (blk_below (BA BK402.out) hb)
              have n11_ := Aside0.mk (blk_below (BA BK417.out) hb)
              have n12_ := Aside0.mk (blk_below (BA BK418.out) hb)
              have n13_ := Aside0.mk (blk_below (BA BK433.out) hb)
              have n14_ := Aside0.mk (blk_below (BA BK434.out) hb)
              have n15_ := Aside0.mk (blk_below (BA BK443.out) hb)
              have n16_ := Aside0.mk (blk_below (BA BK452.out) hb)
              have n17_ := Aside0.mk (below_step (LG HB.out (G1 GE384.out (G1 GE388.out (G1 GE395.out (G1 GE402.out (G1 GE417.out (G1 GE418.out (G1 GE433.out (G1 GE434.out (G1 GE443.out (G1 GE452.out G0))))))))))) hb)
              clear HO_396001
              clear HO_403001
              clear HO_418001
              clear HO_434001
              clear HO_444001
              clear HO_453001
              clear BK384
              clear BK388
              clear BK395
              clear BK402
              clear BK417
              clear BK418
              clear BK433
              clear BK434
              clear BK443
              clear BK452
              clear HB
              have HO_396001 := n0_
              have HO_403001 := n1_
              have HO_418001 := n2_
              have HO_434001 := n3_
              have HO_444001 := n4_
              have HO_453001 := n5_
              have HO460 := n6_
              have BK384 := n7_
              have BK388 := n8_
              have BK395 := n9_
              have BK402 := n10_
              have BK417 := n11_
              have BK418 := n12_
              have BK433 := n13_
              have BK434 := n14_
              have BK443 := n15_
              have BK452 := n16_
              have HB := n17_
              clear n0_ n1_ n2_ n3_ n4_ n5_ n6_ n7_ n8_ n9_ n10_ n11_ n12_ n13_ n14_ n15_ n16_ n17_
              (try clear hb)
              (try clear hb2)
              (try clear hk)
              (try clear hi)
              (try clear ho0)
              refine hK.out _ _ ⟨(blk_cell BK388.out 0).trans rfl, (blk_cell BK388.out 1).trans rfl, (blk_cell BK388.out 2).trans rfl, (blk_cell BK384.out 0).trans rfl, (blk_cell BK384.out 1).trans rfl, (blk_cell BK384.out 2).trans rfl⟩ (fun hHeld => ?_)
              clear hK K
              refine norm_ (a' := ?_) ?_ ?_
              rotate_left
              · show Act.put _ (some 104) _ = _
                simp only [Act.put, PU, i64_w, i32_w]
                rfl
              refine one_ (i := 5) (N := some 107) (tf 6 22) rfl rfl (one_of HT_.out (by kernel_rfl)) (by decide) (fun K hK => ?_)
              refine goes_ Try.func20 (by kernel_rfl) rfl #[.agg #[.int .i64 a0_0, .slice A0_1 l0_1.length c0_1, .int .i64 a0_2], .slice A1 l1.length c1] (by rfl) rfl rfl (by (try simp only [List.map_toArray, List.map_cons, List.map_nil]); first | done | rfl | (simp only [List.length_drop, List.length_take]; rfl)) ?_
              with_reducible refine (hopperref14_Tell.calls kj19 a0_0 (fun k_ => k_ < w.heap.size) _ _ l0_1 a0_2 _ _ l1 t462 t463 t466 _ ?side1 ?side2 ?side3 A401.out).mono ?_
              (case side1 => exact Kd.V_mk HC0_1.out (Kd.F_below (Kd.C_F k36_heap HR0_1.out) (LG HB.out (G1 GE384.out (G1 GE388.out (G1 GE395.out (G1 GE402.out (G1 GE417.out (G1 GE418.out (G1 GE433.out (G1 GE434.out (G1 GE443.out (G1 GE452.out G0)))))))))))))
              (case side2 => exact Kd.CA (Kd.C_below HR1.out HB.out))
              (case side3 => exact HC1.out)
              rintro e w410 ⟨v464, rfl, ho0, hb⟩
              refine ⟨_, rfl, ?_⟩
              have n0_ := Aside0.mk (Kd.R_below (Kd.RA HO_396001.out) hb)
              have n1_ := Aside0.mk (Kd.R_below (Kd.RA HO_403001.out) hb)
              have n2_ := Aside0.mk (Kd.V_below (Kd.VA HO_418001.out) hb)
              have n3_ := Aside0.mk (Kd.V_below (Kd.VA HO_434001.out) hb)
              have n4_ := Aside0.mk (Kd.V_below (Kd.VA HO_444001.out) hb)
              have n5_ := Aside0.mk (Kd.V_below (Kd.VA HO_453001.out) hb)
              have n6_ := Aside0.mk (Kd.R_below (Kd.RA HO460.out) hb)
              have n7_ := Aside0.mk (Kd.V_lower (Kd.V_mono (ok' := fun k_ => some k_ ≠ (.slice Ao30 t390.length co30 : Value).ownBlock ∧ some k_ ≠ (.slice Ao37 t397.length co37 : Value).ownBlock ∧ some k_ ≠ (v459 : Value).ownBlock ∧ k_ ≠ gb384 ∧ k_ ≠ gb388 ∧ k_ ≠ gb395 ∧ k_ ≠ gb402 ∧ k_ ≠ gb417 ∧ k_ ≠ gb418 ∧ k_ ≠ gb433 ∧ k_ ≠ gb434 ∧ k_ ≠ gb443 ∧ k_ ≠ gb452) ho0 (fun k_ hk_ => ⟨Or.elim hk_ (fun hs_ => fun e_ => Nat.not_le.2 hs_ (Kd.R_base HO_396001.out k_ e_.symm)) (fun hn_ => (Kd.fresh' (Kd.R_lt (Kd.RA HO_396001.out)) k_ hn_)), Or.elim hk_ (fun hs_ => fun e_ => Nat.not_le.2 hs_ (Kd.R_base HO_403001.out k_ e_.symm)) (fun hn_ => (Kd.fresh' (Kd.R_lt (Kd.RA HO_403001.out)) k_ hn_)), Or.elim hk_ (fun hs_ => fun e_ => Nat.not_le.2 hs_ (Kd.R_base HO460.out k_ e_.symm)) (fun hn_ => (Kd.fresh' (Kd.R_lt (Kd.RA HO460.out)) k_ hn_)), Or.elim hk_ (fun hs_ => fun e_ => Nat.not_le.2 hs_ (by rw [e_]; exact GW384.out)) (fun hn_ => (Kd.freshB (g := gb384) (o := .cells #[.int .i64 a0_0, .slice A0_1 l0_1.length c0_1, .int .i64 a0_2] 24 (0, 0)) (BA BK384.out) k_ hn_)), Or.elim hk_ (fun hs_ => fun e_ => Nat.not_le.2 hs_ (by rw [e_]; exact GW388.out)) (fun hn_ => (Kd.freshB (g := gb388) (o := .cells #[.int .i64 a0_0, .slice A0_1 l0_1.length c0_1, .int .i64 a0_2] 27 (0, 0)) (BA BK388.out) k_ hn_)), Or.elim hk_ (fun hs_ => fun e_ => Nat.not_le.2 hs_ (by rw [e_]; exact GW395.out)) (fun hn_ => (Kd.freshB (g := gb395) (o := .cells #[.int .i64 t389, .slice Ao30 t390.length co30, .int .i64 t393] 27 (0, 0)) (BA BK395.out) k_ hn_)), Or.elim hk_ (fun hs_ => fun e_ => Nat.not_le.2 hs_ (by rw [e_]; exact GW402.out)) (fun hn_ => (Kd.freshB (g := gb402) (o := .cells #[.int .i64 t396, .slice Ao37 t397.length co37, .int .i64 t400] 24 (0, 0)) (BA BK402.out) k_ hn_)), Or.elim hk_ (fun hs_ => fun e_ => Nat.not_le.2 hs_ (by rw [e_]; exact GW417.out)) (fun hn_ => (Kd.freshB (g := gb417) (o := .cells #[.int .i64 t403, .slice Ao49 t404.length co49, .int .i64 t407] 27 (0, 0)) (BA BK417.out) k_ hn_)), Or.elim hk_ (fun hs_ => fun e_ => Nat.not_le.2 hs_ (by rw [e_]; exact GW418.out)) (fun hn_ => (Kd.freshB (g := gb418) (o := .cells #[.int .i64 t408, .int .i64 t409, .int .i64 t410, .int .i64 t411, .int .i64 t412, .int .i64 t413, .string t414, .int .i64 t415] 36 (0, 0)) (BA BK418.out) k_ hn_)), Or.elim hk_ (fun hs_ => fun e_ => Nat.not_le.2 hs_ (by rw [e_]; exact GW433.out)) (fun hn_ => (Kd.freshB (g := gb433) (o := .cells #[.int .i64 t419, .slice Ao69 t420.length co69, .int .i64 t423] 24 (0, 0)) (BA BK433.out) k_ hn_)), Or.elim hk_ (fun hs_ => fun e_ => Nat.not_le.2 hs_ (by rw [e_]; exact GW434.out)) (fun hn_ => (Kd.freshB (g := gb434) (o := .cells #[.int .i64 t424, .int .i64 t425, .int .i64 t426, .int .i64 t427, .int .i64 t428, .int .i64 t429, .string t430, .int .i64 t431] 36 (0, 0)) (BA BK434.out) k_ hn_)), Or.elim hk_ (fun hs_ => fun e_ => Nat.not_le.2 hs_ (by rw [e_]; exact GW443.out)) (fun hn_ => (Kd.freshB (g := gb443) (o := .cells #[.int .i64 t435, .slice Ao91 t436.length co91, .int .i64 t439] 27 (0, 0)) (BA BK443.out) k_ hn_)), Or.elim hk_ (fun hs_ => fun e_ => Nat.not_le.2 hs_ (by rw [e_]; exact GW452.out)) (fun hn_ => (Kd.freshB (g := gb452) (o := .cells #[.int .i64 t444, .slice Ao106 t445.length co106, .int .i64 t448] 24 (0, 0)) (BA BK452.out) k_ hn_))⟩)) (below_size (LG HB.out (G1 GE384.out (G1 GE388.out (G1 GE395.out (G1 GE402.out (G1 GE417.out (G1 GE418.out (G1 GE433.out (G1 GE434.out (G1 GE443.out (G1 GE452.out G0)))))))))))))
              have n8_ := Aside0.mk (blk_below (BA BK384.out) hb)
              have n9_ := Aside0.mk (blk_below (BA BK388.out) hb)
              have n10_ := Aside0.mk (blk_below (BA BK395.out) hb)
              have n11_ := Aside0.mk (blk_below (BA BK402.out) hb)
              have n12_ := Aside0.mk (blk_below (BA BK417.out) hb)
              have n13_ := Aside0.mk (blk_below (BA BK418.out) hb)
              have n14_ := Aside0.mk (blk_below (BA BK433.out) hb)
              have n15_ := Aside0.mk (blk_below (BA BK434.out) hb)
              have n16_ := Aside0.mk (blk_below (BA BK443.out) hb)
              have n17_ := Aside0.mk (blk_below (BA BK452.out) hb)
              have n18_ := Aside0.mk (below_step (LG HB.out (G1 GE384.out (G1 GE388.out (G1 GE395.out (G1 GE402.out (G1 GE417.out (G1 GE418.out (G1 GE433.out (G1 GE434.out (G1 GE443.out (G1 GE452.out G0))))))))))) hb)
              clear HO_396001
              clear HO_403001
              clear HO_418001
              clear HO_434001
              clear HO_444001
              clear HO_453001
              clear HO460
              clear BK384
              clear BK388
              clear BK395
              clear BK402
              clear BK417
              clear BK418
              clear BK433
              clear BK434
              clear BK443
              clear BK452
              clear HB
              have HO_396001 := n0_
              have HO_403001 := n1_
              have HO_418001 := n2_
              have HO_434001 := n3_
              have HO_444001 := n4_
              have HO_453001 := n5_
              have HO460 := n6_
              have HO465 := n7_
              have BK384 := n8_
              have BK388 := n9_
              have BK395 := n10_
              have BK402 := n11_
              have BK417 := n12_
              have BK418 := n13_
              have BK433 := n14_
              have BK434 := n15_
              have BK443 := n16_
              have BK452 := n17_
              have HB := n18_
              clear n0_ n1_ n2_ n3_ n4_ n5_ n6_ n7_ n8_ n9_ n10_ n11_ n12_ n13_ n14_ n15_ n16_ n17_ n18_
              (try clear hb)
              (try clear hb2)
              (try clear hk)
              (try clear hi)
              (try clear ho0)
              obtain ⟨Ao411, co411, eo411⟩ := Kd.R_slice HO460.out
              (first | subst eo411 | (injection eo411 with f1_ f2_ f3_; have f4_ := f1_.symm; have f5_ := f3_.symm; clear f1_ f2_ f3_; subst f4_; subst f5_))
              obtain ⟨Ao412, co412, eo412⟩ := Kd.V_slice HO465.out
              (first | subst eo412 | (injection eo412 with f1_ f2_ f3_; have f4_ := f1_.symm; have f5_ := f3_.symm; clear f1_ f2_ f3_; subst f4_; subst f5_))
              refine hK.out _ _ ⟨(blk_cell BK388.out 0).trans rfl, (blk_cell BK388.out 1).trans rfl, (blk_cell BK388.out 2).trans rfl, (blk_cell BK384.out 0).trans rfl, (blk_cell BK384.out 1).trans rfl, (blk_cell BK384.out 2).trans rfl⟩ (fun hHeld => ?_)
              clear hK K
              refine norm_ (a' := ?_) ?_ ?_
              rotate_left
              · show Act.put _ (some 107) _ = _
                simp only [Act.put, PU, i64_w, i32_w]
                rfl
              refine one_ (i := 6) (N := some 108) (tf 7 22) rfl rfl (one_of HT_.out (by kernel_rfl)) (by decide) (fun K hK => ?_)
              refine goes_ Try.func17 (by kernel_rfl) rfl #[.agg #[.int .i64 t457, .slice Ao411 t458.length co411, .int .i64 t461], .agg #[.int .i64 t462, .slice Ao412 t463.length co412, .int .i64 t466]] (by rfl) rfl rfl (by (try simp only [List.map_toArray, List.map_cons, List.map_nil]); first | done | rfl | (simp only [List.length_drop, List.length_take]; rfl)) ?_
              with_reducible refine (hopperref14_Same.calls kj19 t457 _ _ t458 t461 t462 _ _ t463 t466 true _ ?side1 ?side2 ?side3 ?side4 A402.out).mono ?_
              (case side1 => exact Kd.CA (Kd.R_reads' HO460.out).2.2)
              (case side2 => exact (Kd.R_reads' HO460.out).2.1)
              (case side3 => exact Kd.CA (Kd.V_reads' HO465.out).2.2)
              (case side4 => exact (Kd.V_reads' HO465.out).2.1)
              rintro e w413 ⟨rfl, hb⟩
              refine ⟨_, rfl, ?_⟩
              have n0_ := Aside0.mk (Kd.R_below (Kd.RA HO_396001.out) hb)
              have n1_ := Aside0.mk (Kd.R_below (Kd.RA HO_403001.out) hb)
              have n2_ := Aside0.mk (Kd.V_below (Kd.VA HO_418001.out) hb)
              have n3_ := Aside0.mk (Kd.V_below (Kd.VA HO_434001.out) hb)
              have n4_ := Aside0.mk (Kd.V_below (Kd.VA HO_444001.out) hb)
              have n5_ := Aside0.mk (Kd.V_below (Kd.VA HO_453001.out) hb)
              have n6_ := Aside0.mk (Kd.R_below (Kd.RA HO460.out) hb)
              have n7_ := Aside0.mk (Kd.V_below (Kd.VA HO465.out) hb)
              have n8_ := Aside0.mk (blk_below (BA BK384.out) hb)
              have n9_ := Aside0.mk (blk_below (BA BK388.out) hb)
              have n10_ := Aside0.mk (blk_below (BA BK395.out) hb)
              have n11_ := Aside0.mk (blk_below (BA BK402.out) hb)
              have n12_ := Aside0.mk (blk_below (BA BK417.out) hb)
              have n13_ := Aside0.mk (blk_below (BA BK418.out) hb)
              have n14_ := Aside0.mk (blk_below (BA BK433.out) hb)
              have n15_ := Aside0.mk (blk_below (BA BK434.out) hb)
              have n16_ := Aside0.mk (blk_below (BA BK443.out) hb)
              have n17_ := Aside0.mk (blk_below (BA BK452.out) hb)
              have n18_ := Aside0.mk (below_step (LG HB.out (G1 GE384.out (G1 GE388.out (G1 GE395.out (G1 GE402.out (G1 GE417.out (G1 GE418.out (G1 GE433.out (G1 GE434.out (G1 GE443.out (G1 GE452.out G0))))))))))) hb)
              clear HO_396001
              clear HO_403001
              clear HO_418001
              clear HO_434001
              clear HO_444001
              clear HO_453001
              clear HO460
              clear HO465
              clear BK384
              clear BK388
              clear BK395
              clear BK402
              clear BK417
              clear BK418
              clear BK433
              clear BK434
              clear BK443
              clear BK452
              clear HB
              have HO_396001 := n0_
              have HO_403001 := n1_
              have HO_418001 := n2_
              have HO_434001 := n3_
              have HO_444001 := n4_
              have HO_453001 := n5_
              have HO460 := n6_
              have HO465 := n7_
              have BK384 := n8_
              have BK388 := n9_
              have BK395 := n10_
              have BK402 := n11_
              have BK417 := n12_
              have BK418 := n13_
              have BK433 := n14_
              have BK434 := n15_
              have BK443 := n16_
              have BK452 := n17_
              have HB := n18_
              clear n0_ n1_ n2_ n3_ n4_ n5_ n6_ n7_ n8_ n9_ n10_ n11_ n12_ n13_ n14_ n15_ n16_ n17_ n18_
              (try clear hb)
              (try clear hb2)
              (try clear hk)
              (try clear hi)
              refine hK.out _ _ ⟨(blk_cell BK388.out 0).trans rfl, (blk_cell BK388.out 1).trans rfl, (blk_cell BK388.out 2).trans rfl, (blk_cell BK384.out 0).trans rfl, (blk_cell BK384.out 1).trans rfl, (blk_cell BK384.out 2).trans rfl⟩ (fun hHeld => ?_)
              clear hK K
              refine norm_ (a' := ?_) ?_ ?_
              rotate_left
              · show Act.put _ (some 108) _ = _
                simp only [Act.put, PU, i64_w, i32_w]
                rfl
              refine pure_ (i := 7) (N := some 109) (v := ?_) (a' := ?_) (tf 8 22) rfl rfl (any_of HT_.out (by kernel_rfl)) (fun _ _ _ h => h) (Or.inl ⟨by rfl, ?_⟩) ?_ ?_
              rotate_left
              · intro w'
                go_simp
                with_reducible rfl
              rotate_left
              · simp only [Act.put, PU, i64_w, i32_w]
                rfl
              refine pure_ (i := 8) (N := some 110) (v := ?_) (a' := ?_) (tf 9 22) rfl rfl (any_of HT_.out (by kernel_rfl)) (fun _ _ _ h => h) (Or.inl ⟨by rfl, ?_⟩) ?_ ?_
              rotate_left
              · intro w'
                go_simp
                with_reducible rfl
              rotate_left
              · simp only [Act.put, PU, i64_w, i32_w]
                rfl
              refine pure_ (i := 10) (N := some 112) (v := ?_) (a' := ?_) #[true, true, true, true, true, true, true, true, true, false, true, false, false, false, false, false, false, false, false, false, false, false] rfl rfl (any_of HT_.out (by kernel_rfl)) (fun _ _ _ h => h) (Or.inl ⟨by rfl, ?_⟩) ?_ ?_
              rotate_left
              · intro w'
                go_simp
                with_reducible rfl
              rotate_left
              · simp only [Act.put, PU, i64_w, i32_w]
                rfl
              refine pure_ (i := 12) (N := some 114) (v := ?_) (a' := ?_) #[true, true, true, true, true, true, true, true, true, false, true, false, true, false, false, false, false, false, false, false, false, false] rfl rfl (any_of HT_.out (by kernel_rfl)) (fun _ _ _ h => h) (Or.inl ⟨by rfl, ?_⟩) ?_ ?_
              rotate_left
              · intro w'
                go_simp
                with_reducible rfl
              rotate_left
              · simp only [Act.put, PU, i64_w, i32_w]
                rfl
              refine pure_ (i := 14) (N := some 116) (v := ?_) (a' := ?_) #[true, true, true, true, true, true, true, true, true, false, true, false, true, false, true, false, false, false, false, false, false, false] rfl rfl (any_of HT_.out (by kernel_rfl)) (fun _ _ _ h => h) (Or.inl ⟨by rfl, ?_⟩) ?_ ?_
              rotate_left
              · intro w'
                go_simp
                with_reducible rfl
              rotate_left
              · simp only [Act.put, PU, i64_w, i32_w]
                rfl
              refine take_ (i := 9) (N := some 111) (v := ?_) (a' := ?_) #[true, true, true, true, true, true, true, true, true, true, true, false, true, false, true, false, false, false, false, false, false, false] rfl rfl (take_ofW HT_.out HW_.out (by kernel_rfl)) (fun _ _ _ h => h) (Or.inl ⟨by rfl, ?_⟩) hHeld ?_ ?_
              rotate_left
              · rintro w' ⟨s0, s1, s2, s3, s4, s5⟩
                go_simp
                with_reducible rfl
              rotate_left
              · simp only [Act.put, PU, i64_w, i32_w]
                rfl
              refine take_ (i := 13) (N := some 115) (v := ?_) (a' := ?_) #[true, true, true, true, true, true, true, true, true, true, true, false, true, true, true, false, false, false, false, false, false, false] rfl rfl (take_ofW HT_.out HW_.out (by kernel_rfl)) (fun _ _ _ h => h) (Or.inl ⟨by rfl, ?_⟩) hHeld ?_ ?_
              rotate_left
              · rintro w' ⟨s0, s1, s2, s3, s4, s5⟩
                go_simp
                with_reducible rfl
              rotate_left
              · simp only [Act.put, PU, i64_w, i32_w]
                rfl
              refine one_ (i := 11) (N := some 113) (tf 15 22) rfl rfl (one_of HT_.out (by kernel_rfl)) (by decide) (fun K hK => ?_)
              refine goes_ Try.func21 (by kernel_rfl) rfl #[.slice A0_1 l0_1.length c0_1, .slice A1 l1.length c1] (by rfl) rfl rfl (by (try simp only [List.map_toArray, List.map_cons, List.map_nil]); first | done | rfl | (simp only [List.length_drop, List.length_take]; rfl)) ?_
              with_reducible refine (feed_Covers.calls kj19 _ _ l0_1 (fun k_ => k_ < w.heap.size) _ _ l1 t468 _ ?side1 ?side2 ?side3 A404.out).mono ?_
              (case side1 => exact Kd.CA (Kd.C_below HR0_1.out HB.out))
              (case side2 => exact HC0_1.out)
              (case side3 => exact Kd.V_mk HC1.out (Kd.F_below (Kd.C_F k36_heap HR1.out) (LG HB.out (G1 GE384.out (G1 GE388.out (G1 GE395.out (G1 GE402.out (G1 GE417.out (G1 GE418.out (G1 GE433.out (G1 GE434.out (G1 GE443.out (G1 GE452.out G0)))))))))))))
              rintro e w414 ⟨rfl, hb⟩
              refine ⟨_, rfl, ?_⟩
              have n0_ := Aside0.mk (Kd.R_below (Kd.RA HO_396001.out) hb)
              have n1_ := Aside0.mk (Kd.R_below (Kd.RA HO_403001.out) hb)
              have n2_ := Aside0.mk (Kd.V_below (Kd.VA HO_418001.out) hb)
              have n3_ := Aside0.mk (Kd.V_below (Kd.VA HO_434001.out) hb)
              have n4_ := Aside0.mk (Kd.V_below (Kd.VA HO_444001.out) hb)
              have n5_ := Aside0.mk (Kd.V_below (Kd.VA HO_453001.out) hb)
              have n6_ := Aside0.mk (Kd.R_below (Kd.RA HO460.out) hb)
              have n7_ := Aside0.mk (Kd.V_below (Kd.VA HO465.out) hb)
              have n8_ := Aside0.mk (blk_below (BA BK384.out) hb)
              have n9_ := Aside0.mk (blk_below (BA BK388.out) hb)
              have n10_ := Aside0.mk (blk_below (BA BK395.out) hb)
              have n11_ := Aside0.mk (blk_below (BA BK402.out) hb)
              have n12_ := Aside0.mk (blk_below (BA BK417.out) hb)
              have n13_ := Aside0.mk (blk_below (BA BK418.out) hb)
              have n14_ := Aside0.mk (blk_below (BA BK433.out) hb)
              have n15_ := Aside0.mk (blk_below (BA BK434.out) hb)
              have n16_ := Aside0.mk (blk_below (BA BK443.out) hb)
              have n17_ := Aside0.mk (blk_below (BA BK452.out) hb)
              have n18_ := Aside0.mk (below_step (LG HB.out (G1 GE384.out (G1 GE388.out (G1 GE395.out (G1 GE402.out (G1 GE417.out (G1 GE418.out (G1 GE433.out (G1 GE434.out (G1 GE443.out (G1 GE452.out G0))))))))))) hb)
              clear HO_396001
              clear HO_403001
              clear HO_418001
              clear HO_434001
              clear HO_444001
              clear HO_453001
              clear HO460
              clear HO465
              clear BK384
              clear BK388
              clear BK395
              clear BK402
              clear BK417
              clear BK418
              clear BK433
              clear BK434
              clear BK443
              clear BK452
              clear HB
              have HO_396001 := n0_
              have HO_403001 := n1_
              have HO_418001 := n2_
              have HO_434001 := n3_
              have HO_444001 := n4_
              have HO_453001 := n5_
              have HO460 := n6_
              have HO465 := n7_
              have BK384 := n8_
              have BK388 := n9_
              have BK395 := n10_
              have BK402 := n11_
              have BK417 := n12_
              have BK418 := n13_
              have BK433 := n14_
              have BK434 := n15_
              have BK443 := n16_
              have BK452 := n17_
              have HB := n18_
              clear n0_ n1_ n2_ n3_ n4_ n5_ n6_ n7_ n8_ n9_ n10_ n11_ n12_ n13_ n14_ n15_ n16_ n17_ n18_
              (try clear hb)
              (try clear hb2)
              (try clear hk)
              (try clear hi)
              refine hK.out _ _ ⟨(blk_cell BK388.out 0).trans rfl, (blk_cell BK388.out 1).trans rfl, (blk_cell BK388.out 2).trans rfl, (blk_cell BK384.out 0).trans rfl, (blk_cell BK384.out 1).trans rfl, (blk_cell BK384.out 2).trans rfl⟩ (fun hHeld => ?_)
              clear hK K
              refine norm_ (a' := ?_) ?_ ?_
              rotate_left
              · show Act.put _ (some 113) _ = _
                simp only [Act.put, PU, i64_w, i32_w]
                rfl
              refine one_ (i := 15) (N := some 117) (tf 16 22) rfl rfl (one_of HT_.out (by kernel_rfl)) (by decide) (fun K hK => ?_)
              refine goes_ Try.func22 (by kernel_rfl) rfl #[.slice A0_1 l0_1.length c0_1, .slice A1 l1.length c1] (by rfl) rfl rfl (by (try simp only [List.map_toArray, List.map_cons, List.map_nil]); first | done | rfl | (simp only [List.length_drop, List.length_take]; rfl)) ?_
              with_reducible refine (hopperref14_Covers.calls kj19 _ _ l0_1 _ _ l1 t469 _ ?side1 ?side2 ?side3 ?side4 A405.out).mono ?_
              (case side1 => exact Kd.CA (Kd.C_below HR0_1.out HB.out))
              (case side2 => exact HC0_1.out)
              (case side3 => exact Kd.CA (Kd.C_below HR1.out HB.out))
              (case side4 => exact HC1.out)
              rintro e w' ⟨rfl, ⟨nd, rfl⟩⟩
              refine ⟨_, rfl, ?_⟩
              refine hK.out _ _ ⟨(blk_cell BK388.out 0).trans rfl, (blk_cell BK388.out 1).trans rfl, (blk_cell BK388.out 2).trans rfl, (blk_cell BK384.out 0).trans rfl, (blk_cell BK384.out 1).trans rfl, (blk_cell BK384.out 2).trans rfl⟩ (fun hHeld => ?_)
              clear hK K
              refine norm_ (a' := ?_) ?_ ?_
              rotate_left
              · show Act.put _ (some 117) _ = _
                simp only [Act.put, PU, i64_w, i32_w]
                rfl
              refine pure_ (i := 16) (N := some 118) (v := ?_) (a' := ?_) (tf 17 22) rfl rfl (any_of HT_.out (by kernel_rfl)) (fun _ _ _ h => h) (Or.inl ⟨by rfl, ?_⟩) ?_ ?_
              rotate_left
              · intro w'
                go_simp
                with_reducible rfl
              rotate_left
              · simp only [Act.put, PU, i64_w, i32_w]
                rfl
              refine pure_ (i := 17) (N := some 119) (v := ?_) (a' := ?_) (tf 18 22) rfl rfl (any_of HT_.out (by kernel_rfl)) (fun _ _ _ h => h) (Or.inl ⟨by rfl, ?_⟩) ?_ ?_
              rotate_left
              · intro w'
                go_simp
                with_reducible rfl
              rotate_left
              · simp only [Act.put, PU, i64_w, i32_w]
                rfl
              refine pure_ (i := 18) (N := some 120) (v := ?_) (a' := ?_) (tf 19 22) rfl rfl (any_of HT_.out (by kernel_rfl)) (fun _ _ _ h => h) (Or.inl ⟨by rfl, ?_⟩) ?_ ?_
              rotate_left
              · intro w'
                go_simp
                with_reducible rfl
              rotate_left
              · simp only [Act.put, PU, i64_w, i32_w]
                rfl
              refine one_ (i := 19) (N := some 121) (tf 20 22) rfl rfl (one_of HT_.out (by kernel_rfl)) (by decide) (fun K hK => ?_)
              refine goes_ Try.func10 (by kernel_rfl) rfl #[] (by rfl) rfl rfl (by (try simp only [List.map_toArray, List.map_cons, List.map_nil]); first | done | rfl | (simp only [List.length_drop, List.length_take]; rfl)) ?_
              with_reducible refine (hopperlaw14_live.calls kj19  t470 _ A407.out).mono ?_
              rintro e w415 ⟨rfl, hb⟩
              refine ⟨_, rfl, ?_⟩
              have n0_ := Aside0.mk (Kd.R_below (Kd.RA HO_396001.out) hb)
              have n1_ := Aside0.mk (Kd.R_below (Kd.RA HO_403001.out) hb)
              have n2_ := Aside0.mk (Kd.V_below (Kd.VA HO_418001.out) hb)
              have n3_ := Aside0.mk (Kd.V_below (Kd.VA HO_434001.out) hb)
              have n4_ := Aside0.mk (Kd.V_below (Kd.VA HO_444001.out) hb)
              have n5_ := Aside0.mk (Kd.V_below (Kd.VA HO_453001.out) hb)
              have n6_ := Aside0.mk (Kd.R_below (Kd.RA HO460.out) hb)
              have n7_ := Aside0.mk (Kd.V_below (Kd.VA HO465.out) hb)
              have n8_ := Aside0.mk (blk_below (BA BK384.out) hb)
              have n9_ := Aside0.mk (blk_below (BA BK388.out) hb)
              have n10_ := Aside0.mk (blk_below (BA BK395.out) hb)
              have n11_ := Aside0.mk (blk_below (BA BK402.out) hb)
              have n12_ := Aside0.mk (blk_below (BA BK417.out) hb)
              have n13_ := Aside0.mk (blk_below (BA BK418.out) hb)
              have n14_ := Aside0.mk (blk_below (BA BK433.out) hb)
              have n15_ := Aside0.mk (blk_below (BA BK434.out) hb)
              have n16_ := Aside0.mk (blk_below (BA BK443.out) hb)
              have n17_ := Aside0.mk (blk_below (BA BK452.out) hb)
              have n18_ := Aside0.mk (below_step (LG HB.out (G1 GE384.out (G1 GE388.out (G1 GE395.out (G1 GE402.out (G1 GE417.out (G1 GE418.out (G1 GE433.out (G1 GE434.out (G1 GE443.out (G1 GE452.out G0))))))))))) hb)
              clear HO_396001
              clear HO_403001
              clear HO_418001
              clear HO_434001
              clear HO_444001
              clear HO_453001
              clear HO460
              clear HO465
              clear BK384
              clear BK388
              clear BK395
              clear BK402
              clear BK417
              clear BK418
              clear BK433
              clear BK434
              clear BK443
              clear BK452
              clear HB
              have HO_396001 := n0_
              have HO_403001 := n1_
              have HO_418001 := n2_
              have HO_434001 := n3_
              have HO_444001 := n4_
              have HO_453001 := n5_
              have HO460 := n6_
              have HO465 := n7_
              have BK384 := n8_
              have BK388 := n9_
              have BK395 := n10_
              have BK402 := n11_
              have BK417 := n12_
              have BK418 := n13_
              have BK433 := n14_
              have BK434 := n15_
              have BK443 := n16_
              have BK452 := n17_
              have HB := n18_
              clear n0_ n1_ n2_ n3_ n4_ n5_ n6_ n7_ n8_ n9_ n10_ n11_ n12_ n13_ n14_ n15_ n16_ n17_ n18_
              (try clear hb)
              (try clear hb2)
              (try clear hk)
              (try clear hi)
              refine hK.out _ _ ⟨(blk_cell BK388.out 0).trans rfl, (blk_cell BK388.out 1).trans rfl, (blk_cell BK388.out 2).trans rfl, (blk_cell BK384.out 0).trans rfl, (blk_cell BK384.out 1).trans rfl, (blk_cell BK384.out 2).trans rfl⟩ (fun hHeld => ?_)
              clear hK K
              refine norm_ (a' := ?_) ?_ ?_
              rotate_left
              · show Act.put _ (some 121) _ = _
                simp only [Act.put, PU, i64_w, i32_w]
                rfl
              refine pure_ (i := 20) (N := some 122) (v := ?_) (a' := ?_) (tf 21 22) rfl rfl (any_of HT_.out (by kernel_rfl)) (fun _ _ _ h => h) (Or.inl ⟨by rfl, ?_⟩) ?_ ?_
              rotate_left
              · intro w'
                go_simp
                with_reducible rfl
              rotate_left
              · simp only [Act.put, PU, i64_w, i32_w]
                rfl
              refine pure_ (i := 21) (N := some 6) (v := ?_) (a' := ?_) (tf 22 22) rfl rfl (any_of HT_.out (by kernel_rfl)) (fun _ _ _ h => h) (Or.inl ⟨by rfl, ?_⟩) ?_ ?_
              rotate_left
              · intro w'
                go_simp
                with_reducible rfl
              rotate_left
              · simp only [Act.put, PU, i64_w, i32_w]
                rfl
              refine done_ (done_of HT_.out (by kernel_rfl)) ?_
              try go_wp2
              go_ret
              exact ⟨by first | exact (congrArg (fun b => Ending.returned (.bool b)) HR_.out) | (rw [HR_.out]; done) | rfl | (rw [HR_.out]; rfl) | (simp [HR_.out]; done) | (simp [errW_none, errW_some] <;> rfl) | (simp [*, errW_none, errW_some] <;> rfl), LG HB.out (G1 GE384.out (G1 GE388.out (G1 GE395.out (G1 GE402.out (G1 GE417.out (G1 GE418.out (G1 GE433.out (G1 GE434.out (G1 GE443.out (G1 GE452.out G0))))))))))⟩

-- GIVEN hopperlaw14_FeedTells

end Go.Proofs.Ythmnedlaecekkaa.PFeedTells
