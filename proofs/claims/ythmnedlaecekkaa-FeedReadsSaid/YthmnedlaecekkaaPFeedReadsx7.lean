/- What the functions that the law reaches answer, each as a plain Lean function, with a proof that the call in memory comes to that answer. Written by wip/tools/given.py of this session out of the print.py of the kit, with stand-ins for some functions. -/
import Derived.Test.YthmnedlaecekkaaPFeedReadsx0
import Derived.Test.YthmnedlaecekkaaPFeedReadsx1
import Derived.Test.YthmnedlaecekkaaPFeedReadsx2
import Derived.Test.YthmnedlaecekkaaPFeedReadsx3
import Derived.Test.YthmnedlaecekkaaPFeedReadsx5
import Derived.Test.YthmnedlaecekkaaPFeedReadsx6
namespace Go.Proofs.Ythmnedlaecekkaa.PFeedReads
open Go.RowKit Go.Proofs.YthmnedlaecekkaaW.PrintWords Go.Proofs.YthmnedlaecekkaaW.PrintLast Go.Proofs.YthmnedlaecekkaaW.PrintMore
attribute [local go_sem] max2_int min2_int max_two min_two max_three min_three max_four min_four   -- for this text's walks alone
set_option linter.unusedVariables false
set_option linter.unusedSimpArgs false

attribute [local go_sem high] eqA36
/-! ### hopperlaw14_FeedReads: function 8 -/
mutual
def hopperlaw14_FeedReads.j0 : Nat → List (S36) → Bool → Int → List (S36) → Int → Option (Bool)
  | 0, _, _, _, _, _ => none
  | k + 1, x1, x20, x332000, x332001, x332002 => if x20 = true then ((hopperlaw14_live.f k).bind fun t334 => (some t334)) else ((feed_All.f k x332000 x332001 x332002).bind fun bt335 => ((feed_Read.f bt335.1 bt335.2.1 bt335.2.2.1).bind fun bt344 => (if (bt335.2.2.2.length : Int) < (x332001.length : Int) then (hopperlaw14_FeedReads.j1 k x1 bt335.2.2.2 (x332001.length : Int) true x332000 x332001 x332002 bt335.1 bt335.2.1 bt335.2.2.1) else (if (bt335.2.2.2.length : Int) > (wrap64 ((x332001.length : Int) + 1)) then (hopperlaw14_FeedReads.j1 k x1 bt335.2.2.2 (x332001.length : Int) true x332000 x332001 x332002 bt335.1 bt335.2.1 bt335.2.2.1) else (if 0 ≤ (x332001.length : Int) then (if (x332001.length : Int) ≤ (bt335.2.2.2.length : Int) then ((hopperref13_Events.f k (bt335.2.2.2.take ((x332001.length : Int) : Int).toNat) x332001).bind fun t364 => (if t364 = true then (if bt344.2.2.2.2.2.2.2.2.2.2.2 = 7 then (if (bt335.2.1.length : Int) = 0 then (hopperlaw14_FeedReads.j1 k x1 bt335.2.2.2 (x332001.length : Int) (bt335.1 != x332000) x332000 x332001 x332002 bt335.1 bt335.2.1 bt335.2.2.1) else (hopperlaw14_FeedReads.j1 k x1 bt335.2.2.2 (x332001.length : Int) true x332000 x332001 x332002 bt335.1 bt335.2.1 bt335.2.2.1)) else (hopperlaw14_FeedReads.j1 k x1 bt335.2.2.2 (x332001.length : Int) true x332000 x332001 x332002 bt335.1 bt335.2.1 bt335.2.2.1)) else (hopperlaw14_FeedReads.j1 k x1 bt335.2.2.2 (x332001.length : Int) true x332000 x332001 x332002 bt335.1 bt335.2.1 bt335.2.2.1))) else (none)) else (none))))))
def hopperlaw14_FeedReads.j1 : Nat → List (S36) → List (S36) → Int → Bool → Int → List (S36) → Int → Int → List (S36) → Int → Option (Bool)
  | 0, _, _, _, _, _, _, _, _, _, _ => none
  | k + 1, x1, x6, x10, x72, x332000, x332001, x332002, x344000, x344001, x344002 => if x72 = true then (some false) else (if (x6.length : Int) = (wrap64 (x10 + 1)) then (if 0 ≤ x10 then (if x10 < (x6.length : Int) then (if (!(((rd_T36 x6 x10).f0) == 4) || ((!(((rd_T36 x6 x10).f1.f0) == 0) || (!(((rd_T36 x6 x10).f1.f1) == 0) || (!(((rd_T36 x6 x10).f1.f2) == 0) || (!(((rd_T36 x6 x10).f1.f3) == 0) || (!(((rd_T36 x6 x10).f1.f4) == 0) || (!((((rd_T36 x6 x10).f1.f5).toList) == ([] : List UInt8)))))))) || (!(((rd_T36 x6 x10).f2) == x332002)))) = true then (hopperlaw14_FeedReads.j2 k x1 true x332000 x332001 x332002 x344000 x344001 x344002) else (hopperlaw14_FeedReads.j2 k x1 (decide (x332002 < 1)) x332000 x332001 x332002 x344000 x344001 x344002)) else (none)) else (none)) else (hopperlaw14_FeedReads.j2 k x1 false x332000 x332001 x332002 x344000 x344001 x344002))
def hopperlaw14_FeedReads.j2 : Nat → List (S36) → Bool → Int → List (S36) → Int → Int → List (S36) → Int → Option (Bool)
  | 0, _, _, _, _, _, _, _, _ => none
  | k + 1, x1, x92, x332000, x332001, x332002, x344000, x344001, x344002 => if x92 = true then (some false) else ((feed_Tell.f k x344000 x344001 x344002 x1).bind fun bt366 => (if x332002 < 0 then ((hopperlaw14_live.f k).bind fun t372 => (some t372)) else (if (bt366.2.1.length : Int) = (mx 0 (mn x332000 (x1.length : Int))) then ((hopperlaw14_live.f k).bind fun t373 => (some t373)) else (some false))))
end
def hopperlaw14_FeedReads.f (k : Nat) (a0_0 : Int) (l0_1 : List (S36)) (a0_2 : Int) (l1 : List (S36)) : Option (Bool) := (hopperref14_Few.f k l0_1 60).bind fun t332 => (if t332 = true then ((hopperref14_Few.f k l1 60).bind fun t333 => (hopperlaw14_FeedReads.j0 k l1 (!t333) a0_0 l0_1 a0_2)) else (hopperlaw14_FeedReads.j0 k l1 true a0_0 l0_1 a0_2))
theorem hopperlaw14_FeedReads.mono_l : ∀ k, (∀ y0 y1 y2 y3 y4, LeO (hopperlaw14_FeedReads.j0 k y0 y1 y2 y3 y4) (hopperlaw14_FeedReads.j0 (k + 1) y0 y1 y2 y3 y4)) ∧ (∀ y0 y1 y2 y3 y4 y5 y6 y7 y8 y9, LeO (hopperlaw14_FeedReads.j1 k y0 y1 y2 y3 y4 y5 y6 y7 y8 y9) (hopperlaw14_FeedReads.j1 (k + 1) y0 y1 y2 y3 y4 y5 y6 y7 y8 y9)) ∧ (∀ y0 y1 y2 y3 y4 y5 y6 y7, LeO (hopperlaw14_FeedReads.j2 k y0 y1 y2 y3 y4 y5 y6 y7) (hopperlaw14_FeedReads.j2 (k + 1) y0 y1 y2 y3 y4 y5 y6 y7))
  | 0 => ⟨fun _ _ _ _ _ r h => by simp [hopperlaw14_FeedReads.j0] at h, fun _ _ _ _ _ _ _ _ _ _ r h => by simp [hopperlaw14_FeedReads.j1] at h, fun _ _ _ _ _ _ _ _ r h => by simp [hopperlaw14_FeedReads.j2] at h⟩
  | k + 1 => by
    obtain ⟨ih0, ih1, ih2⟩ := hopperlaw14_FeedReads.mono_l k
    refine ⟨?_, ?_, ?_⟩
    · intro y0 y1 y2 y3 y4
      unfold hopperlaw14_FeedReads.j0
      repeat' first
      | (with_reducible exact ih0 _ _ _ _ _)
      | (with_reducible exact ih1 _ _ _ _ _ _ _ _ _ _)
      | (with_reducible exact ih2 _ _ _ _ _ _ _ _)
      | (with_reducible exact feed_All.mono _ _ _ _)
      | (with_reducible exact feed_Tell.mono _ _ _ _ _)
      | (with_reducible exact hopperlaw14_live.mono _)
      | (with_reducible exact hopperref13_Events.mono _ _ _)
      | (with_reducible exact hopperref14_Few.mono _ _ _)
      | (with_reducible exact LeO.refl _)
      | (with_reducible exact LeO.none _)
      | (with_reducible refine LeO.ite ?_ ?_)
      | (with_reducible refine LeO.bind ?_ (fun _ => ?_))
      | exact ih0 _ _ _ _ _
      | exact ih1 _ _ _ _ _ _ _ _ _ _
      | exact ih2 _ _ _ _ _ _ _ _
      | exact feed_All.mono _ _ _ _
      | exact feed_Tell.mono _ _ _ _ _
      | exact hopperlaw14_live.mono _
      | exact hopperref13_Events.mono _ _ _
      | exact hopperref14_Few.mono _ _ _
      | exact LeO.none _
      | refine LeO.ite ?_ ?_
      | refine LeO.bind ?_ (fun _ => ?_)
    · intro y0 y1 y2 y3 y4 y5 y6 y7 y8 y9
      unfold hopperlaw14_FeedReads.j1
      repeat' first
      | (with_reducible exact ih0 _ _ _ _ _)
      | (with_reducible exact ih1 _ _ _ _ _ _ _ _ _ _)
      | (with_reducible exact ih2 _ _ _ _ _ _ _ _)
      | (with_reducible exact feed_All.mono _ _ _ _)
      | (with_reducible exact feed_Tell.mono _ _ _ _ _)
      | (with_reducible exact hopperlaw14_live.mono _)
      | (with_reducible exact hopperref13_Events.mono _ _ _)
      | (with_reducible exact hopperref14_Few.mono _ _ _)
      | (with_reducible exact LeO.refl _)
      | (with_reducible exact LeO.none _)
      | (with_reducible refine LeO.ite ?_ ?_)
      | (with_reducible refine LeO.bind ?_ (fun _ => ?_))
      | exact ih0 _ _ _ _ _
      | exact ih1 _ _ _ _ _ _ _ _ _ _
      | exact ih2 _ _ _ _ _ _ _ _
      | exact feed_All.mono _ _ _ _
      | exact feed_Tell.mono _ _ _ _ _
      | exact hopperlaw14_live.mono _
      | exact hopperref13_Events.mono _ _ _
      | exact hopperref14_Few.mono _ _ _
      | exact LeO.none _
      | refine LeO.ite ?_ ?_
      | refine LeO.bind ?_ (fun _ => ?_)
    · intro y0 y1 y2 y3 y4 y5 y6 y7
      unfold hopperlaw14_FeedReads.j2
      repeat' first
      | (with_reducible exact ih0 _ _ _ _ _)
      | (with_reducible exact ih1 _ _ _ _ _ _ _ _ _ _)
      | (with_reducible exact ih2 _ _ _ _ _ _ _ _)
      | (with_reducible exact feed_All.mono _ _ _ _)
      | (with_reducible exact feed_Tell.mono _ _ _ _ _)
      | (with_reducible exact hopperlaw14_live.mono _)
      | (with_reducible exact hopperref13_Events.mono _ _ _)
      | (with_reducible exact hopperref14_Few.mono _ _ _)
      | (with_reducible exact LeO.refl _)
      | (with_reducible exact LeO.none _)
      | (with_reducible refine LeO.ite ?_ ?_)
      | (with_reducible refine LeO.bind ?_ (fun _ => ?_))
      | exact ih0 _ _ _ _ _
      | exact ih1 _ _ _ _ _ _ _ _ _ _
      | exact ih2 _ _ _ _ _ _ _ _
      | exact feed_All.mono _ _ _ _
      | exact feed_Tell.mono _ _ _ _ _
      | exact hopperlaw14_live.mono _
      | exact hopperref13_Events.mono _ _ _
      | exact hopperref14_Few.mono _ _ _
      | exact LeO.none _
      | refine LeO.ite ?_ ?_
      | refine LeO.bind ?_ (fun _ => ?_)
theorem hopperlaw14_FeedReads.mono : ∀ a0 a1 a2 a3 k, LeO (hopperlaw14_FeedReads.f k a0 a1 a2 a3) (hopperlaw14_FeedReads.f (k + 1) a0 a1 a2 a3) := by
  intro a0 a1 a2 a3 k
  obtain ⟨ih0, ih1, ih2⟩ := hopperlaw14_FeedReads.mono_l k
  unfold hopperlaw14_FeedReads.f
  repeat' first
      | (with_reducible exact ih0 _ _ _ _ _)
      | (with_reducible exact ih1 _ _ _ _ _ _ _ _ _ _)
      | (with_reducible exact ih2 _ _ _ _ _ _ _ _)
      | (with_reducible exact feed_All.mono _ _ _ _)
      | (with_reducible exact feed_Tell.mono _ _ _ _ _)
      | (with_reducible exact hopperlaw14_live.mono _)
      | (with_reducible exact hopperref13_Events.mono _ _ _)
      | (with_reducible exact hopperref14_Few.mono _ _ _)
      | (with_reducible exact LeO.refl _)
      | (with_reducible exact LeO.none _)
      | (with_reducible refine LeO.ite ?_ ?_)
      | (with_reducible refine LeO.bind ?_ (fun _ => ?_))
      | exact ih0 _ _ _ _ _
      | exact ih1 _ _ _ _ _ _ _ _ _ _
      | exact ih2 _ _ _ _ _ _ _ _
      | exact feed_All.mono _ _ _ _
      | exact feed_Tell.mono _ _ _ _ _
      | exact hopperlaw14_live.mono _
      | exact hopperref13_Events.mono _ _ _
      | exact hopperref14_Few.mono _ _ _
      | exact LeO.none _
      | refine LeO.ite ?_ ?_
      | refine LeO.bind ?_ (fun _ => ?_)
def hopperlaw14_FeedReads.T6 : Bool × List (List Nat × List Nat) := (true, [([], []), ([0], [0]), ([], []), ([1, 2], [1, 2]), ([3], [3]), ([4], [4]), ([5, 4], [4, 5]), ([4], [4]), ([7, 4], [4, 7]), ([6, 8, 4], [4, 6, 8]), ([4, 9], [4, 9]), ([10, 4], [10]), ([11], [11]), ([11], [11]), ([12, 13, 11], [11, 12, 13]), ([11], [11]), ([15, 11], [11, 15]), ([14, 16, 11, 11], [11, 14, 16]), ([17, 11], [11, 17]), ([11, 18], [11, 18]), ([19, 17], [19]), ([20], [20]), ([21, 20], [20, 21]), ([20, 22], [20, 22]), ([23, 20], [23]), ([24], [24]), ([25, 24], [24, 25]), ([26, 24], [24, 26]), ([27, 24], [24, 27]), ([24, 28], [24, 28]), ([29, 24], [29]), ([30], [30]), ([31, 30], [30, 31]), ([30], [30]), ([33, 30], [30, 33]), ([32, 34, 30], [30, 32, 34]), ([30, 35], [30, 35])])
def hopperlaw14_FeedReads.B6 : List Nat := [0, 1, 0, 7, 15, 31, 63, 31, 159, 511, 1023, 2047, 4095, 4095, 16383, 4095, 36863, 131071, 262143, 524287, 1048575, 2097151, 4194303, 8388607, 16777215, 33554431, 67108863, 134217727, 268435455, 536870911, 1073741823, 2147483647, 4294967295, 2147483647, 10737418239, 34359738367, 68719476735]
theorem hopperlaw14_FeedReads.tab6 : rtab .any (opsOf Try.f8 6) = hopperlaw14_FeedReads.T6 := by kernel_rfl
theorem hopperlaw14_FeedReads.bits6 : waitsOk hopperlaw14_FeedReads.T6.2 hopperlaw14_FeedReads.B6 = true := by kernel_rfl
def hopperlaw14_FeedReads.T8 : Bool × List (List Nat × List Nat) := (true, [([], []), ([0], [0]), ([], []), ([2], [2]), ([1, 3], [1, 3]), ([4], [4]), ([5], [5]), ([5], [5]), ([6, 7, 5], [5, 6, 7]), ([8, 5], [5, 8]), ([5], [5]), ([10, 5], [5, 10]), ([11, 5], [5, 11]), ([9, 12, 5], [5, 9, 12]), ([13, 5, 5], [5, 13]), ([14], [14]), ([15, 14], [14, 15]), ([16, 14], [14, 16]), ([14, 17, 5], [5, 14, 17]), ([5, 18], [5, 18])])
def hopperlaw14_FeedReads.B8 : List Nat := [0, 1, 0, 4, 15, 31, 63, 63, 255, 511, 63, 1087, 3135, 8191, 16383, 32767, 65535, 131071, 262143, 524287]
theorem hopperlaw14_FeedReads.tab8 : rtab .any (opsOf Try.f8 8) = hopperlaw14_FeedReads.T8 := by kernel_rfl
theorem hopperlaw14_FeedReads.bits8 : waitsOk hopperlaw14_FeedReads.T8.2 hopperlaw14_FeedReads.B8 = true := by kernel_rfl
attribute [local go_sem] joined_ite
set_option maxHeartbeats 60000000 in
set_option maxRecDepth 100000 in
theorem hopperlaw14_FeedReads.callsT (k : Nat) (a0_0 : Int) (A0_1 : Option Addr) (c0_1 : Nat) (l0_1 : List (S36)) (a0_2 : Int) (A1 : Option Addr) (c1 : Nat) (l1 : List (S36)) (w : World) (hr0_1 : Kd.C k36 w A0_1 l0_1.length l0_1) (hc0_1 : l0_1.length ≤ c0_1) (hr1 : Kd.C k36 w A1 l1.length l1) (hc1 : l1.length ≤ c1) (h : hopperlaw14_FeedReads.f k a0_0 l0_1 a0_2 l1 = some true) :
    Calls Try.prog 8 #[.agg #[.int .i64 a0_0, .slice A0_1 l0_1.length c0_1, .int .i64 a0_2], .slice A1 l1.length c1] w fun e w' => e = .returned (.bool true) ∧ Below w.heap.size w w' := by
  have hu24 := Try.underlying24
  have hu27 := Try.underlying27
  have hu36 := Try.underlying36
  have HR0_1 := Aside0.mk hr0_1
  have HC0_1 := Aside0.mk hc0_1
  clear hr0_1 hc0_1
  have HR1 := Aside0.mk hr1
  have HC1 := Aside0.mk hc1
  clear hr1 hc1
  have HB := Aside0.mk (Below.refl w.heap.size w)
  have H : ((hopperref14_Few.f k l0_1 60).bind fun t332 => (if t332 = true then ((hopperref14_Few.f k l1 60).bind fun t333 => (hopperlaw14_FeedReads.j0 k l1 (!t333) a0_0 l0_1 a0_2)) else (hopperlaw14_FeedReads.j0 k l1 true a0_0 l0_1 a0_2))) = some true := h
  clear h
  have HC3 := Aside0.mk H
  clear H
  go_enter Try.func8, Try.ntmps8
  go_upto_region 1 with (first | ((with_reducible refine gate_dst (N := 2) rfl ?_); (try (refine gate_guard (by rfl) ?_; dsimp only)); refine box_event ?hg (N := 2) ?hd (cs := #[.int .i64 a0_0, .slice A0_1 l0_1.length c0_1, .int .i64 a0_2]) (t := 24) ?hr ?_; (case hd => rfl); (case hg => rfl); (case hr => first | (go_simp; done) | (go_simp; rfl)); intro gb331 hg w4 hbox hb; have BK331 := Aside0.mk (hbox); have GW331 := Aside0.mk (ge1 hg (LA HB.out)); have GE331 := Aside0.mk (ge1 hg (LA HB.out)); replace HB := Aside0.mk (below_step (LA HB.out) hb); clear hb hbox hg))
  (try simp only [Act.put, PU])
  go_cut [20] (fun v20 wc => ∃ (kq : Nat) (x20_2 : Bool), v20 = .bool x20_2 ∧ Aside0 (hopperlaw14_FeedReads.j0 kq l1 x20_2 a0_0 l0_1 a0_2 = some true) ∧ Aside0 (kq ≤ k) ∧ Aside0 (wc.heap[gb331]? = some (.cells #[.int .i64 a0_0, (.slice A0_1 l0_1.length c0_1), .int .i64 a0_2] 24 (0, 0))) ∧ Aside0 (Below w.heap.size w wc))
  case first =>
    have H := HC3.out
    clear HC3
    replace H := Option.bind_eq_some_iff.mp H
    obtain ⟨t332, A50, H⟩ := H
    try dsimp only at H
    have A5 := Aside0.mk A50
    clear A50
    by_cases c6 : t332 = true
    · subst c6
      have H1 : ((hopperref14_Few.f k l1 60).bind fun t333 => (hopperlaw14_FeedReads.j0 k l1 (!t333) a0_0 l0_1 a0_2)) = some true := by rw [if_pos rfl] at H; exact H
      clear H
      have H := H1
      clear H1
      replace H := Option.bind_eq_some_iff.mp H
      obtain ⟨t333, A70, H⟩ := H
      try dsimp only at H
      have A7 := Aside0.mk A70
      clear A70
      have H' := Aside0.mk H
      clear H
      have hcz8_0 : w4.cell? ⟨gb331, 0, none⟩ = some (.int .i64 a0_0) := (blk_cell BK331.out 0).trans rfl
      have hcz8_1 : w4.cell? ⟨gb331, 1, none⟩ = some (.slice A0_1 l0_1.length c0_1) := (blk_cell BK331.out 1).trans rfl
      have hcz8_2 : w4.cell? ⟨gb331, 2, none⟩ = some (.int .i64 a0_2) := (blk_cell BK331.out 2).trans rfl
      have hfz8_0 := blk_frozen BK331.out 0
      have hfz8_1 := blk_frozen BK331.out 1
      have hfz8_2 := blk_frozen BK331.out 2
      go_wp2_with (first | ((with_reducible refine gate_callee (f := 9) rfl ?_); refine goesL_ (some 14) rfl rfl Try.func9 (by kernel_rfl) rfl #[.slice A0_1 l0_1.length c0_1, .int .i64 60] rfl (by (try simp only [List.map_toArray, List.map_cons, List.map_nil]); first | done | rfl | (simp only [List.length_drop, List.length_take]; rfl)) ?_; (with_reducible refine (hopperref14_Few.calls k _ _ l0_1 60 true _ ?side1 ?side2 A5.out).mono ?_); (case side1 => exact Kd.CA (Kd.C_below HR0_1.out HB.out)); (case side2 => exact HC0_1.out); rintro e w' ⟨rfl, ⟨nd, rfl⟩⟩; refine ⟨_, rfl, ?_⟩) | (go_at_call 9; (with_reducible refine (hopperref14_Few.calls k _ _ l1 60 t333 _ ?side1 ?side2 A7.out).mono ?_); (case side1 => exact (Kd.C_below HR1.out (LA HB.out))); (case side2 => exact HC1.out); rintro e w' ⟨rfl, ⟨nd, rfl⟩⟩))
      go_meet
      case rel => exact ⟨_, (!t333), (by first | (rw [HR_.out]; done) | rfl | (rw [HR_.out]; rfl) | (simp [HR_.out]; done) | (simp; done) | (simp [*]; done)), H', ⟨by first | omega | exact Nat.le_refl _⟩, ⟨by (with_reducible repeat (first | refine blk_drewN ?_ _ | refine blk_drew ?_ | refine blk_alloc ?_ _)); exact BK331.out⟩, ⟨LG HB.out (G1 GE331.out G0)⟩⟩
    · replace c6 := Bool.eq_false_iff.mpr c6
      subst c6
      have H1 : (hopperlaw14_FeedReads.j0 k l1 true a0_0 l0_1 a0_2) = some true := by rw [if_neg (show ¬ (false = true) by decide)] at H; exact H
      clear H
      have H := H1
      clear H1
      have H' := Aside0.mk H
      clear H
      have hcz9_0 : w4.cell? ⟨gb331, 0, none⟩ = some (.int .i64 a0_0) := (blk_cell BK331.out 0).trans rfl
      have hcz9_1 : w4.cell? ⟨gb331, 1, none⟩ = some (.slice A0_1 l0_1.length c0_1) := (blk_cell BK331.out 1).trans rfl
      have hcz9_2 : w4.cell? ⟨gb331, 2, none⟩ = some (.int .i64 a0_2) := (blk_cell BK331.out 2).trans rfl
      have hfz9_0 := blk_frozen BK331.out 0
      have hfz9_1 := blk_frozen BK331.out 1
      have hfz9_2 := blk_frozen BK331.out 2
      go_wp2_with (first | ((with_reducible refine gate_callee (f := 9) rfl ?_); refine goesL_ (some 14) rfl rfl Try.func9 (by kernel_rfl) rfl #[.slice A0_1 l0_1.length c0_1, .int .i64 60] rfl (by (try simp only [List.map_toArray, List.map_cons, List.map_nil]); first | done | rfl | (simp only [List.length_drop, List.length_take]; rfl)) ?_; (with_reducible refine (hopperref14_Few.calls k _ _ l0_1 60 false _ ?side1 ?side2 A5.out).mono ?_); (case side1 => exact Kd.CA (Kd.C_below HR0_1.out HB.out)); (case side2 => exact HC0_1.out); rintro e w' ⟨rfl, ⟨nd, rfl⟩⟩; refine ⟨_, rfl, ?_⟩))
      go_meet
      case rel => exact ⟨_, (true), (by first | (rw [HR_.out]; done) | rfl | (rw [HR_.out]; rfl) | (simp [HR_.out]; done) | (simp; done) | (simp [*]; done)), H', ⟨by first | omega | exact Nat.le_refl _⟩, ⟨by (with_reducible repeat (first | refine blk_drewN ?_ _ | refine blk_drew ?_ | refine blk_alloc ?_ _)); exact BK331.out⟩, ⟨LG HB.out (G1 GE331.out G0)⟩⟩
  case rest =>
    clear HC3
    try clear c1
    try clear p2
    try clear c6
    try clear c8
    try clear c9
    try clear hcz8_0
    try clear hcz8_1
    try clear hcz8_2
    try clear hcz9_0
    try clear hcz9_1
    try clear hcz9_2
    try clear hfz8_0
    try clear hfz8_1
    try clear hfz8_2
    try clear hfz9_0
    try clear hfz9_1
    try clear hfz9_2
    obtain ⟨kq, x20_2, rfl, HA, HJ2, BK331, HB⟩ := hcut
    cases kq with
    | zero => exact absurd HA.out (by simp [hopperlaw14_FeedReads.j0])
    | succ kj2 =>
      have H := HA.out
      clear HA
      simp only [hopperlaw14_FeedReads.j0] at H
      by_cases c10 : x20_2 = true
      · subst c10
        have H1 : ((hopperlaw14_live.f kj2).bind fun t334 => (some t334)) = some true := by rw [if_pos rfl] at H; exact H
        clear H
        have H := H1
        clear H1
        replace H := Option.bind_eq_some_iff.mp H
        obtain ⟨t334, A110, H⟩ := H
        try dsimp only at H
        have A11 := Aside0.mk A110
        clear A110
        have HR_ := Aside0.mk (Option.some.inj H)
        clear H
        go_wp2_with (first | ((with_reducible refine gate_callee (f := 10) rfl ?_); refine goesL_ (some 21) rfl rfl Try.func10 (by kernel_rfl) rfl #[] rfl (by (try simp only [List.map_toArray, List.map_cons, List.map_nil]); first | done | rfl | (simp only [List.length_drop, List.length_take]; rfl)) ?_; (with_reducible refine (hopperlaw14_live.calls kj2  t334 _ A11.out).mono ?_); rintro e w12 ⟨rfl, hb⟩; refine ⟨_, rfl, ?_⟩; replace HB := Aside0.mk (below_step (LA HB.out) hb); (try clear BK331); (try clear hb); (try clear hb2); (try clear hk); (try clear hi)))
        go_ret
        exact ⟨by first | exact (congrArg (fun b => Ending.returned (.bool b)) HR_.out) | (rw [HR_.out]; done) | rfl | (rw [HR_.out]; rfl) | (simp [HR_.out]; done) | (simp [errW_none, errW_some] <;> rfl) | (simp [*, errW_none, errW_some] <;> rfl), LG HB.out (G1 GE331.out G0)⟩
      · replace c10 := Bool.eq_false_iff.mpr c10
        subst c10
        have H1 : ((feed_All.f kj2 a0_0 l0_1 a0_2).bind fun bt335 => ((feed_Read.f bt335.1 bt335.2.1 bt335.2.2.1).bind fun bt344 => (if (bt335.2.2.2.length : Int) < (l0_1.length : Int) then (hopperlaw14_FeedReads.j1 kj2 l1 bt335.2.2.2 (l0_1.length : Int) true a0_0 l0_1 a0_2 bt335.1 bt335.2.1 bt335.2.2.1) else (if (bt335.2.2.2.length : Int) > (wrap64 ((l0_1.length : Int) + 1)) then (hopperlaw14_FeedReads.j1 kj2 l1 bt335.2.2.2 (l0_1.length : Int) true a0_0 l0_1 a0_2 bt335.1 bt335.2.1 bt335.2.2.1) else (if 0 ≤ (l0_1.length : Int) then (if (l0_1.length : Int) ≤ (bt335.2.2.2.length : Int) then ((hopperref13_Events.f kj2 (bt335.2.2.2.take ((l0_1.length : Int) : Int).toNat) l0_1).bind fun t364 => (if t364 = true then (if bt344.2.2.2.2.2.2.2.2.2.2.2 = 7 then (if (bt335.2.1.length : Int) = 0 then (hopperlaw14_FeedReads.j1 kj2 l1 bt335.2.2.2 (l0_1.length : Int) (bt335.1 != a0_0) a0_0 l0_1 a0_2 bt335.1 bt335.2.1 bt335.2.2.1) else (hopperlaw14_FeedReads.j1 kj2 l1 bt335.2.2.2 (l0_1.length : Int) true a0_0 l0_1 a0_2 bt335.1 bt335.2.1 bt335.2.2.1)) else (hopperlaw14_FeedReads.j1 kj2 l1 bt335.2.2.2 (l0_1.length : Int) true a0_0 l0_1 a0_2 bt335.1 bt335.2.1 bt335.2.2.1)) else (hopperlaw14_FeedReads.j1 kj2 l1 bt335.2.2.2 (l0_1.length : Int) true a0_0 l0_1 a0_2 bt335.1 bt335.2.1 bt335.2.2.1))) else (none)) else (none)))))) = some true := by rw [if_neg (show ¬ (false = true) by decide)] at H; exact H
        clear H
        have H := H1
        clear H1
        replace H := Option.bind_eq_some_iff.mp H
        obtain ⟨⟨t335, t336, t339, t340⟩, A130, H⟩ := H
        try dsimp only at H
        have A13 := Aside0.mk A130
        clear A130
        replace H := Option.bind_eq_some_iff.mp H
        obtain ⟨⟨t344, t345, t348, t349, t350, t351, t352, t353, t354, t355, t356, t357⟩, A140, H⟩ := H
        try dsimp only at H
        have A14 := Aside0.mk A140
        clear A140
        have HC15 := Aside0.mk H
        clear H
        have hcz16_0 : wc.cell? ⟨gb331, 0, none⟩ = some (.int .i64 a0_0) := (blk_cell BK331.out 0).trans rfl
        have hcz16_1 : wc.cell? ⟨gb331, 1, none⟩ = some (.slice A0_1 l0_1.length c0_1) := (blk_cell BK331.out 1).trans rfl
        have hcz16_2 : wc.cell? ⟨gb331, 2, none⟩ = some (.int .i64 a0_2) := (blk_cell BK331.out 2).trans rfl
        have hfz16_0 := blk_frozen BK331.out 0
        have hfz16_1 := blk_frozen BK331.out 1
        have hfz16_2 := blk_frozen BK331.out 2
        go_upto_region 6 with (first | ((with_reducible refine gate_callee (f := 15) rfl ?_); refine goesL_ (some 24) rfl rfl Try.func15 (by kernel_rfl) rfl #[.agg #[.int .i64 a0_0, .slice A0_1 l0_1.length c0_1, .int .i64 a0_2]] rfl (by (try simp only [List.map_toArray, List.map_cons, List.map_nil]); first | done | rfl | (simp only [List.length_drop, List.length_take]; rfl)) ?_; (with_reducible refine (feed_All.calls kj2 a0_0 (fun k_ => k_ < w.heap.size) _ _ l0_1 a0_2 t335 t336 t339 t340 _ ?side1 A13.out).mono ?_); (case side1 => exact Kd.V_mk HC0_1.out (Kd.F_below (Kd.C_F k36_heap HR0_1.out) (LA HB.out))); rintro e w17 ⟨v337, v341, rfl, ho0, ho1, hb⟩; refine ⟨_, rfl, ?_⟩; have HO338 := Aside0.mk (Kd.V_lower (Kd.V_mono (ok' := fun k_ => some k_ ≠ (v341 : Value).ownBlock ∧ k_ ≠ gb331) ho0 (fun k_ hk_ => ⟨hk_.2, Or.elim hk_.1 (fun hs_ => fun e_ => Nat.not_le.2 hs_ (by rw [e_]; exact GW331.out)) (fun hn_ => (Kd.freshB (g := gb331) (o := .cells #[.int .i64 a0_0, .slice A0_1 l0_1.length c0_1, .int .i64 a0_2] 24 (0, 0)) (BA BK331.out) k_ hn_))⟩)) (below_size (LA HB.out))); have HO342 := Aside0.mk (Kd.R_lower (Kd.R_mono (ok' := fun k_ => True) ho1 (fun _ hk_ => trivial)) (below_size (LA HB.out))); replace BK331 := Aside0.mk (blk_below (BA BK331.out) hb); replace HB := Aside0.mk (below_step (LA HB.out) hb); (try clear hb); (try clear hb2); (try clear hk); (try clear hi); (try clear ho0); (try clear ho1)) | ((with_reducible refine gate_dst (N := 5) rfl ?_); (try (refine gate_guard (by rfl) ?_; dsimp only)); refine box_event ?hg (N := 5) ?hd (cs := #[.int .i64 0, .slice none 0 0, .int .i64 0]) (t := 27) ?hr ?_; (case hd => rfl); (case hg => rfl); (case hr => first | (go_simp; done) | (go_simp; rfl)); intro gb343 hg w18 hbox hb; replace HO338 := Aside0.mk (Kd.V_below (Kd.V_elderB (Kd.VA HO338.out) gb343 (Nat.le_of_eq hg.symm)) hb); replace HO342 := Aside0.mk (Kd.R_below (Kd.RA HO342.out) hb); have BK343 := Aside0.mk (hbox); have GE343 := Aside0.mk (ge1 hg (LA HB.out)); replace HB := Aside0.mk (below_step (LA HB.out) hb); have NB331_343 := Aside0.mk ((by rw [hg]; exact Nat.ne_of_lt (blk_lt (g := gb331) (o := .cells #[.int .i64 a0_0, .slice A0_1 l0_1.length c0_1, .int .i64 a0_2] 24 (0, 0)) (BA BK331.out)) : gb331 ≠ gb343)); have NB343_331 := Aside0.mk ((by rw [hg]; exact Nat.ne_of_gt (blk_lt (g := gb331) (o := .cells #[.int .i64 a0_0, .slice A0_1 l0_1.length c0_1, .int .i64 a0_2] 24 (0, 0)) (BA BK331.out)) : gb343 ≠ gb331)); replace BK331 := Aside0.mk (blk_below (BA BK331.out) hb); clear hb hbox hg; have hnb19 := NB343_331.out; have hnc19 := NB331_343.out; obtain ⟨hcz20_0, hcz20_1, hcz20_2, hfz20_0, hfz20_1, hfz20_2⟩ := cz3 BK343.out; obtain ⟨Ao21, co21, eo21⟩ := Kd.V_slice HO338.out; subst eo21) | ((with_reducible refine gate_store (t := 27) (p := 5) rfl ?_); refine store_event (t := 27) (p := 5) (v := ?vo_w22) (w1 := (((w18.setCell ⟨gb343, 0, none⟩ (.int .i64 t335)).setCell ⟨gb343, 1, none⟩ (.slice Ao21 t336.length co21)).setCell ⟨gb343, 2, none⟩ (.int .i64 t339))) ?hg ?ho ?hn ?hr ?_; (case ho => rfl); (case hg => rfl); (case hn => rfl); (case hr => first | (go_simp; done) | (go_simp; rfl)); intro w22 hw; replace HO338 : Aside0 (Kd.V k36 36 w22 w.heap.size (fun k_ => some k_ ≠ (v341 : Value).ownBlock ∧ k_ ≠ gb331 ∧ k_ ≠ gb343) (.slice Ao21 t336.length co21) t336) := ⟨(by rw [hw]; exact (Kd.V_mono (Kd.V_mv (g := gb343) (Kd.V_mono HO338.out (fun k_ hk => (⟨hk, hk.2⟩ : _ ∧ k_ ≠ gb343))) (fun _ hk => hk.2)) (fun _ hk => ⟨hk.1.1.1, ⟨hk.1.1.2, hk.1.2⟩⟩)))⟩; replace HO342 : Aside0 (Kd.R k36 36 w22 w.heap.size (fun _ => True) v341 t340) := ⟨(by rw [hw]; exact (Kd.R_mono (Kd.R_mv (g := gb343) (Kd.R_types HO342.out BK343.out (by decide)) (fun _ hk => hk.2)) (fun _ hk => trivial)))⟩; replace BK331 : Aside0 (w22.heap[gb331]? = some (.cells #[.int .i64 a0_0, .slice A0_1 l0_1.length c0_1, .int .i64 a0_2] 24 (0, 0))) := ⟨(by rw [hw]; exact (BF BK331.out NB331_343.out))⟩; replace BK343 : Aside0 (w22.heap[gb343]? = some (.cells #[.int .i64 t335, .slice Ao21 t336.length co21, .int .i64 t339] 27 (0, 0))) := ⟨(by rw [hw]; exact (BP BK343.out (by rfl)))⟩; replace HB : Aside0 (Below w.heap.size w w22) := ⟨(by rw [hw]; exact (LG HB.out (G1 GE343.out G0)))⟩; clear hw; obtain ⟨hcz23_0, hcz23_1, hcz23_2, hfz23_0, hfz23_1, hfz23_2⟩ := cz3 BK343.out) | ((with_reducible refine gate_callee (f := 13) rfl ?_); refine goesL_ (some 29) rfl rfl Try.func13 (by kernel_rfl) rfl #[.agg #[.int .i64 t335, .slice Ao21 t336.length co21, .int .i64 t339]] rfl (by (try simp only [List.map_toArray, List.map_cons, List.map_nil]); first | done | rfl | (simp only [List.length_drop, List.length_take]; rfl)) ?_; (with_reducible refine (feed_Read.calls t335 (fun k_ => (some k_ ≠ (v341 : Value).ownBlock ∧ (k_ ≠ gb331 ∧ k_ ≠ gb343))) _ _ t336 t339 t344 t345 t348 t349 t350 t351 t352 t353 t354 t355 t356 t357 _ ?side1 A14.out).mono ?_); (case side1 => exact HO338.out); rintro e w24 ⟨v346, rfl, ho0, hb⟩; refine ⟨_, rfl, ?_⟩; replace HO338 := Aside0.mk (Kd.V_below (Kd.VA HO338.out) hb); have HO347 := Aside0.mk (Kd.V_lower (Kd.V_mono (ok' := fun k_ => some k_ ≠ (v341 : Value).ownBlock ∧ k_ ≠ gb331 ∧ k_ ≠ gb343) ho0 (fun k_ hk_ => ⟨Or.elim hk_ (fun hs_ => hs_.1) (fun hn_ => (Kd.fresh' (Kd.R_lt (Kd.RA HO342.out)) k_ hn_)), Or.elim hk_ (fun hs_ => hs_.2.1) (fun hn_ => (Kd.freshB (g := gb331) (o := .cells #[.int .i64 a0_0, .slice A0_1 l0_1.length c0_1, .int .i64 a0_2] 24 (0, 0)) (BA BK331.out) k_ hn_)), Or.elim hk_ (fun hs_ => hs_.2.2) (fun hn_ => (Kd.freshB (g := gb343) (o := .cells #[.int .i64 t335, .slice Ao21 t336.length co21, .int .i64 t339] 27 (0, 0)) (BA BK343.out) k_ hn_))⟩)) (below_size (LA HB.out))); replace HO342 := Aside0.mk (Kd.R_below (Kd.RA HO342.out) hb); replace BK331 := Aside0.mk (blk_below (BA BK331.out) hb); replace BK343 := Aside0.mk (blk_below (BA BK343.out) hb); replace HB := Aside0.mk (below_step (LA HB.out) hb); (try clear hb); (try clear hb2); (try clear hk); (try clear hi); (try clear ho0)) | ((with_reducible refine gate_dst (N := 7) rfl ?_); (try (refine gate_guard (by rfl) ?_; dsimp only)); refine box_event ?hg (N := 7) ?hd (cs := #[.int .i64 0, .slice none 0 0, .int .i64 0]) (t := 27) ?hr ?_; (case hd => rfl); (case hg => rfl); (case hr => first | (go_simp; done) | (go_simp; rfl)); intro gb358 hg w25 hbox hb; replace HO338 := Aside0.mk (Kd.V_below (Kd.V_elderB (Kd.VA HO338.out) gb358 (Nat.le_of_eq hg.symm)) hb); replace HO342 := Aside0.mk (Kd.R_below (Kd.RA HO342.out) hb); replace HO347 := Aside0.mk (Kd.V_below (Kd.V_elderB (Kd.VA HO347.out) gb358 (Nat.le_of_eq hg.symm)) hb); have BK358 := Aside0.mk (hbox); have GE358 := Aside0.mk (ge1 hg (LA HB.out)); replace HB := Aside0.mk (below_step (LA HB.out) hb); have NB331_358 := Aside0.mk ((by rw [hg]; exact Nat.ne_of_lt (blk_lt (g := gb331) (o := .cells #[.int .i64 a0_0, .slice A0_1 l0_1.length c0_1, .int .i64 a0_2] 24 (0, 0)) (BA BK331.out)) : gb331 ≠ gb358)); have NB358_331 := Aside0.mk ((by rw [hg]; exact Nat.ne_of_gt (blk_lt (g := gb331) (o := .cells #[.int .i64 a0_0, .slice A0_1 l0_1.length c0_1, .int .i64 a0_2] 24 (0, 0)) (BA BK331.out)) : gb358 ≠ gb331)); replace BK331 := Aside0.mk (blk_below (BA BK331.out) hb); have NB343_358 := Aside0.mk ((by rw [hg]; exact Nat.ne_of_lt (blk_lt (g := gb343) (o := .cells #[.int .i64 t335, .slice Ao21 t336.length co21, .int .i64 t339] 27 (0, 0)) (BA BK343.out)) : gb343 ≠ gb358)); have NB358_343 := Aside0.mk ((by rw [hg]; exact Nat.ne_of_gt (blk_lt (g := gb343) (o := .cells #[.int .i64 t335, .slice Ao21 t336.length co21, .int .i64 t339] 27 (0, 0)) (BA BK343.out)) : gb358 ≠ gb343)); replace BK343 := Aside0.mk (blk_below (BA BK343.out) hb); clear hb hbox hg) | ((with_reducible refine gate_dst (N := 8) rfl ?_); (try (refine gate_guard (by rfl) ?_; dsimp only)); refine box_event ?hg (N := 8) ?hd (cs := #[.int .i64 0, .int .i64 0, .int .i64 0, .int .i64 0, .int .i64 0, .int .i64 0, .string (⟨#[]⟩ : ByteArray), .int .i64 0]) (t := 36) ?hr ?_; (case hd => rfl); (case hg => rfl); (case hr => first | (go_simp; done) | (go_simp; rfl)); intro gb359 hg w26 hbox hb; replace HO338 := Aside0.mk (Kd.V_below (Kd.V_elderB (Kd.VA HO338.out) gb359 (Nat.le_of_eq hg.symm)) hb); replace HO342 := Aside0.mk (Kd.R_below (Kd.R_elderB (Kd.RA HO342.out) gb359 (Nat.le_of_eq hg.symm)) hb); replace HO347 := Aside0.mk (Kd.V_below (Kd.V_elderB (Kd.VA HO347.out) gb359 (Nat.le_of_eq hg.symm)) hb); have BK359 := Aside0.mk (hbox); have GE359 := Aside0.mk (ge1 hg (LA HB.out)); replace HB := Aside0.mk (below_step (LA HB.out) hb); have NB331_359 := Aside0.mk ((by rw [hg]; exact Nat.ne_of_lt (blk_lt (g := gb331) (o := .cells #[.int .i64 a0_0, .slice A0_1 l0_1.length c0_1, .int .i64 a0_2] 24 (0, 0)) (BA BK331.out)) : gb331 ≠ gb359)); have NB359_331 := Aside0.mk ((by rw [hg]; exact Nat.ne_of_gt (blk_lt (g := gb331) (o := .cells #[.int .i64 a0_0, .slice A0_1 l0_1.length c0_1, .int .i64 a0_2] 24 (0, 0)) (BA BK331.out)) : gb359 ≠ gb331)); replace BK331 := Aside0.mk (blk_below (BA BK331.out) hb); have NB343_359 := Aside0.mk ((by rw [hg]; exact Nat.ne_of_lt (blk_lt (g := gb343) (o := .cells #[.int .i64 t335, .slice Ao21 t336.length co21, .int .i64 t339] 27 (0, 0)) (BA BK343.out)) : gb343 ≠ gb359)); have NB359_343 := Aside0.mk ((by rw [hg]; exact Nat.ne_of_gt (blk_lt (g := gb343) (o := .cells #[.int .i64 t335, .slice Ao21 t336.length co21, .int .i64 t339] 27 (0, 0)) (BA BK343.out)) : gb359 ≠ gb343)); replace BK343 := Aside0.mk (blk_below (BA BK343.out) hb); have NB358_359 := Aside0.mk ((by rw [hg]; exact Nat.ne_of_lt (blk_lt (g := gb358) (o := .cells #[.int .i64 0, .slice none 0 0, .int .i64 0] 27 (0, 0)) (BA BK358.out)) : gb358 ≠ gb359)); have NB359_358 := Aside0.mk ((by rw [hg]; exact Nat.ne_of_gt (blk_lt (g := gb358) (o := .cells #[.int .i64 0, .slice none 0 0, .int .i64 0] 27 (0, 0)) (BA BK358.out)) : gb359 ≠ gb358)); replace BK358 := Aside0.mk (blk_below (BA BK358.out) hb); clear hb hbox hg; have hnb27 := NB358_331.out; have hnc27 := NB331_358.out; have hnb28 := NB358_343.out; have hnc28 := NB343_358.out; have hnb29 := NB358_359.out; have hnc29 := NB359_358.out; obtain ⟨hcz30_0, hcz30_1, hcz30_2, hfz30_0, hfz30_1, hfz30_2⟩ := cz3 BK358.out; obtain ⟨Ao31, co31, eo31⟩ := Kd.V_slice HO347.out; subst eo31; have hnb32 := NB359_331.out; have hnc32 := NB331_359.out; have hnb33 := NB359_343.out; have hnc33 := NB343_359.out; obtain ⟨hcz34_0, hcz34_1, hcz34_2, hcz34_3, hcz34_4, hcz34_5, hcz34_6, hcz34_7, hfz34_0, hfz34_1, hfz34_2, hfz34_3, hfz34_4, hfz34_5, hfz34_6, hfz34_7⟩ := cz8 BK359.out; obtain ⟨hcz35_0, hcz35_1, hcz35_2, hfz35_0, hfz35_1, hfz35_2⟩ := cz3 BK331.out))
        (try simp only [Act.put, PU])
        go_cut [72] (fun v72 wc => ∃ (kq : Nat) (x72_14 : Bool), v72 = .bool x72_14 ∧ Aside0 (hopperlaw14_FeedReads.j1 kq l1 t340 (l0_1.length : Int) x72_14 a0_0 l0_1 a0_2 t335 t336 t339 = some true) ∧ Aside0 (kq ≤ kj2) ∧ Aside0 (Kd.R k36 36 wc w.heap.size (fun k_ => k_ ≠ gb359) v341 t340) ∧ Aside0 (Kd.V k36 36 wc w.heap.size (fun k_ => some k_ ≠ (v341 : Value).ownBlock ∧ k_ ≠ gb331 ∧ k_ ≠ gb343 ∧ k_ ≠ gb358 ∧ k_ ≠ gb359) (.slice Ao21 t336.length co21) t336) ∧ Aside0 (Kd.V k36 36 wc w.heap.size (fun k_ => some k_ ≠ (v341 : Value).ownBlock ∧ k_ ≠ gb331 ∧ k_ ≠ gb343 ∧ k_ ≠ gb358 ∧ k_ ≠ gb359) (.slice Ao31 t345.length co31) t345) ∧ Aside0 (wc.heap[gb331]? = some (.cells #[.int .i64 a0_0, (.slice A0_1 l0_1.length c0_1), .int .i64 a0_2] 24 (0, 0))) ∧ Aside0 (wc.heap[gb343]? = some (.cells #[.int .i64 t335, (.slice Ao21 t336.length co21), .int .i64 t339] 27 (0, 0))) ∧ Aside0 (wc.heap[gb358]? = some (.cells #[.int .i64 t344, (.slice Ao31 t345.length co31), .int .i64 t348] 27 (0, 0))) ∧ Aside0 (wc.heap[gb359]? = some (.cells #[.int .i64 t349, .int .i64 t350, .int .i64 t351, .int .i64 t352, .int .i64 t353, .int .i64 t354, .string t355, .int .i64 t356] 36 (0, 0))) ∧ Aside0 (Below w.heap.size w wc))
        case first =>
          have H := HC15.out
          clear HC15
          by_cases c36 : (t340.length : Int) < (l0_1.length : Int)
          · rw [if_pos c36] at H
            have c36b0 : decide ((t340.length : Int) < (l0_1.length : Int)) = true := decide_eq_true c36
            have c36b1 : decide (t340.length < l0_1.length) = true := decide_eq_true (Int.ofNat_lt.mp c36)
            clear c36
            (first | rw [c36b0] | (simp only [i64_w, i32_w]; rw [c36b0]) | skip)
            have H' := Aside0.mk H
            clear H
            try go_wp2
            have n0_ : Aside0 (Kd.V k36 36 (((((((((((w26.setCell ⟨gb358, 0, none⟩ (.int .i64 t344)).setCell ⟨gb358, 1, none⟩ (.slice Ao31 t345.length co31)).setCell ⟨gb358, 2, none⟩ (.int .i64 t348)).setCell ⟨gb359, 0, none⟩ (.int .i64 t349)).setCell ⟨gb359, 1, none⟩ (.int .i64 t350)).setCell ⟨gb359, 2, none⟩ (.int .i64 t351)).setCell ⟨gb359, 3, none⟩ (.int .i64 t352)).setCell ⟨gb359, 4, none⟩ (.int .i64 t353)).setCell ⟨gb359, 5, none⟩ (.int .i64 t354)).setCell ⟨gb359, 6, none⟩ (.string t355)).setCell ⟨gb359, 7, none⟩ (.int .i64 t356)) w.heap.size (fun k_ => some k_ ≠ (v341 : Value).ownBlock ∧ k_ ≠ gb331 ∧ k_ ≠ gb343 ∧ k_ ≠ gb358 ∧ k_ ≠ gb359) (.slice Ao21 t336.length co21) t336) := ⟨by (with_reducible repeat (first | apply Kd.V_alloc | apply Kd.V_drewN | apply Kd.V_drew)); exact Kd.V_mono (Kd.V_ms (gs := [gb359, gb358]) (Kd.V_mono (Kd.V_mono HO338.out (fun k_ hk => (⟨hk, hk.1.2⟩ : _ ∧ k_ ≠ gb358))) (fun k_ hk => (⟨hk, hk.1.2⟩ : _ ∧ k_ ≠ gb359))) (fun _ hk => N1 (hk.2) (N1 (hk.1.2) (N0)))) (fun _ hk => ⟨hk.1.1.1.1.1, ⟨hk.1.1.1.1.2.1, ⟨hk.1.1.1.1.2.2, ⟨hk.1.1.1.2, hk.1.1.2⟩⟩⟩⟩)⟩
            have n1_ : Aside0 (Kd.R k36 36 (((((((((((w26.setCell ⟨gb358, 0, none⟩ (.int .i64 t344)).setCell ⟨gb358, 1, none⟩ (.slice Ao31 t345.length co31)).setCell ⟨gb358, 2, none⟩ (.int .i64 t348)).setCell ⟨gb359, 0, none⟩ (.int .i64 t349)).setCell ⟨gb359, 1, none⟩ (.int .i64 t350)).setCell ⟨gb359, 2, none⟩ (.int .i64 t351)).setCell ⟨gb359, 3, none⟩ (.int .i64 t352)).setCell ⟨gb359, 4, none⟩ (.int .i64 t353)).setCell ⟨gb359, 5, none⟩ (.int .i64 t354)).setCell ⟨gb359, 6, none⟩ (.string t355)).setCell ⟨gb359, 7, none⟩ (.int .i64 t356)) w.heap.size (fun k_ => k_ ≠ gb359) v341 t340) := ⟨by (with_reducible repeat (first | apply Kd.R_alloc | apply Kd.R_drewN | apply Kd.R_drew)); exact Kd.R_mono (Kd.R_ms (gs := [gb359, gb358]) (Kd.R_mono (Kd.R_types HO342.out BK358.out (by decide)) (fun k_ hk => (⟨hk, hk.1.2⟩ : _ ∧ k_ ≠ gb359))) (fun _ hk => N1 (hk.2) (N1 (hk.1.2) (N0)))) (fun _ hk => hk.1.1.2)⟩
            have n2_ : Aside0 (Kd.V k36 36 (((((((((((w26.setCell ⟨gb358, 0, none⟩ (.int .i64 t344)).setCell ⟨gb358, 1, none⟩ (.slice Ao31 t345.length co31)).setCell ⟨gb358, 2, none⟩ (.int .i64 t348)).setCell ⟨gb359, 0, none⟩ (.int .i64 t349)).setCell ⟨gb359, 1, none⟩ (.int .i64 t350)).setCell ⟨gb359, 2, none⟩ (.int .i64 t351)).setCell ⟨gb359, 3, none⟩ (.int .i64 t352)).setCell ⟨gb359, 4, none⟩ (.int .i64 t353)).setCell ⟨gb359, 5, none⟩ (.int .i64 t354)).setCell ⟨gb359, 6, none⟩ (.string t355)).setCell ⟨gb359, 7, none⟩ (.int .i64 t356)) w.heap.size (fun k_ => some k_ ≠ (v341 : Value).ownBlock ∧ k_ ≠ gb331 ∧ k_ ≠ gb343 ∧ k_ ≠ gb358 ∧ k_ ≠ gb359) (.slice Ao31 t345.length co31) t345) := ⟨by (with_reducible repeat (first | apply Kd.V_alloc | apply Kd.V_drewN | apply Kd.V_drew)); exact Kd.V_mono (Kd.V_ms (gs := [gb359, gb358]) (Kd.V_mono (Kd.V_mono HO347.out (fun k_ hk => (⟨hk, hk.1.2⟩ : _ ∧ k_ ≠ gb358))) (fun k_ hk => (⟨hk, hk.1.2⟩ : _ ∧ k_ ≠ gb359))) (fun _ hk => N1 (hk.2) (N1 (hk.1.2) (N0)))) (fun _ hk => ⟨hk.1.1.1.1.1, ⟨hk.1.1.1.1.2.1, ⟨hk.1.1.1.1.2.2, ⟨hk.1.1.1.2, hk.1.1.2⟩⟩⟩⟩)⟩
            have n3_ : Aside0 ((((((((((((w26.setCell ⟨gb358, 0, none⟩ (.int .i64 t344)).setCell ⟨gb358, 1, none⟩ (.slice Ao31 t345.length co31)).setCell ⟨gb358, 2, none⟩ (.int .i64 t348)).setCell ⟨gb359, 0, none⟩ (.int .i64 t349)).setCell ⟨gb359, 1, none⟩ (.int .i64 t350)).setCell ⟨gb359, 2, none⟩ (.int .i64 t351)).setCell ⟨gb359, 3, none⟩ (.int .i64 t352)).setCell ⟨gb359, 4, none⟩ (.int .i64 t353)).setCell ⟨gb359, 5, none⟩ (.int .i64 t354)).setCell ⟨gb359, 6, none⟩ (.string t355)).setCell ⟨gb359, 7, none⟩ (.int .i64 t356)).heap[gb331]? = some (.cells #[.int .i64 a0_0, .slice A0_1 l0_1.length c0_1, .int .i64 a0_2] 24 (0, 0))) := ⟨by exact BM BK331.out (N1 NB331_359.out (N1 NB331_358.out N0))⟩
            have n4_ : Aside0 ((((((((((((w26.setCell ⟨gb358, 0, none⟩ (.int .i64 t344)).setCell ⟨gb358, 1, none⟩ (.slice Ao31 t345.length co31)).setCell ⟨gb358, 2, none⟩ (.int .i64 t348)).setCell ⟨gb359, 0, none⟩ (.int .i64 t349)).setCell ⟨gb359, 1, none⟩ (.int .i64 t350)).setCell ⟨gb359, 2, none⟩ (.int .i64 t351)).setCell ⟨gb359, 3, none⟩ (.int .i64 t352)).setCell ⟨gb359, 4, none⟩ (.int .i64 t353)).setCell ⟨gb359, 5, none⟩ (.int .i64 t354)).setCell ⟨gb359, 6, none⟩ (.string t355)).setCell ⟨gb359, 7, none⟩ (.int .i64 t356)).heap[gb343]? = some (.cells #[.int .i64 t335, .slice Ao21 t336.length co21, .int .i64 t339] 27 (0, 0))) := ⟨by exact BM BK343.out (N1 NB343_359.out (N1 NB343_358.out N0))⟩
            have n5_ : Aside0 ((((((((((((w26.setCell ⟨gb358, 0, none⟩ (.int .i64 t344)).setCell ⟨gb358, 1, none⟩ (.slice Ao31 t345.length co31)).setCell ⟨gb358, 2, none⟩ (.int .i64 t348)).setCell ⟨gb359, 0, none⟩ (.int .i64 t349)).setCell ⟨gb359, 1, none⟩ (.int .i64 t350)).setCell ⟨gb359, 2, none⟩ (.int .i64 t351)).setCell ⟨gb359, 3, none⟩ (.int .i64 t352)).setCell ⟨gb359, 4, none⟩ (.int .i64 t353)).setCell ⟨gb359, 5, none⟩ (.int .i64 t354)).setCell ⟨gb359, 6, none⟩ (.string t355)).setCell ⟨gb359, 7, none⟩ (.int .i64 t356)).heap[gb358]? = some (.cells #[.int .i64 t344, .slice Ao31 t345.length co31, .int .i64 t348] 27 (0, 0))) := ⟨by (with_reducible repeat (first | refine blk_drewN ?_ _ | refine blk_drew ?_ | refine blk_alloc ?_ _)); refine blk_far ?_ NB358_359.out _; (with_reducible repeat (first | refine blk_drewN ?_ _ | refine blk_drew ?_ | refine blk_alloc ?_ _)); refine blk_far ?_ NB358_359.out _; (with_reducible repeat (first | refine blk_drewN ?_ _ | refine blk_drew ?_ | refine blk_alloc ?_ _)); refine blk_far ?_ NB358_359.out _; (with_reducible repeat (first | refine blk_drewN ?_ _ | refine blk_drew ?_ | refine blk_alloc ?_ _)); refine blk_far ?_ NB358_359.out _; (with_reducible repeat (first | refine blk_drewN ?_ _ | refine blk_drew ?_ | refine blk_alloc ?_ _)); refine blk_far ?_ NB358_359.out _; (with_reducible repeat (first | refine blk_drewN ?_ _ | refine blk_drew ?_ | refine blk_alloc ?_ _)); refine blk_far ?_ NB358_359.out _; (with_reducible repeat (first | refine blk_drewN ?_ _ | refine blk_drew ?_ | refine blk_alloc ?_ _)); refine blk_far ?_ NB358_359.out _; (with_reducible repeat (first | refine blk_drewN ?_ _ | refine blk_drew ?_ | refine blk_alloc ?_ _)); refine blk_far ?_ NB358_359.out _; exact BP BK358.out (by rfl)⟩
            have n6_ : Aside0 ((((((((((((w26.setCell ⟨gb358, 0, none⟩ (.int .i64 t344)).setCell ⟨gb358, 1, none⟩ (.slice Ao31 t345.length co31)).setCell ⟨gb358, 2, none⟩ (.int .i64 t348)).setCell ⟨gb359, 0, none⟩ (.int .i64 t349)).setCell ⟨gb359, 1, none⟩ (.int .i64 t350)).setCell ⟨gb359, 2, none⟩ (.int .i64 t351)).setCell ⟨gb359, 3, none⟩ (.int .i64 t352)).setCell ⟨gb359, 4, none⟩ (.int .i64 t353)).setCell ⟨gb359, 5, none⟩ (.int .i64 t354)).setCell ⟨gb359, 6, none⟩ (.string t355)).setCell ⟨gb359, 7, none⟩ (.int .i64 t356)).heap[gb359]? = some (.cells #[.int .i64 t349, .int .i64 t350, .int .i64 t351, .int .i64 t352, .int .i64 t353, .int .i64 t354, .string t355, .int .i64 t356] 36 (0, 0))) := ⟨by (with_reducible repeat (first | refine blk_drewN ?_ _ | refine blk_drew ?_ | refine blk_alloc ?_ _)); refine blk_put (cs := #[.int .i64 t349, .int .i64 t350, .int .i64 t351, .int .i64 t352, .int .i64 t353, .int .i64 t354, .string t355, .int .i64 0]) ?_ 7 _ rfl; (with_reducible repeat (first | refine blk_drewN ?_ _ | refine blk_drew ?_ | refine blk_alloc ?_ _)); refine blk_put (cs := #[.int .i64 t349, .int .i64 t350, .int .i64 t351, .int .i64 t352, .int .i64 t353, .int .i64 t354, .string (⟨#[]⟩ : ByteArray), .int .i64 0]) ?_ 6 _ rfl; (with_reducible repeat (first | refine blk_drewN ?_ _ | refine blk_drew ?_ | refine blk_alloc ?_ _)); refine blk_put (cs := #[.int .i64 t349, .int .i64 t350, .int .i64 t351, .int .i64 t352, .int .i64 t353, .int .i64 0, .string (⟨#[]⟩ : ByteArray), .int .i64 0]) ?_ 5 _ rfl; (with_reducible repeat (first | refine blk_drewN ?_ _ | refine blk_drew ?_ | refine blk_alloc ?_ _)); refine blk_put (cs := #[.int .i64 t349, .int .i64 t350, .int .i64 t351, .int .i64 t352, .int .i64 0, .int .i64 0, .string (⟨#[]⟩ : ByteArray), .int .i64 0]) ?_ 4 _ rfl; (with_reducible repeat (first | refine blk_drewN ?_ _ | refine blk_drew ?_ | refine blk_alloc ?_ _)); refine blk_put (cs := #[.int .i64 t349, .int .i64 t350, .int .i64 t351, .int .i64 0, .int .i64 0, .int .i64 0, .string (⟨#[]⟩ : ByteArray), .int .i64 0]) ?_ 3 _ rfl; (with_reducible repeat (first | refine blk_drewN ?_ _ | refine blk_drew ?_ | refine blk_alloc ?_ _)); refine blk_put (cs := #[.int .i64 t349, .int .i64 t350, .int .i64 0, .int .i64 0, .int .i64 0, .int .i64 0, .string (⟨#[]⟩ : ByteArray), .int .i64 0]) ?_ 2 _ rfl; (with_reducible repeat (first | refine blk_drewN ?_ _ | refine blk_drew ?_ | refine blk_alloc ?_ _)); refine blk_put (cs := #[.int .i64 t349, .int .i64 0, .int .i64 0, .int .i64 0, .int .i64 0, .int .i64 0, .string (⟨#[]⟩ : ByteArray), .int .i64 0]) ?_ 1 _ rfl; (with_reducible repeat (first | refine blk_drewN ?_ _ | refine blk_drew ?_ | refine blk_alloc ?_ _)); refine blk_put (cs := #[.int .i64 0, .int .i64 0, .int .i64 0, .int .i64 0, .int .i64 0, .int .i64 0, .string (⟨#[]⟩ : ByteArray), .int .i64 0]) ?_ 0 _ rfl; exact BF BK359.out NB359_358.out⟩
            have n7_ : Aside0 (Below w.heap.size w (((((((((((w26.setCell ⟨gb358, 0, none⟩ (.int .i64 t344)).setCell ⟨gb358, 1, none⟩ (.slice Ao31 t345.length co31)).setCell ⟨gb358, 2, none⟩ (.int .i64 t348)).setCell ⟨gb359, 0, none⟩ (.int .i64 t349)).setCell ⟨gb359, 1, none⟩ (.int .i64 t350)).setCell ⟨gb359, 2, none⟩ (.int .i64 t351)).setCell ⟨gb359, 3, none⟩ (.int .i64 t352)).setCell ⟨gb359, 4, none⟩ (.int .i64 t353)).setCell ⟨gb359, 5, none⟩ (.int .i64 t354)).setCell ⟨gb359, 6, none⟩ (.string t355)).setCell ⟨gb359, 7, none⟩ (.int .i64 t356))) := ⟨LG HB.out (G1 GE331.out (G1 GE343.out (G1 GE358.out (G1 GE359.out G0))))⟩
            (try clear HO338)
            (try clear HO342)
            (try clear HO347)
            (try clear BK331)
            (try clear BK343)
            (try clear BK358)
            (try clear BK359)
            (try clear HB)
            generalize (((((((((((w26.setCell ⟨gb358, 0, none⟩ (.int .i64 t344)).setCell ⟨gb358, 1, none⟩ (.slice Ao31 t345.length co31)).setCell ⟨gb358, 2, none⟩ (.int .i64 t348)).setCell ⟨gb359, 0, none⟩ (.int .i64 t349)).setCell ⟨gb359, 1, none⟩ (.int .i64 t350)).setCell ⟨gb359, 2, none⟩ (.int .i64 t351)).setCell ⟨gb359, 3, none⟩ (.int .i64 t352)).setCell ⟨gb359, 4, none⟩ (.int .i64 t353)).setCell ⟨gb359, 5, none⟩ (.int .i64 t354)).setCell ⟨gb359, 6, none⟩ (.string t355)).setCell ⟨gb359, 7, none⟩ (.int .i64 t356)) = w37 at n0_ n1_ n2_ n3_ n4_ n5_ n6_ n7_ ⊢
            have HO338 := n0_
            have HO342 := n1_
            have HO347 := n2_
            have BK331 := n3_
            have BK343 := n4_
            have BK358 := n5_
            have BK359 := n6_
            have HB := n7_
            clear n0_ n1_ n2_ n3_ n4_ n5_ n6_ n7_
            have n0_ := Aside0.mk (Kd.V_drew HO338.out)
            have n1_ := Aside0.mk (Kd.R_drew HO342.out)
            have n2_ := Aside0.mk (Kd.V_drew HO347.out)
            have n3_ := Aside0.mk (blk_drew BK331.out)
            have n4_ := Aside0.mk (blk_drew BK343.out)
            have n5_ := Aside0.mk (blk_drew BK358.out)
            have n6_ := Aside0.mk (blk_drew BK359.out)
            have n7_ := Aside0.mk (below_drew1 HB.out)
            clear HO338
            clear HO342
            clear HO347
            clear BK331
            clear BK343
            clear BK358
            clear BK359
            clear HB
            have HO338 := n0_
            have HO342 := n1_
            have HO347 := n2_
            have BK331 := n3_
            have BK343 := n4_
            have BK358 := n5_
            have BK359 := n6_
            have HB := n7_
            clear n0_ n1_ n2_ n3_ n4_ n5_ n6_ n7_
            obtain ⟨Ao39, co39, eo39⟩ := Kd.R_slice HO342.out
            (first | subst eo39 | (injection eo39 with f1_ f2_ f3_; have f4_ := f1_.symm; have f5_ := f3_.symm; clear f1_ f2_ f3_; subst f4_; subst f5_))
            refine start_ (n := 37) (S := fun w' => True) (ds := []) (tf 0 37) (by kernel_rfl) rfl rfl trivial (fun hHeld => ?_); refine with_tabW hopperlaw14_FeedReads.tab6 hopperlaw14_FeedReads.bits6 (fun HT_ HW_ => ?_)
            generalize w37.drew = w38 at HO338 HO342 HO347 BK331 BK343 BK358 BK359 HB hHeld ⊢
            refine pure_ (i := 0) (N := some 36) (v := ?_) (a' := ?_) (tf 1 37) rfl rfl (any_of HT_.out (by kernel_rfl)) (fun _ _ _ h => h) (Or.inl ⟨by rfl, ?_⟩) ?_ ?_
            rotate_left
            · intro w'
              go_simp
              with_reducible rfl
            rotate_left
            · simp only [Act.put, PU, i64_w, i32_w]
              rfl
            refine pure_ (i := 1) (N := some 37) (v := ?_) (a' := ?_) (tf 2 37) rfl rfl (any_of HT_.out (by kernel_rfl)) (fun _ _ _ h => h) (Or.inl ⟨by rfl, ?_⟩) ?_ ?_
            rotate_left
            · intro w'
              go_simp
              with_reducible rfl
            rotate_left
            · simp only [Act.put, PU, i64_w, i32_w]
              rfl
            refine pure_ (i := 2) (N := some 38) (v := ?_) (a' := ?_) (tf 3 37) rfl rfl (any_of HT_.out (by kernel_rfl)) (fun _ _ _ h => h) (Or.inl ⟨by rfl, ?_⟩) ?_ ?_
            rotate_left
            · intro w'
              go_simp
              with_reducible rfl
            rotate_left
            · simp only [Act.put, PU, i64_w, i32_w]
              rfl
            refine pure_ (i := 3) (N := some 39) (v := ?_) (a' := ?_) (tf 4 37) rfl rfl (any_of HT_.out (by kernel_rfl)) (fun _ _ _ h => h) (Or.inl ⟨by rfl, ?_⟩) ?_ ?_
            rotate_left
            · intro w'
              go_simp
              with_reducible rfl
            rotate_left
            · simp only [Act.put, PU, i64_w, i32_w]
              rfl
            refine pure_ (i := 4) (N := some 40) (v := ?_) (a' := ?_) (tf 5 37) rfl rfl (any_of HT_.out (by kernel_rfl)) (fun _ _ _ h => h) (Or.inl ⟨by rfl, ?_⟩) ?_ ?_
            rotate_left
            · intro w'
              go_simp
              with_reducible rfl
            rotate_left
            · simp only [Act.put, PU, i64_w, i32_w]
              rfl
            refine pure_ (i := 5) (N := some 41) (v := undef) (a' := ?_) (tf 6 37) rfl rfl (any_of HT_.out (by kernel_rfl)) (fun _ _ _ h => h) (Or.inr ⟨by rfl, rfl⟩) ?_ ?_
            rotate_left
            · simp only [Act.put, PU, i64_w, i32_w]
              rfl
            refine pure_ (i := 6) (N := some 42) (v := undef) (a' := ?_) (tf 7 37) rfl rfl (any_of HT_.out (by kernel_rfl)) (fun _ _ _ h => h) (Or.inr ⟨by rfl, rfl⟩) ?_ ?_
            rotate_left
            · simp only [Act.put, PU, i64_w, i32_w]
              rfl
            refine pure_ (i := 7) (N := some 43) (v := undef) (a' := ?_) (tf 8 37) rfl rfl (any_of HT_.out (by kernel_rfl)) (fun _ _ _ h => h) (Or.inr ⟨by rfl, rfl⟩) ?_ ?_
            rotate_left
            · simp only [Act.put, PU, i64_w, i32_w]
              rfl
            refine pure_ (i := 8) (N := some 44) (v := undef) (a' := ?_) (tf 9 37) rfl rfl (any_of HT_.out (by kernel_rfl)) (fun _ _ _ h => h) (Or.inr ⟨by rfl, rfl⟩) ?_ ?_
            rotate_left
            · simp only [Act.put, PU, i64_w, i32_w]
              rfl
            refine pure_ (i := 9) (N := some 45) (v := undef) (a' := ?_) (tf 10 37) rfl rfl (any_of HT_.out (by kernel_rfl)) (fun _ _ _ h => h) (Or.inr ⟨by rfl, rfl⟩) ?_ ?_
            rotate_left
            · simp only [Act.put, PU, i64_w, i32_w]
              rfl
            refine pure_ (i := 10) (N := some 46) (v := ?_) (a' := ?_) (tf 11 37) rfl rfl (any_of HT_.out (by kernel_rfl)) (fun _ _ _ h => h) (Or.inl ⟨by rfl, ?_⟩) ?_ ?_
            rotate_left
            · intro w'
              go_simp
              with_reducible rfl
            rotate_left
            · simp only [Act.put, PU, i64_w, i32_w]
              rfl
            refine pure_ (i := 11) (N := some 47) (v := ?_) (a' := ?_) (tf 12 37) rfl rfl (any_of HT_.out (by kernel_rfl)) (fun _ _ _ h => h) (Or.inl ⟨by rfl, ?_⟩) ?_ ?_
            rotate_left
            · intro w'
              go_simp
              with_reducible rfl
            rotate_left
            · simp only [Act.put, PU, i64_w, i32_w]
              rfl
            refine pure_ (i := 12) (N := some 48) (v := undef) (a' := ?_) (tf 13 37) rfl rfl (any_of HT_.out (by kernel_rfl)) (fun _ _ _ h => h) (Or.inr ⟨by rfl, rfl⟩) ?_ ?_
            rotate_left
            · simp only [Act.put, PU, i64_w, i32_w]
              rfl
            refine pure_ (i := 13) (N := some 49) (v := undef) (a' := ?_) (tf 14 37) rfl rfl (any_of HT_.out (by kernel_rfl)) (fun _ _ _ h => h) (Or.inr ⟨by rfl, rfl⟩) ?_ ?_
            rotate_left
            · simp only [Act.put, PU, i64_w, i32_w]
              rfl
            refine pure_ (i := 14) (N := some 50) (v := undef) (a' := ?_) (tf 15 37) rfl rfl (any_of HT_.out (by kernel_rfl)) (fun _ _ _ h => h) (Or.inr ⟨by rfl, rfl⟩) ?_ ?_
            rotate_left
            · simp only [Act.put, PU, i64_w, i32_w]
              rfl
            refine pure_ (i := 15) (N := some 51) (v := undef) (a' := ?_) (tf 16 37) rfl rfl (any_of HT_.out (by kernel_rfl)) (fun _ _ _ h => h) (Or.inr ⟨by rfl, rfl⟩) ?_ ?_
            rotate_left
            · simp only [Act.put, PU, i64_w, i32_w]
              rfl
            refine pure_ (i := 16) (N := some 52) (v := undef) (a' := ?_) (tf 17 37) rfl rfl (any_of HT_.out (by kernel_rfl)) (fun _ _ _ h => h) (Or.inr ⟨by rfl, rfl⟩) ?_ ?_
            rotate_left
            · simp only [Act.put, PU, i64_w, i32_w]
              rfl
            refine pure_ (i := 17) (N := some 53) (v := undef) (a' := ?_) (tf 18 37) rfl rfl (any_of HT_.out (by kernel_rfl)) (fun _ _ _ h => h) (Or.inr ⟨by rfl, rfl⟩) ?_ ?_
            rotate_left
            · simp only [Act.put, PU, i64_w, i32_w]
              rfl
            refine pure_ (i := 18) (N := some 54) (v := undef) (a' := ?_) (tf 19 37) rfl rfl (any_of HT_.out (by kernel_rfl)) (fun _ _ _ h => h) (Or.inr ⟨by rfl, rfl⟩) ?_ ?_
            rotate_left
            · simp only [Act.put, PU, i64_w, i32_w]
              rfl
            refine pure_ (i := 19) (N := some 55) (v := ?_) (a' := ?_) (tf 20 37) rfl rfl (any_of HT_.out (by kernel_rfl)) (fun _ _ _ h => h) (Or.inl ⟨by rfl, ?_⟩) ?_ ?_
            rotate_left
            · intro w'
              go_simp
              with_reducible rfl
            rotate_left
            · simp only [Act.put, PU, i64_w, i32_w]
              rfl
            refine pure_ (i := 20) (N := some 56) (v := ?_) (a' := ?_) (tf 21 37) rfl rfl (any_of HT_.out (by kernel_rfl)) (fun _ _ _ h => h) (Or.inl ⟨by rfl, ?_⟩) ?_ ?_
            rotate_left
            · intro w'
              go_simp
              with_reducible rfl
            rotate_left
            · simp only [Act.put, PU, i64_w, i32_w]
              rfl
            refine pure_ (i := 21) (N := some 57) (v := undef) (a' := ?_) (tf 22 37) rfl rfl (any_of HT_.out (by kernel_rfl)) (fun _ _ _ h => h) (Or.inr ⟨by rfl, rfl⟩) ?_ ?_
            rotate_left
            · simp only [Act.put, PU, i64_w, i32_w]
              rfl
            refine pure_ (i := 22) (N := some 58) (v := undef) (a' := ?_) (tf 23 37) rfl rfl (any_of HT_.out (by kernel_rfl)) (fun _ _ _ h => h) (Or.inr ⟨by rfl, rfl⟩) ?_ ?_
            rotate_left
            · simp only [Act.put, PU, i64_w, i32_w]
              rfl
            refine pure_ (i := 23) (N := some 59) (v := ?_) (a' := ?_) (tf 24 37) rfl rfl (any_of HT_.out (by kernel_rfl)) (fun _ _ _ h => h) (Or.inl ⟨by rfl, ?_⟩) ?_ ?_
            rotate_left
            · intro w'
              go_simp
              with_reducible rfl
            rotate_left
            · simp only [Act.put, PU, i64_w, i32_w]
              rfl
            refine pure_ (i := 24) (N := some 60) (v := ?_) (a' := ?_) (tf 25 37) rfl rfl (any_of HT_.out (by kernel_rfl)) (fun _ _ _ h => h) (Or.inl ⟨by rfl, ?_⟩) ?_ ?_
            rotate_left
            · intro w'
              go_simp
              with_reducible rfl
            rotate_left
            · simp only [Act.put, PU, i64_w, i32_w]
              rfl
            refine pure_ (i := 25) (N := some 61) (v := undef) (a' := ?_) (tf 26 37) rfl rfl (any_of HT_.out (by kernel_rfl)) (fun _ _ _ h => h) (Or.inr ⟨by rfl, rfl⟩) ?_ ?_
            rotate_left
            · simp only [Act.put, PU, i64_w, i32_w]
              rfl
            refine pure_ (i := 26) (N := some 62) (v := undef) (a' := ?_) (tf 27 37) rfl rfl (any_of HT_.out (by kernel_rfl)) (fun _ _ _ h => h) (Or.inr ⟨by rfl, rfl⟩) ?_ ?_
            rotate_left
            · simp only [Act.put, PU, i64_w, i32_w]
              rfl
            refine pure_ (i := 27) (N := some 63) (v := undef) (a' := ?_) (tf 28 37) rfl rfl (any_of HT_.out (by kernel_rfl)) (fun _ _ _ h => h) (Or.inr ⟨by rfl, rfl⟩) ?_ ?_
            rotate_left
            · simp only [Act.put, PU, i64_w, i32_w]
              rfl
            refine pure_ (i := 28) (N := some 64) (v := undef) (a' := ?_) (tf 29 37) rfl rfl (any_of HT_.out (by kernel_rfl)) (fun _ _ _ h => h) (Or.inr ⟨by rfl, rfl⟩) ?_ ?_
            rotate_left
            · simp only [Act.put, PU, i64_w, i32_w]
              rfl
            refine pure_ (i := 29) (N := some 65) (v := ?_) (a' := ?_) (tf 30 37) rfl rfl (any_of HT_.out (by kernel_rfl)) (fun _ _ _ h => h) (Or.inl ⟨by rfl, ?_⟩) ?_ ?_
            rotate_left
            · intro w'
              go_simp
              with_reducible rfl
            rotate_left
            · simp only [Act.put, PU, i64_w, i32_w]
              rfl
            refine pure_ (i := 30) (N := some 66) (v := ?_) (a' := ?_) (tf 31 37) rfl rfl (any_of HT_.out (by kernel_rfl)) (fun _ _ _ h => h) (Or.inl ⟨by rfl, ?_⟩) ?_ ?_
            rotate_left
            · intro w'
              go_simp
              with_reducible rfl
            rotate_left
            · simp only [Act.put, PU, i64_w, i32_w]
              rfl
            refine pure_ (i := 31) (N := some 67) (v := undef) (a' := ?_) (tf 32 37) rfl rfl (any_of HT_.out (by kernel_rfl)) (fun _ _ _ h => h) (Or.inr ⟨by rfl, rfl⟩) ?_ ?_
            rotate_left
            · simp only [Act.put, PU, i64_w, i32_w]
              rfl
            refine pure_ (i := 32) (N := some 68) (v := undef) (a' := ?_) (tf 33 37) rfl rfl (any_of HT_.out (by kernel_rfl)) (fun _ _ _ h => h) (Or.inr ⟨by rfl, rfl⟩) ?_ ?_
            rotate_left
            · simp only [Act.put, PU, i64_w, i32_w]
              rfl
            refine pure_ (i := 33) (N := some 69) (v := undef) (a' := ?_) (tf 34 37) rfl rfl (any_of HT_.out (by kernel_rfl)) (fun _ _ _ h => h) (Or.inr ⟨by rfl, rfl⟩) ?_ ?_
            rotate_left
            · simp only [Act.put, PU, i64_w, i32_w]
              rfl
            refine pure_ (i := 34) (N := some 70) (v := undef) (a' := ?_) (tf 35 37) rfl rfl (any_of HT_.out (by kernel_rfl)) (fun _ _ _ h => h) (Or.inr ⟨by rfl, rfl⟩) ?_ ?_
            rotate_left
            · simp only [Act.put, PU, i64_w, i32_w]
              rfl
            refine pure_ (i := 35) (N := some 71) (v := undef) (a' := ?_) (tf 36 37) rfl rfl (any_of HT_.out (by kernel_rfl)) (fun _ _ _ h => h) (Or.inr ⟨by rfl, rfl⟩) ?_ ?_
            rotate_left
            · simp only [Act.put, PU, i64_w, i32_w]
              rfl
            refine pure_ (i := 36) (N := some 72) (v := ?_) (a' := ?_) (tf 37 37) rfl rfl (any_of HT_.out (by kernel_rfl)) (fun _ _ _ h => h) (Or.inl ⟨by rfl, ?_⟩) ?_ ?_
            rotate_left
            · intro w'
              go_simp
              with_reducible rfl
            rotate_left
            · simp only [Act.put, PU, i64_w, i32_w]
              rfl
            refine done_ (done_of HT_.out (by kernel_rfl)) ?_
            try go_wp2
            go_meet
            case rel => exact ⟨_, (true), (by first | (rw [HR_.out]; done) | rfl | (rw [HR_.out]; rfl) | (simp [HR_.out]; done) | (simp; done) | (simp [*]; done)), H', ⟨by have := HJ2.out; first | omega | exact Nat.le_refl _⟩, ⟨by (with_reducible repeat (first | apply Kd.R_alloc | apply Kd.R_drewN | apply Kd.R_drew)); exact HO342.out⟩, ⟨by (with_reducible repeat (first | apply Kd.V_alloc | apply Kd.V_drewN | apply Kd.V_drew)); exact HO338.out⟩, ⟨by (with_reducible repeat (first | apply Kd.V_alloc | apply Kd.V_drewN | apply Kd.V_drew)); exact HO347.out⟩, ⟨by (with_reducible repeat (first | refine blk_drewN ?_ _ | refine blk_drew ?_ | refine blk_alloc ?_ _)); exact BK331.out⟩, ⟨by (with_reducible repeat (first | refine blk_drewN ?_ _ | refine blk_drew ?_ | refine blk_alloc ?_ _)); exact BK343.out⟩, ⟨by (with_reducible repeat (first | refine blk_drewN ?_ _ | refine blk_drew ?_ | refine blk_alloc ?_ _)); exact BK358.out⟩, ⟨by (with_reducible repeat (first | refine blk_drewN ?_ _ | refine blk_drew ?_ | refine blk_alloc ?_ _)); exact BK359.out⟩, ⟨LG HB.out (G1 GE331.out (G1 GE343.out (G1 GE358.out (G1 GE359.out G0))))⟩⟩
          · rw [if_neg c36] at H
            have c36b0 : decide ((t340.length : Int) < (l0_1.length : Int)) = false := decide_eq_false c36
            have c36b1 : decide (t340.length < l0_1.length) = false := decide_eq_false (fun h => c36 (Int.ofNat_lt.mpr h))
            clear c36
            (first | rw [c36b0] | (simp only [i64_w, i32_w]; rw [c36b0]) | skip)
            by_cases c40 : (t340.length : Int) > (wrap64 ((l0_1.length : Int) + 1))
            · rw [if_pos c40] at H
              have c40b0 : decide ((wrap64 ((l0_1.length : Int) + 1)) < (t340.length : Int)) = true := decide_eq_true c40
              clear c40
              have H' := Aside0.mk H
              clear H
              try go_wp2
              have n0_ : Aside0 (Kd.V k36 36 (((((((((((w26.setCell ⟨gb358, 0, none⟩ (.int .i64 t344)).setCell ⟨gb358, 1, none⟩ (.slice Ao31 t345.length co31)).setCell ⟨gb358, 2, none⟩ (.int .i64 t348)).setCell ⟨gb359, 0, none⟩ (.int .i64 t349)).setCell ⟨gb359, 1, none⟩ (.int .i64 t350)).setCell ⟨gb359, 2, none⟩ (.int .i64 t351)).setCell ⟨gb359, 3, none⟩ (.int .i64 t352)).setCell ⟨gb359, 4, none⟩ (.int .i64 t353)).setCell ⟨gb359, 5, none⟩ (.int .i64 t354)).setCell ⟨gb359, 6, none⟩ (.string t355)).setCell ⟨gb359, 7, none⟩ (.int .i64 t356)) w.heap.size (fun k_ => some k_ ≠ (v341 : Value).ownBlock ∧ k_ ≠ gb331 ∧ k_ ≠ gb343 ∧ k_ ≠ gb358 ∧ k_ ≠ gb359) (.slice Ao21 t336.length co21) t336) := ⟨by (with_reducible repeat (first | apply Kd.V_alloc | apply Kd.V_drewN | apply Kd.V_drew)); exact Kd.V_mono (Kd.V_ms (gs := [gb359, gb358]) (Kd.V_mono (Kd.V_mono HO338.out (fun k_ hk => (⟨hk, hk.1.2⟩ : _ ∧ k_ ≠ gb358))) (fun k_ hk => (⟨hk, hk.1.2⟩ : _ ∧ k_ ≠ gb359))) (fun _ hk => N1 (hk.2) (N1 (hk.1.2) (N0)))) (fun _ hk => ⟨hk.1.1.1.1.1, ⟨hk.1.1.1.1.2.1, ⟨hk.1.1.1.1.2.2, ⟨hk.1.1.1.2, hk.1.1.2⟩⟩⟩⟩)⟩
              have n1_ : Aside0 (Kd.R k36 36 (((((((((((w26.setCell ⟨gb358, 0, none⟩ (.int .i64 t344)).setCell ⟨gb358, 1, none⟩ (.slice Ao31 t345.length co31)).setCell ⟨gb358, 2, none⟩ (.int .i64 t348)).setCell ⟨gb359, 0, none⟩ (.int .i64 t349)).setCell ⟨gb359, 1, none⟩ (.int .i64 t350)).setCell ⟨gb359, 2, none⟩ (.int .i64 t351)).setCell ⟨gb359, 3, none⟩ (.int .i64 t352)).setCell ⟨gb359, 4, none⟩ (.int .i64 t353)).setCell ⟨gb359, 5, none⟩ (.int .i64 t354)).setCell ⟨gb359, 6, none⟩ (.string t355)).setCell ⟨gb359, 7, none⟩ (.int .i64 t356)) w.heap.size (fun k_ => k_ ≠ gb359) v341 t340) := ⟨by (with_reducible repeat (first | apply Kd.R_alloc | apply Kd.R_drewN | apply Kd.R_drew)); exact Kd.R_mono (Kd.R_ms (gs := [gb359, gb358]) (Kd.R_mono (Kd.R_types HO342.out BK358.out (by decide)) (fun k_ hk => (⟨hk, hk.1.2⟩ : _ ∧ k_ ≠ gb359))) (fun _ hk => N1 (hk.2) (N1 (hk.1.2) (N0)))) (fun _ hk => hk.1.1.2)⟩
              have n2_ : Aside0 (Kd.V k36 36 (((((((((((w26.setCell ⟨gb358, 0, none⟩ (.int .i64 t344)).setCell ⟨gb358, 1, none⟩ (.slice Ao31 t345.length co31)).setCell ⟨gb358, 2, none⟩ (.int .i64 t348)).setCell ⟨gb359, 0, none⟩ (.int .i64 t349)).setCell ⟨gb359, 1, none⟩ (.int .i64 t350)).setCell ⟨gb359, 2, none⟩ (.int .i64 t351)).setCell ⟨gb359, 3, none⟩ (.int .i64 t352)).setCell ⟨gb359, 4, none⟩ (.int .i64 t353)).setCell ⟨gb359, 5, none⟩ (.int .i64 t354)).setCell ⟨gb359, 6, none⟩ (.string t355)).setCell ⟨gb359, 7, none⟩ (.int .i64 t356)) w.heap.size (fun k_ => some k_ ≠ (v341 : Value).ownBlock ∧ k_ ≠ gb331 ∧ k_ ≠ gb343 ∧ k_ ≠ gb358 ∧ k_ ≠ gb359) (.slice Ao31 t345.length co31) t345) := ⟨by (with_reducible repeat (first | apply Kd.V_alloc | apply Kd.V_drewN | apply Kd.V_drew)); exact Kd.V_mono (Kd.V_ms (gs := [gb359, gb358]) (Kd.V_mono (Kd.V_mono HO347.out (fun k_ hk => (⟨hk, hk.1.2⟩ : _ ∧ k_ ≠ gb358))) (fun k_ hk => (⟨hk, hk.1.2⟩ : _ ∧ k_ ≠ gb359))) (fun _ hk => N1 (hk.2) (N1 (hk.1.2) (N0)))) (fun _ hk => ⟨hk.1.1.1.1.1, ⟨hk.1.1.1.1.2.1, ⟨hk.1.1.1.1.2.2, ⟨hk.1.1.1.2, hk.1.1.2⟩⟩⟩⟩)⟩
              have n3_ : Aside0 ((((((((((((w26.setCell ⟨gb358, 0, none⟩ (.int .i64 t344)).setCell ⟨gb358, 1, none⟩ (.slice Ao31 t345.length co31)).setCell ⟨gb358, 2, none⟩ (.int .i64 t348)).setCell ⟨gb359, 0, none⟩ (.int .i64 t349)).setCell ⟨gb359, 1, none⟩ (.int .i64 t350)).setCell ⟨gb359, 2, none⟩ (.int .i64 t351)).setCell ⟨gb359, 3, none⟩ (.int .i64 t352)).setCell ⟨gb359, 4, none⟩ (.int .i64 t353)).setCell ⟨gb359, 5, none⟩ (.int .i64 t354)).setCell ⟨gb359, 6, none⟩ (.string t355)).setCell ⟨gb359, 7, none⟩ (.int .i64 t356)).heap[gb331]? = some (.cells #[.int .i64 a0_0, .slice A0_1 l0_1.length c0_1, .int .i64 a0_2] 24 (0, 0))) := ⟨by exact BM BK331.out (N1 NB331_359.out (N1 NB331_358.out N0))⟩
              have n4_ : Aside0 ((((((((((((w26.setCell ⟨gb358, 0, none⟩ (.int .i64 t344)).setCell ⟨gb358, 1, none⟩ (.slice Ao31 t345.length co31)).setCell ⟨gb358, 2, none⟩ (.int .i64 t348)).setCell ⟨gb359, 0, none⟩ (.int .i64 t349)).setCell ⟨gb359, 1, none⟩ (.int .i64 t350)).setCell ⟨gb359, 2, none⟩ (.int .i64 t351)).setCell ⟨gb359, 3, none⟩ (.int .i64 t352)).setCell ⟨gb359, 4, none⟩ (.int .i64 t353)).setCell ⟨gb359, 5, none⟩ (.int .i64 t354)).setCell ⟨gb359, 6, none⟩ (.string t355)).setCell ⟨gb359, 7, none⟩ (.int .i64 t356)).heap[gb343]? = some (.cells #[.int .i64 t335, .slice Ao21 t336.length co21, .int .i64 t339] 27 (0, 0))) := ⟨by exact BM BK343.out (N1 NB343_359.out (N1 NB343_358.out N0))⟩
              have n5_ : Aside0 ((((((((((((w26.setCell ⟨gb358, 0, none⟩ (.int .i64 t344)).setCell ⟨gb358, 1, none⟩ (.slice Ao31 t345.length co31)).setCell ⟨gb358, 2, none⟩ (.int .i64 t348)).setCell ⟨gb359, 0, none⟩ (.int .i64 t349)).setCell ⟨gb359, 1, none⟩ (.int .i64 t350)).setCell ⟨gb359, 2, none⟩ (.int .i64 t351)).setCell ⟨gb359, 3, none⟩ (.int .i64 t352)).setCell ⟨gb359, 4, none⟩ (.int .i64 t353)).setCell ⟨gb359, 5, none⟩ (.int .i64 t354)).setCell ⟨gb359, 6, none⟩ (.string t355)).setCell ⟨gb359, 7, none⟩ (.int .i64 t356)).heap[gb358]? = some (.cells #[.int .i64 t344, .slice Ao31 t345.length co31, .int .i64 t348] 27 (0, 0))) := ⟨by (with_reducible repeat (first | refine blk_drewN ?_ _ | refine blk_drew ?_ | refine blk_alloc ?_ _)); refine blk_far ?_ NB358_359.out _; (with_reducible repeat (first | refine blk_drewN ?_ _ | refine blk_drew ?_ | refine blk_alloc ?_ _)); refine blk_far ?_ NB358_359.out _; (with_reducible repeat (first | refine blk_drewN ?_ _ | refine blk_drew ?_ | refine blk_alloc ?_ _)); refine blk_far ?_ NB358_359.out _; (with_reducible repeat (first | refine blk_drewN ?_ _ | refine blk_drew ?_ | refine blk_alloc ?_ _)); refine blk_far ?_ NB358_359.out _; (with_reducible repeat (first | refine blk_drewN ?_ _ | refine blk_drew ?_ | refine blk_alloc ?_ _)); refine blk_far ?_ NB358_359.out _; (with_reducible repeat (first | refine blk_drewN ?_ _ | refine blk_drew ?_ | refine blk_alloc ?_ _)); refine blk_far ?_ NB358_359.out _; (with_reducible repeat (first | refine blk_drewN ?_ _ | refine blk_drew ?_ | refine blk_alloc ?_ _)); refine blk_far ?_ NB358_359.out _; (with_reducible repeat (first | refine blk_drewN ?_ _ | refine blk_drew ?_ | refine blk_alloc ?_ _)); refine blk_far ?_ NB358_359.out _; exact BP BK358.out (by rfl)⟩
              have n6_ : Aside0 ((((((((((((w26.setCell ⟨gb358, 0, none⟩ (.int .i64 t344)).setCell ⟨gb358, 1, none⟩ (.slice Ao31 t345.length co31)).setCell ⟨gb358, 2, none⟩ (.int .i64 t348)).setCell ⟨gb359, 0, none⟩ (.int .i64 t349)).setCell ⟨gb359, 1, none⟩ (.int .i64 t350)).setCell ⟨gb359, 2, none⟩ (.int .i64 t351)).setCell ⟨gb359, 3, none⟩ (.int .i64 t352)).setCell ⟨gb359, 4, none⟩ (.int .i64 t353)).setCell ⟨gb359, 5, none⟩ (.int .i64 t354)).setCell ⟨gb359, 6, none⟩ (.string t355)).setCell ⟨gb359, 7, none⟩ (.int .i64 t356)).heap[gb359]? = some (.cells #[.int .i64 t349, .int .i64 t350, .int .i64 t351, .int .i64 t352, .int .i64 t353, .int .i64 t354, .string t355, .int .i64 t356] 36 (0, 0))) := ⟨by (with_reducible repeat (first | refine blk_drewN ?_ _ | refine blk_drew ?_ | refine blk_alloc ?_ _)); refine blk_put (cs := #[.int .i64 t349, .int .i64 t350, .int .i64 t351, .int .i64 t352, .int .i64 t353, .int .i64 t354, .string t355, .int .i64 0]) ?_ 7 _ rfl; (with_reducible repeat (first | refine blk_drewN ?_ _ | refine blk_drew ?_ | refine blk_alloc ?_ _)); refine blk_put (cs := #[.int .i64 t349, .int .i64 t350, .int .i64 t351, .int .i64 t352, .int .i64 t353, .int .i64 t354, .string (⟨#[]⟩ : ByteArray), .int .i64 0]) ?_ 6 _ rfl; (with_reducible repeat (first | refine blk_drewN ?_ _ | refine blk_drew ?_ | refine blk_alloc ?_ _)); refine blk_put (cs := #[.int .i64 t349, .int .i64 t350, .int .i64 t351, .int .i64 t352, .int .i64 t353, .int .i64 0, .string (⟨#[]⟩ : ByteArray), .int .i64 0]) ?_ 5 _ rfl; (with_reducible repeat (first | refine blk_drewN ?_ _ | refine blk_drew ?_ | refine blk_alloc ?_ _)); refine blk_put (cs := #[.int .i64 t349, .int .i64 t350, .int .i64 t351, .int .i64 t352, .int .i64 0, .int .i64 0, .string (⟨#[]⟩ : ByteArray), .int .i64 0]) ?_ 4 _ rfl; (with_reducible repeat (first | refine blk_drewN ?_ _ | refine blk_drew ?_ | refine blk_alloc ?_ _)); refine blk_put (cs := #[.int .i64 t349, .int .i64 t350, .int .i64 t351, .int .i64 0, .int .i64 0, .int .i64 0, .string (⟨#[]⟩ : ByteArray), .int .i64 0]) ?_ 3 _ rfl; (with_reducible repeat (first | refine blk_drewN ?_ _ | refine blk_drew ?_ | refine blk_alloc ?_ _)); refine blk_put (cs := #[.int .i64 t349, .int .i64 t350, .int .i64 0, .int .i64 0, .int .i64 0, .int .i64 0, .string (⟨#[]⟩ : ByteArray), .int .i64 0]) ?_ 2 _ rfl; (with_reducible repeat (first | refine blk_drewN ?_ _ | refine blk_drew ?_ | refine blk_alloc ?_ _)); refine blk_put (cs := #[.int .i64 t349, .int .i64 0, .int .i64 0, .int .i64 0, .int .i64 0, .int .i64 0, .string (⟨#[]⟩ : ByteArray), .int .i64 0]) ?_ 1 _ rfl; (with_reducible repeat (first | refine blk_drewN ?_ _ | refine blk_drew ?_ | refine blk_alloc ?_ _)); refine blk_put (cs := #[.int .i64 0, .int .i64 0, .int .i64 0, .int .i64 0, .int .i64 0, .int .i64 0, .string (⟨#[]⟩ : ByteArray), .int .i64 0]) ?_ 0 _ rfl; exact BF BK359.out NB359_358.out⟩
              have n7_ : Aside0 (Below w.heap.size w (((((((((((w26.setCell ⟨gb358, 0, none⟩ (.int .i64 t344)).setCell ⟨gb358, 1, none⟩ (.slice Ao31 t345.length co31)).setCell ⟨gb358, 2, none⟩ (.int .i64 t348)).setCell ⟨gb359, 0, none⟩ (.int .i64 t349)).setCell ⟨gb359, 1, none⟩ (.int .i64 t350)).setCell ⟨gb359, 2, none⟩ (.int .i64 t351)).setCell ⟨gb359, 3, none⟩ (.int .i64 t352)).setCell ⟨gb359, 4, none⟩ (.int .i64 t353)).setCell ⟨gb359, 5, none⟩ (.int .i64 t354)).setCell ⟨gb359, 6, none⟩ (.string t355)).setCell ⟨gb359, 7, none⟩ (.int .i64 t356))) := ⟨LG HB.out (G1 GE331.out (G1 GE343.out (G1 GE358.out (G1 GE359.out G0))))⟩
              (try clear HO338)
              (try clear HO342)
              (try clear HO347)
              (try clear BK331)
              (try clear BK343)
              (try clear BK358)
              (try clear BK359)
              (try clear HB)
              generalize (((((((((((w26.setCell ⟨gb358, 0, none⟩ (.int .i64 t344)).setCell ⟨gb358, 1, none⟩ (.slice Ao31 t345.length co31)).setCell ⟨gb358, 2, none⟩ (.int .i64 t348)).setCell ⟨gb359, 0, none⟩ (.int .i64 t349)).setCell ⟨gb359, 1, none⟩ (.int .i64 t350)).setCell ⟨gb359, 2, none⟩ (.int .i64 t351)).setCell ⟨gb359, 3, none⟩ (.int .i64 t352)).setCell ⟨gb359, 4, none⟩ (.int .i64 t353)).setCell ⟨gb359, 5, none⟩ (.int .i64 t354)).setCell ⟨gb359, 6, none⟩ (.string t355)).setCell ⟨gb359, 7, none⟩ (.int .i64 t356)) = w41 at n0_ n1_ n2_ n3_ n4_ n5_ n6_ n7_ ⊢
              have HO338 := n0_
              have HO342 := n1_
              have HO347 := n2_
              have BK331 := n3_
              have BK343 := n4_
              have BK358 := n5_
              have BK359 := n6_
              have HB := n7_
              clear n0_ n1_ n2_ n3_ n4_ n5_ n6_ n7_
              have n0_ := Aside0.mk (Kd.V_drew HO338.out)
              have n1_ := Aside0.mk (Kd.R_drew HO342.out)
              have n2_ := Aside0.mk (Kd.V_drew HO347.out)
              have n3_ := Aside0.mk (blk_drew BK331.out)
              have n4_ := Aside0.mk (blk_drew BK343.out)
              have n5_ := Aside0.mk (blk_drew BK358.out)
              have n6_ := Aside0.mk (blk_drew BK359.out)
              have n7_ := Aside0.mk (below_drew1 HB.out)
              clear HO338
              clear HO342
              clear HO347
              clear BK331
              clear BK343
              clear BK358
              clear BK359
              clear HB
              have HO338 := n0_
              have HO342 := n1_
              have HO347 := n2_
              have BK331 := n3_
              have BK343 := n4_
              have BK358 := n5_
              have BK359 := n6_
              have HB := n7_
              clear n0_ n1_ n2_ n3_ n4_ n5_ n6_ n7_
              obtain ⟨Ao43, co43, eo43⟩ := Kd.R_slice HO342.out
              (first | subst eo43 | (injection eo43 with f1_ f2_ f3_; have f4_ := f1_.symm; have f5_ := f3_.symm; clear f1_ f2_ f3_; subst f4_; subst f5_))
              refine start_ (n := 37) (S := fun w' => True) (ds := []) (tf 0 37) (by kernel_rfl) rfl rfl trivial (fun hHeld => ?_); refine with_tabW hopperlaw14_FeedReads.tab6 hopperlaw14_FeedReads.bits6 (fun HT_ HW_ => ?_)
              generalize w41.drew = w42 at HO338 HO342 HO347 BK331 BK343 BK358 BK359 HB hHeld ⊢
              refine pure_ (i := 0) (N := some 36) (v := ?_) (a' := ?_) (tf 1 37) rfl rfl (any_of HT_.out (by kernel_rfl)) (fun _ _ _ h => h) (Or.inl ⟨by rfl, ?_⟩) ?_ ?_
              rotate_left
              · intro w'
                go_simp
                with_reducible rfl
              rotate_left
              · simp only [Act.put, PU, i64_w, i32_w]
                rfl
              refine pure_ (i := 1) (N := some 37) (v := ?_) (a' := ?_) (tf 2 37) rfl rfl (any_of HT_.out (by kernel_rfl)) (fun _ _ _ h => h) (Or.inl ⟨by rfl, ?_⟩) ?_ ?_
              rotate_left
              · intro w'
                go_simp
                with_reducible rfl
              rotate_left
              · simp only [Act.put, PU, i64_w, i32_w]
                rfl
              refine pure_ (i := 2) (N := some 38) (v := ?_) (a' := ?_) (tf 3 37) rfl rfl (any_of HT_.out (by kernel_rfl)) (fun _ _ _ h => h) (Or.inl ⟨by rfl, ?_⟩) ?_ ?_
              rotate_left
              · intro w'
                go_simp
                with_reducible rfl
              rotate_left
              · simp only [Act.put, PU, i64_w, i32_w]
                rfl
              refine pure_ (i := 3) (N := some 39) (v := ?_) (a' := ?_) (tf 4 37) rfl rfl (any_of HT_.out (by kernel_rfl)) (fun _ _ _ h => h) (Or.inl ⟨by rfl, ?_⟩) ?_ ?_
              rotate_left
              · intro w'
                go_simp
                with_reducible rfl
              rotate_left
              · simp only [Act.put, PU, i64_w, i32_w]
                rfl
              refine pure_ (i := 4) (N := some 40) (v := ?_) (a' := ?_) (tf 5 37) rfl rfl (any_of HT_.out (by kernel_rfl)) (fun _ _ _ h => h) (Or.inl ⟨by rfl, ?_⟩) ?_ ?_
              rotate_left
              · intro w'
                go_simp
                with_reducible rfl
              rotate_left
              · simp only [Act.put, PU, i64_w, i32_w]
                rfl
              refine pure_ (i := 5) (N := some 41) (v := ?_) (a' := ?_) (tf 6 37) rfl rfl (any_of HT_.out (by kernel_rfl)) (fun _ _ _ h => h) (Or.inl ⟨by rfl, ?_⟩) ?_ ?_
              rotate_left
              · intro w'
                go_simp
                with_reducible rfl
              rotate_left
              · simp only [Act.put, PU, i64_w, i32_w]
                rfl
              refine pure_ (i := 6) (N := some 42) (v := ?_) (a' := ?_) (tf 7 37) rfl rfl (any_of HT_.out (by kernel_rfl)) (fun _ _ _ h => h) (Or.inl ⟨by rfl, ?_⟩) ?_ ?_
              rotate_left
              · intro w'
                go_simp
                with_reducible rfl
              rotate_left
              · simp only [Act.put, PU, i64_w, i32_w]
                rfl
              refine pure_ (i := 7) (N := some 43) (v := ?_) (a' := ?_) (tf 8 37) rfl rfl (any_of HT_.out (by kernel_rfl)) (fun _ _ _ h => h) (Or.inl ⟨by rfl, ?_⟩) ?_ ?_
              rotate_left
              · intro w'
                go_simp
                with_reducible rfl
              rotate_left
              · simp only [Act.put, PU, i64_w, i32_w]
                rfl
              refine pure_ (i := 8) (N := some 44) (v := ?_) (a' := ?_) (tf 9 37) rfl rfl (any_of HT_.out (by kernel_rfl)) (fun _ _ _ h => h) (Or.inl ⟨by rfl, ?_⟩) ?_ ?_
              rotate_left
              · intro w'
                go_simp
                with_reducible rfl
              rotate_left
              · simp only [Act.put, PU, i64_w, i32_w]
                rfl
              refine pure_ (i := 9) (N := some 45) (v := ?_) (a' := ?_) (tf 10 37) rfl rfl (any_of HT_.out (by kernel_rfl)) (fun _ _ _ h => h) (Or.inl ⟨by rfl, ?_⟩) ?_ ?_
              rotate_left
              · intro w'
                go_simp
                with_reducible rfl
              rotate_left
              · simp only [Act.put, PU, i64_w, i32_w]
                rfl
              refine pure_ (i := 10) (N := some 46) (v := ?_) (a' := ?_) (tf 11 37) rfl rfl (any_of HT_.out (by kernel_rfl)) (fun _ _ _ h => h) (Or.inl ⟨by rfl, ?_⟩) ?_ ?_
              rotate_left
              · intro w'
                go_simp
                with_reducible rfl
              rotate_left
              · simp only [Act.put, PU, i64_w, i32_w]
                rfl
              refine pure_ (i := 11) (N := some 47) (v := ?_) (a' := ?_) (tf 12 37) rfl rfl (any_of HT_.out (by kernel_rfl)) (fun _ _ _ h => h) (Or.inl ⟨by rfl, ?_⟩) ?_ ?_
              rotate_left
              · intro w'
                go_simp
                with_reducible rfl
              rotate_left
              · simp only [Act.put, PU, i64_w, i32_w]
                rfl
              refine pure_ (i := 12) (N := some 48) (v := undef) (a' := ?_) (tf 13 37) rfl rfl (any_of HT_.out (by kernel_rfl)) (fun _ _ _ h => h) (Or.inr ⟨by rfl, rfl⟩) ?_ ?_
              rotate_left
              · simp only [Act.put, PU, i64_w, i32_w]
                rfl
              refine pure_ (i := 13) (N := some 49) (v := undef) (a' := ?_) (tf 14 37) rfl rfl (any_of HT_.out (by kernel_rfl)) (fun _ _ _ h => h) (Or.inr ⟨by rfl, rfl⟩) ?_ ?_
              rotate_left
              · simp only [Act.put, PU, i64_w, i32_w]
                rfl
              refine pure_ (i := 14) (N := some 50) (v := undef) (a' := ?_) (tf 15 37) rfl rfl (any_of HT_.out (by kernel_rfl)) (fun _ _ _ h => h) (Or.inr ⟨by rfl, rfl⟩) ?_ ?_
              rotate_left
              · simp only [Act.put, PU, i64_w, i32_w]
                rfl
              refine pure_ (i := 15) (N := some 51) (v := undef) (a' := ?_) (tf 16 37) rfl rfl (any_of HT_.out (by kernel_rfl)) (fun _ _ _ h => h) (Or.inr ⟨by rfl, rfl⟩) ?_ ?_
              rotate_left
              · simp only [Act.put, PU, i64_w, i32_w]
                rfl
              refine pure_ (i := 16) (N := some 52) (v := undef) (a' := ?_) (tf 17 37) rfl rfl (any_of HT_.out (by kernel_rfl)) (fun _ _ _ h => h) (Or.inr ⟨by rfl, rfl⟩) ?_ ?_
              rotate_left
              · simp only [Act.put, PU, i64_w, i32_w]
                rfl
              refine pure_ (i := 17) (N := some 53) (v := undef) (a' := ?_) (tf 18 37) rfl rfl (any_of HT_.out (by kernel_rfl)) (fun _ _ _ h => h) (Or.inr ⟨by rfl, rfl⟩) ?_ ?_
              rotate_left
              · simp only [Act.put, PU, i64_w, i32_w]
                rfl
              refine pure_ (i := 18) (N := some 54) (v := undef) (a' := ?_) (tf 19 37) rfl rfl (any_of HT_.out (by kernel_rfl)) (fun _ _ _ h => h) (Or.inr ⟨by rfl, rfl⟩) ?_ ?_
              rotate_left
              · simp only [Act.put, PU, i64_w, i32_w]
                rfl
              refine pure_ (i := 19) (N := some 55) (v := ?_) (a' := ?_) (tf 20 37) rfl rfl (any_of HT_.out (by kernel_rfl)) (fun _ _ _ h => h) (Or.inl ⟨by rfl, ?_⟩) ?_ ?_
              rotate_left
              · intro w'
                go_simp
                with_reducible rfl
              rotate_left
              · simp only [Act.put, PU, i64_w, i32_w]
                rfl
              refine pure_ (i := 20) (N := some 56) (v := ?_) (a' := ?_) (tf 21 37) rfl rfl (any_of HT_.out (by kernel_rfl)) (fun _ _ _ h => h) (Or.inl ⟨by rfl, ?_⟩) ?_ ?_
              rotate_left
              · intro w'
                go_simp
                with_reducible rfl
              rotate_left
              · simp only [Act.put, PU, i64_w, i32_w]
                rfl
              refine pure_ (i := 21) (N := some 57) (v := undef) (a' := ?_) (tf 22 37) rfl rfl (any_of HT_.out (by kernel_rfl)) (fun _ _ _ h => h) (Or.inr ⟨by rfl, rfl⟩) ?_ ?_
              rotate_left
              · simp only [Act.put, PU, i64_w, i32_w]
                rfl
              refine pure_ (i := 22) (N := some 58) (v := undef) (a' := ?_) (tf 23 37) rfl rfl (any_of HT_.out (by kernel_rfl)) (fun _ _ _ h => h) (Or.inr ⟨by rfl, rfl⟩) ?_ ?_
              rotate_left
              · simp only [Act.put, PU, i64_w, i32_w]
                rfl
              refine pure_ (i := 23) (N := some 59) (v := ?_) (a' := ?_) (tf 24 37) rfl rfl (any_of HT_.out (by kernel_rfl)) (fun _ _ _ h => h) (Or.inl ⟨by rfl, ?_⟩) ?_ ?_
              rotate_left
              · intro w'
                go_simp
                with_reducible rfl
              rotate_left
              · simp only [Act.put, PU, i64_w, i32_w]
                rfl
              refine pure_ (i := 24) (N := some 60) (v := ?_) (a' := ?_) (tf 25 37) rfl rfl (any_of HT_.out (by kernel_rfl)) (fun _ _ _ h => h) (Or.inl ⟨by rfl, ?_⟩) ?_ ?_
              rotate_left
              · intro w'
                go_simp
                with_reducible rfl
              rotate_left
              · simp only [Act.put, PU, i64_w, i32_w]
                rfl
              refine pure_ (i := 25) (N := some 61) (v := undef) (a' := ?_) (tf 26 37) rfl rfl (any_of HT_.out (by kernel_rfl)) (fun _ _ _ h => h) (Or.inr ⟨by rfl, rfl⟩) ?_ ?_
              rotate_left
              · simp only [Act.put, PU, i64_w, i32_w]
                rfl
              refine pure_ (i := 26) (N := some 62) (v := undef) (a' := ?_) (tf 27 37) rfl rfl (any_of HT_.out (by kernel_rfl)) (fun _ _ _ h => h) (Or.inr ⟨by rfl, rfl⟩) ?_ ?_
              rotate_left
              · simp only [Act.put, PU, i64_w, i32_w]
                rfl
              refine pure_ (i := 27) (N := some 63) (v := undef) (a' := ?_) (tf 28 37) rfl rfl (any_of HT_.out (by kernel_rfl)) (fun _ _ _ h => h) (Or.inr ⟨by rfl, rfl⟩) ?_ ?_
              rotate_left
              · simp only [Act.put, PU, i64_w, i32_w]
                rfl
              refine pure_ (i := 28) (N := some 64) (v := undef) (a' := ?_) (tf 29 37) rfl rfl (any_of HT_.out (by kernel_rfl)) (fun _ _ _ h => h) (Or.inr ⟨by rfl, rfl⟩) ?_ ?_
              rotate_left
              · simp only [Act.put, PU, i64_w, i32_w]
                rfl
              refine pure_ (i := 29) (N := some 65) (v := ?_) (a' := ?_) (tf 30 37) rfl rfl (any_of HT_.out (by kernel_rfl)) (fun _ _ _ h => h) (Or.inl ⟨by rfl, ?_⟩) ?_ ?_
              rotate_left
              · intro w'
                go_simp
                with_reducible rfl
              rotate_left
              · simp only [Act.put, PU, i64_w, i32_w]
                rfl
              refine pure_ (i := 30) (N := some 66) (v := ?_) (a' := ?_) (tf 31 37) rfl rfl (any_of HT_.out (by kernel_rfl)) (fun _ _ _ h => h) (Or.inl ⟨by rfl, ?_⟩) ?_ ?_
              rotate_left
              · intro w'
                go_simp
                with_reducible rfl
              rotate_left
              · simp only [Act.put, PU, i64_w, i32_w]
                rfl
              refine pure_ (i := 31) (N := some 67) (v := undef) (a' := ?_) (tf 32 37) rfl rfl (any_of HT_.out (by kernel_rfl)) (fun _ _ _ h => h) (Or.inr ⟨by rfl, rfl⟩) ?_ ?_
              rotate_left
              · simp only [Act.put, PU, i64_w, i32_w]
                rfl
              refine pure_ (i := 32) (N := some 68) (v := undef) (a' := ?_) (tf 33 37) rfl rfl (any_of HT_.out (by kernel_rfl)) (fun _ _ _ h => h) (Or.inr ⟨by rfl, rfl⟩) ?_ ?_
              rotate_left
              · simp only [Act.put, PU, i64_w, i32_w]
                rfl
              refine pure_ (i := 33) (N := some 69) (v := undef) (a' := ?_) (tf 34 37) rfl rfl (any_of HT_.out (by kernel_rfl)) (fun _ _ _ h => h) (Or.inr ⟨by rfl, rfl⟩) ?_ ?_
              rotate_left
              · simp only [Act.put, PU, i64_w, i32_w]
                rfl
              refine pure_ (i := 34) (N := some 70) (v := undef) (a' := ?_) (tf 35 37) rfl rfl (any_of HT_.out (by kernel_rfl)) (fun _ _ _ h => h) (Or.inr ⟨by rfl, rfl⟩) ?_ ?_
              rotate_left
              · simp only [Act.put, PU, i64_w, i32_w]
                rfl
              refine pure_ (i := 35) (N := some 71) (v := undef) (a' := ?_) (tf 36 37) rfl rfl (any_of HT_.out (by kernel_rfl)) (fun _ _ _ h => h) (Or.inr ⟨by rfl, rfl⟩) ?_ ?_
              rotate_left
              · simp only [Act.put, PU, i64_w, i32_w]
                rfl
              refine pure_ (i := 36) (N := some 72) (v := ?_) (a' := ?_) (tf 37 37) rfl rfl (any_of HT_.out (by kernel_rfl)) (fun _ _ _ h => h) (Or.inl ⟨by rfl, ?_⟩) ?_ ?_
              rotate_left
              · intro w'
                go_simp
                with_reducible rfl
              rotate_left
              · simp only [Act.put, PU, i64_w, i32_w]
                rfl
              refine done_ (done_of HT_.out (by kernel_rfl)) ?_
              try go_wp2
              go_meet
              case rel => exact ⟨_, (true), (by first | (rw [HR_.out]; done) | rfl | (rw [HR_.out]; rfl) | (simp [HR_.out]; done) | (simp; done) | (simp [*]; done)), H', ⟨by have := HJ2.out; first | omega | exact Nat.le_refl _⟩, ⟨by (with_reducible repeat (first | apply Kd.R_alloc | apply Kd.R_drewN | apply Kd.R_drew)); exact HO342.out⟩, ⟨by (with_reducible repeat (first | apply Kd.V_alloc | apply Kd.V_drewN | apply Kd.V_drew)); exact HO338.out⟩, ⟨by (with_reducible repeat (first | apply Kd.V_alloc | apply Kd.V_drewN | apply Kd.V_drew)); exact HO347.out⟩, ⟨by (with_reducible repeat (first | refine blk_drewN ?_ _ | refine blk_drew ?_ | refine blk_alloc ?_ _)); exact BK331.out⟩, ⟨by (with_reducible repeat (first | refine blk_drewN ?_ _ | refine blk_drew ?_ | refine blk_alloc ?_ _)); exact BK343.out⟩, ⟨by (with_reducible repeat (first | refine blk_drewN ?_ _ | refine blk_drew ?_ | refine blk_alloc ?_ _)); exact BK358.out⟩, ⟨by (with_reducible repeat (first | refine blk_drewN ?_ _ | refine blk_drew ?_ | refine blk_alloc ?_ _)); exact BK359.out⟩, ⟨LG HB.out (G1 GE331.out (G1 GE343.out (G1 GE358.out (G1 GE359.out G0))))⟩⟩
            · rw [if_neg c40] at H
              have c40b0 : decide ((wrap64 ((l0_1.length : Int) + 1)) < (t340.length : Int)) = false := decide_eq_false c40
              clear c40
              by_cases c44 : 0 ≤ (l0_1.length : Int)
              rotate_left
              · rw [if_neg c44] at H
                exact absurd H (by simp)
              rw [if_pos c44] at H
              have c44b0 := eq_true c44
              have c44b1 : decide (0 ≤ (l0_1.length : Int)) = true := decide_eq_true c44
              clear c44
              by_cases c45 : (l0_1.length : Int) ≤ (t340.length : Int)
              rotate_left
              · rw [if_neg c45] at H
                exact absurd H (by simp)
              rw [if_pos c45] at H
              have c45b0 := eq_true c45
              have c45b1 : decide ((l0_1.length : Int) ≤ (t340.length : Int)) = true := decide_eq_true c45
              clear c45
              obtain ⟨y360, hy360⟩ : ∃ y_ : List (S36), y_ = (t340.take ((l0_1.length : Int) : Int).toNat) := ⟨_, rfl⟩
              replace H : ((hopperref13_Events.f kj2 y360 l0_1).bind fun t364 => (if t364 = true then (if t357 = 7 then (if (t336.length : Int) = 0 then (hopperlaw14_FeedReads.j1 kj2 l1 t340 (l0_1.length : Int) (t335 != a0_0) a0_0 l0_1 a0_2 t335 t336 t339) else (hopperlaw14_FeedReads.j1 kj2 l1 t340 (l0_1.length : Int) true a0_0 l0_1 a0_2 t335 t336 t339)) else (hopperlaw14_FeedReads.j1 kj2 l1 t340 (l0_1.length : Int) true a0_0 l0_1 a0_2 t335 t336 t339)) else (hopperlaw14_FeedReads.j1 kj2 l1 t340 (l0_1.length : Int) true a0_0 l0_1 a0_2 t335 t336 t339))) = some true := by first | (rw [hy360]; with_reducible exact H) | (have H2_ := (Option.bind_some _ _).symm.trans H; rw [hy360]; with_reducible exact H2_) | (have H2_ := (Option.bind_some _ _).symm.trans H; with_reducible exact H2_) | with_reducible exact H | (rw [hy360]; exact H) | exact H
              have Ny360 := Aside0.mk hy360
              clear hy360
              replace H := Option.bind_eq_some_iff.mp H
              obtain ⟨t364, A460, H⟩ := H
              try dsimp only at H
              have A46 := Aside0.mk A460
              clear A460
              by_cases c47 : t364 = true
              · subst c47
                have H1 : (if t357 = 7 then (if (t336.length : Int) = 0 then (hopperlaw14_FeedReads.j1 kj2 l1 t340 (l0_1.length : Int) (t335 != a0_0) a0_0 l0_1 a0_2 t335 t336 t339) else (hopperlaw14_FeedReads.j1 kj2 l1 t340 (l0_1.length : Int) true a0_0 l0_1 a0_2 t335 t336 t339)) else (hopperlaw14_FeedReads.j1 kj2 l1 t340 (l0_1.length : Int) true a0_0 l0_1 a0_2 t335 t336 t339)) = some true := by rw [if_pos rfl] at H; exact H
                clear H
                have H := H1
                clear H1
                by_cases c48 : t357 = 7
                · rw [if_pos c48] at H
                  have c48b0 : (t357 == 7) = true := beq_iff_eq.mpr c48
                  have c48b1 : (t357 != 7) = false := bne_eq_false_iff_eq.mpr c48
                  clear c48
                  by_cases c49 : (t336.length : Int) = 0
                  · rw [if_pos c49] at H
                    have c49b0 : ((t336.length : Int) == 0) = true := beq_iff_eq.mpr c49
                    have c49b1 : ((t336.length : Int) != 0) = false := bne_eq_false_iff_eq.mpr c49
                    clear c49
                    have H' := Aside0.mk H
                    clear H
                    try go_wp2
                    have n0_ : Aside0 (Kd.V k36 36 (((((((((((w26.setCell ⟨gb358, 0, none⟩ (.int .i64 t344)).setCell ⟨gb358, 1, none⟩ (.slice Ao31 t345.length co31)).setCell ⟨gb358, 2, none⟩ (.int .i64 t348)).setCell ⟨gb359, 0, none⟩ (.int .i64 t349)).setCell ⟨gb359, 1, none⟩ (.int .i64 t350)).setCell ⟨gb359, 2, none⟩ (.int .i64 t351)).setCell ⟨gb359, 3, none⟩ (.int .i64 t352)).setCell ⟨gb359, 4, none⟩ (.int .i64 t353)).setCell ⟨gb359, 5, none⟩ (.int .i64 t354)).setCell ⟨gb359, 6, none⟩ (.string t355)).setCell ⟨gb359, 7, none⟩ (.int .i64 t356)) w.heap.size (fun k_ => some k_ ≠ (v341 : Value).ownBlock ∧ k_ ≠ gb331 ∧ k_ ≠ gb343 ∧ k_ ≠ gb358 ∧ k_ ≠ gb359) (.slice Ao21 t336.length co21) t336) := ⟨by (with_reducible repeat (first | apply Kd.V_alloc | apply Kd.V_drewN | apply Kd.V_drew)); exact Kd.V_mono (Kd.V_ms (gs := [gb359, gb358]) (Kd.V_mono (Kd.V_mono HO338.out (fun k_ hk => (⟨hk, hk.1.2⟩ : _ ∧ k_ ≠ gb358))) (fun k_ hk => (⟨hk, hk.1.2⟩ : _ ∧ k_ ≠ gb359))) (fun _ hk => N1 (hk.2) (N1 (hk.1.2) (N0)))) (fun _ hk => ⟨hk.1.1.1.1.1, ⟨hk.1.1.1.1.2.1, ⟨hk.1.1.1.1.2.2, ⟨hk.1.1.1.2, hk.1.1.2⟩⟩⟩⟩)⟩
                    have n1_ : Aside0 (Kd.R k36 36 (((((((((((w26.setCell ⟨gb358, 0, none⟩ (.int .i64 t344)).setCell ⟨gb358, 1, none⟩ (.slice Ao31 t345.length co31)).setCell ⟨gb358, 2, none⟩ (.int .i64 t348)).setCell ⟨gb359, 0, none⟩ (.int .i64 t349)).setCell ⟨gb359, 1, none⟩ (.int .i64 t350)).setCell ⟨gb359, 2, none⟩ (.int .i64 t351)).setCell ⟨gb359, 3, none⟩ (.int .i64 t352)).setCell ⟨gb359, 4, none⟩ (.int .i64 t353)).setCell ⟨gb359, 5, none⟩ (.int .i64 t354)).setCell ⟨gb359, 6, none⟩ (.string t355)).setCell ⟨gb359, 7, none⟩ (.int .i64 t356)) w.heap.size (fun k_ => k_ ≠ gb359) v341 t340) := ⟨by (with_reducible repeat (first | apply Kd.R_alloc | apply Kd.R_drewN | apply Kd.R_drew)); exact Kd.R_mono (Kd.R_ms (gs := [gb359, gb358]) (Kd.R_mono (Kd.R_types HO342.out BK358.out (by decide)) (fun k_ hk => (⟨hk, hk.1.2⟩ : _ ∧ k_ ≠ gb359))) (fun _ hk => N1 (hk.2) (N1 (hk.1.2) (N0)))) (fun _ hk => hk.1.1.2)⟩
                    have n2_ : Aside0 (Kd.V k36 36 (((((((((((w26.setCell ⟨gb358, 0, none⟩ (.int .i64 t344)).setCell ⟨gb358, 1, none⟩ (.slice Ao31 t345.length co31)).setCell ⟨gb358, 2, none⟩ (.int .i64 t348)).setCell ⟨gb359, 0, none⟩ (.int .i64 t349)).setCell ⟨gb359, 1, none⟩ (.int .i64 t350)).setCell ⟨gb359, 2, none⟩ (.int .i64 t351)).setCell ⟨gb359, 3, none⟩ (.int .i64 t352)).setCell ⟨gb359, 4, none⟩ (.int .i64 t353)).setCell ⟨gb359, 5, none⟩ (.int .i64 t354)).setCell ⟨gb359, 6, none⟩ (.string t355)).setCell ⟨gb359, 7, none⟩ (.int .i64 t356)) w.heap.size (fun k_ => some k_ ≠ (v341 : Value).ownBlock ∧ k_ ≠ gb331 ∧ k_ ≠ gb343 ∧ k_ ≠ gb358 ∧ k_ ≠ gb359) (.slice Ao31 t345.length co31) t345) := ⟨by (with_reducible repeat (first | apply Kd.V_alloc | apply Kd.V_drewN | apply Kd.V_drew)); exact Kd.V_mono (Kd.V_ms (gs := [gb359, gb358]) (Kd.V_mono (Kd.V_mono HO347.out (fun k_ hk => (⟨hk, hk.1.2⟩ : _ ∧ k_ ≠ gb358))) (fun k_ hk => (⟨hk, hk.1.2⟩ : _ ∧ k_ ≠ gb359))) (fun _ hk => N1 (hk.2) (N1 (hk.1.2) (N0)))) (fun _ hk => ⟨hk.1.1.1.1.1, ⟨hk.1.1.1.1.2.1, ⟨hk.1.1.1.1.2.2, ⟨hk.1.1.1.2, hk.1.1.2⟩⟩⟩⟩)⟩
                    have n3_ : Aside0 ((((((((((((w26.setCell ⟨gb358, 0, none⟩ (.int .i64 t344)).setCell ⟨gb358, 1, none⟩ (.slice Ao31 t345.length co31)).setCell ⟨gb358, 2, none⟩ (.int .i64 t348)).setCell ⟨gb359, 0, none⟩ (.int .i64 t349)).setCell ⟨gb359, 1, none⟩ (.int .i64 t350)).setCell ⟨gb359, 2, none⟩ (.int .i64 t351)).setCell ⟨gb359, 3, none⟩ (.int .i64 t352)).setCell ⟨gb359, 4, none⟩ (.int .i64 t353)).setCell ⟨gb359, 5, none⟩ (.int .i64 t354)).setCell ⟨gb359, 6, none⟩ (.string t355)).setCell ⟨gb359, 7, none⟩ (.int .i64 t356)).heap[gb331]? = some (.cells #[.int .i64 a0_0, .slice A0_1 l0_1.length c0_1, .int .i64 a0_2] 24 (0, 0))) := ⟨by exact BM BK331.out (N1 NB331_359.out (N1 NB331_358.out N0))⟩
                    have n4_ : Aside0 ((((((((((((w26.setCell ⟨gb358, 0, none⟩ (.int .i64 t344)).setCell ⟨gb358, 1, none⟩ (.slice Ao31 t345.length co31)).setCell ⟨gb358, 2, none⟩ (.int .i64 t348)).setCell ⟨gb359, 0, none⟩ (.int .i64 t349)).setCell ⟨gb359, 1, none⟩ (.int .i64 t350)).setCell ⟨gb359, 2, none⟩ (.int .i64 t351)).setCell ⟨gb359, 3, none⟩ (.int .i64 t352)).setCell ⟨gb359, 4, none⟩ (.int .i64 t353)).setCell ⟨gb359, 5, none⟩ (.int .i64 t354)).setCell ⟨gb359, 6, none⟩ (.string t355)).setCell ⟨gb359, 7, none⟩ (.int .i64 t356)).heap[gb343]? = some (.cells #[.int .i64 t335, .slice Ao21 t336.length co21, .int .i64 t339] 27 (0, 0))) := ⟨by exact BM BK343.out (N1 NB343_359.out (N1 NB343_358.out N0))⟩
                    have n5_ : Aside0 ((((((((((((w26.setCell ⟨gb358, 0, none⟩ (.int .i64 t344)).setCell ⟨gb358, 1, none⟩ (.slice Ao31 t345.length co31)).setCell ⟨gb358, 2, none⟩ (.int .i64 t348)).setCell ⟨gb359, 0, none⟩ (.int .i64 t349)).setCell ⟨gb359, 1, none⟩ (.int .i64 t350)).setCell ⟨gb359, 2, none⟩ (.int .i64 t351)).setCell ⟨gb359, 3, none⟩ (.int .i64 t352)).setCell ⟨gb359, 4, none⟩ (.int .i64 t353)).setCell ⟨gb359, 5, none⟩ (.int .i64 t354)).setCell ⟨gb359, 6, none⟩ (.string t355)).setCell ⟨gb359, 7, none⟩ (.int .i64 t356)).heap[gb358]? = some (.cells #[.int .i64 t344, .slice Ao31 t345.length co31, .int .i64 t348] 27 (0, 0))) := ⟨by (with_reducible repeat (first | refine blk_drewN ?_ _ | refine blk_drew ?_ | refine blk_alloc ?_ _)); refine blk_far ?_ NB358_359.out _; (with_reducible repeat (first | refine blk_drewN ?_ _ | refine blk_drew ?_ | refine blk_alloc ?_ _)); refine blk_far ?_ NB358_359.out _; (with_reducible repeat (first | refine blk_drewN ?_ _ | refine blk_drew ?_ | refine blk_alloc ?_ _)); refine blk_far ?_ NB358_359.out _; (with_reducible repeat (first | refine blk_drewN ?_ _ | refine blk_drew ?_ | refine blk_alloc ?_ _)); refine blk_far ?_ NB358_359.out _; (with_reducible repeat (first | refine blk_drewN ?_ _ | refine blk_drew ?_ | refine blk_alloc ?_ _)); refine blk_far ?_ NB358_359.out _; (with_reducible repeat (first | refine blk_drewN ?_ _ | refine blk_drew ?_ | refine blk_alloc ?_ _)); refine blk_far ?_ NB358_359.out _; (with_reducible repeat (first | refine blk_drewN ?_ _ | refine blk_drew ?_ | refine blk_alloc ?_ _)); refine blk_far ?_ NB358_359.out _; (with_reducible repeat (first | refine blk_drewN ?_ _ | refine blk_drew ?_ | refine blk_alloc ?_ _)); refine blk_far ?_ NB358_359.out _; exact BP BK358.out (by rfl)⟩
                    have n6_ : Aside0 ((((((((((((w26.setCell ⟨gb358, 0, none⟩ (.int .i64 t344)).setCell ⟨gb358, 1, none⟩ (.slice Ao31 t345.length co31)).setCell ⟨gb358, 2, none⟩ (.int .i64 t348)).setCell ⟨gb359, 0, none⟩ (.int .i64 t349)).setCell ⟨gb359, 1, none⟩ (.int .i64 t350)).setCell ⟨gb359, 2, none⟩ (.int .i64 t351)).setCell ⟨gb359, 3, none⟩ (.int .i64 t352)).setCell ⟨gb359, 4, none⟩ (.int .i64 t353)).setCell ⟨gb359, 5, none⟩ (.int .i64 t354)).setCell ⟨gb359, 6, none⟩ (.string t355)).setCell ⟨gb359, 7, none⟩ (.int .i64 t356)).heap[gb359]? = some (.cells #[.int .i64 t349, .int .i64 t350, .int .i64 t351, .int .i64 t352, .int .i64 t353, .int .i64 t354, .string t355, .int .i64 t356] 36 (0, 0))) := ⟨by (with_reducible repeat (first | refine blk_drewN ?_ _ | refine blk_drew ?_ | refine blk_alloc ?_ _)); refine blk_put (cs := #[.int .i64 t349, .int .i64 t350, .int .i64 t351, .int .i64 t352, .int .i64 t353, .int .i64 t354, .string t355, .int .i64 0]) ?_ 7 _ rfl; (with_reducible repeat (first | refine blk_drewN ?_ _ | refine blk_drew ?_ | refine blk_alloc ?_ _)); refine blk_put (cs := #[.int .i64 t349, .int .i64 t350, .int .i64 t351, .int .i64 t352, .int .i64 t353, .int .i64 t354, .string (⟨#[]⟩ : ByteArray), .int .i64 0]) ?_ 6 _ rfl; (with_reducible repeat (first | refine blk_drewN ?_ _ | refine blk_drew ?_ | refine blk_alloc ?_ _)); refine blk_put (cs := #[.int .i64 t349, .int .i64 t350, .int .i64 t351, .int .i64 t352, .int .i64 t353, .int .i64 0, .string (⟨#[]⟩ : ByteArray), .int .i64 0]) ?_ 5 _ rfl; (with_reducible repeat (first | refine blk_drewN ?_ _ | refine blk_drew ?_ | refine blk_alloc ?_ _)); refine blk_put (cs := #[.int .i64 t349, .int .i64 t350, .int .i64 t351, .int .i64 t352, .int .i64 0, .int .i64 0, .string (⟨#[]⟩ : ByteArray), .int .i64 0]) ?_ 4 _ rfl; (with_reducible repeat (first | refine blk_drewN ?_ _ | refine blk_drew ?_ | refine blk_alloc ?_ _)); refine blk_put (cs := #[.int .i64 t349, .int .i64 t350, .int .i64 t351, .int .i64 0, .int .i64 0, .int .i64 0, .string (⟨#[]⟩ : ByteArray), .int .i64 0]) ?_ 3 _ rfl; (with_reducible repeat (first | refine blk_drewN ?_ _ | refine blk_drew ?_ | refine blk_alloc ?_ _)); refine blk_put (cs := #[.int .i64 t349, .int .i64 t350, .int .i64 0, .int .i64 0, .int .i64 0, .int .i64 0, .string (⟨#[]⟩ : ByteArray), .int .i64 0]) ?_ 2 _ rfl; (with_reducible repeat (first | refine blk_drewN ?_ _ | refine blk_drew ?_ | refine blk_alloc ?_ _)); refine blk_put (cs := #[.int .i64 t349, .int .i64 0, .int .i64 0, .int .i64 0, .int .i64 0, .int .i64 0, .string (⟨#[]⟩ : ByteArray), .int .i64 0]) ?_ 1 _ rfl; (with_reducible repeat (first | refine blk_drewN ?_ _ | refine blk_drew ?_ | refine blk_alloc ?_ _)); refine blk_put (cs := #[.int .i64 0, .int .i64 0, .int .i64 0, .int .i64 0, .int .i64 0, .int .i64 0, .string (⟨#[]⟩ : ByteArray), .int .i64 0]) ?_ 0 _ rfl; exact BF BK359.out NB359_358.out⟩
                    have n7_ : Aside0 (Below w.heap.size w (((((((((((w26.setCell ⟨gb358, 0, none⟩ (.int .i64 t344)).setCell ⟨gb358, 1, none⟩ (.slice Ao31 t345.length co31)).setCell ⟨gb358, 2, none⟩ (.int .i64 t348)).setCell ⟨gb359, 0, none⟩ (.int .i64 t349)).setCell ⟨gb359, 1, none⟩ (.int .i64 t350)).setCell ⟨gb359, 2, none⟩ (.int .i64 t351)).setCell ⟨gb359, 3, none⟩ (.int .i64 t352)).setCell ⟨gb359, 4, none⟩ (.int .i64 t353)).setCell ⟨gb359, 5, none⟩ (.int .i64 t354)).setCell ⟨gb359, 6, none⟩ (.string t355)).setCell ⟨gb359, 7, none⟩ (.int .i64 t356))) := ⟨LG HB.out (G1 GE331.out (G1 GE343.out (G1 GE358.out (G1 GE359.out G0))))⟩
                    (try clear HO338)
                    (try clear HO342)
                    (try clear HO347)
                    (try clear BK331)
                    (try clear BK343)
                    (try clear BK358)
                    (try clear BK359)
                    (try clear HB)
                    generalize (((((((((((w26.setCell ⟨gb358, 0, none⟩ (.int .i64 t344)).setCell ⟨gb358, 1, none⟩ (.slice Ao31 t345.length co31)).setCell ⟨gb358, 2, none⟩ (.int .i64 t348)).setCell ⟨gb359, 0, none⟩ (.int .i64 t349)).setCell ⟨gb359, 1, none⟩ (.int .i64 t350)).setCell ⟨gb359, 2, none⟩ (.int .i64 t351)).setCell ⟨gb359, 3, none⟩ (.int .i64 t352)).setCell ⟨gb359, 4, none⟩ (.int .i64 t353)).setCell ⟨gb359, 5, none⟩ (.int .i64 t354)).setCell ⟨gb359, 6, none⟩ (.string t355)).setCell ⟨gb359, 7, none⟩ (.int .i64 t356)) = w50 at n0_ n1_ n2_ n3_ n4_ n5_ n6_ n7_ ⊢
                    have HO338 := n0_
                    have HO342 := n1_
                    have HO347 := n2_
                    have BK331 := n3_
                    have BK343 := n4_
                    have BK358 := n5_
                    have BK359 := n6_
                    have HB := n7_
                    clear n0_ n1_ n2_ n3_ n4_ n5_ n6_ n7_
                    have n0_ := Aside0.mk (Kd.V_drew HO338.out)
                    have n1_ := Aside0.mk (Kd.R_drew HO342.out)
                    have n2_ := Aside0.mk (Kd.V_drew HO347.out)
                    have n3_ := Aside0.mk (blk_drew BK331.out)
                    have n4_ := Aside0.mk (blk_drew BK343.out)
                    have n5_ := Aside0.mk (blk_drew BK358.out)
                    have n6_ := Aside0.mk (blk_drew BK359.out)
                    have n7_ := Aside0.mk (below_drew1 HB.out)
                    clear HO338
                    clear HO342
                    clear HO347
                    clear BK331
                    clear BK343
                    clear BK358
                    clear BK359
                    clear HB
                    have HO338 := n0_
                    have HO342 := n1_
                    have HO347 := n2_
                    have BK331 := n3_
                    have BK343 := n4_
                    have BK358 := n5_
                    have BK359 := n6_
                    have HB := n7_
                    clear n0_ n1_ n2_ n3_ n4_ n5_ n6_ n7_
                    obtain ⟨Ao52, co52, eo52⟩ := Kd.R_slice HO342.out
                    (first | subst eo52 | (injection eo52 with f1_ f2_ f3_; have f4_ := f1_.symm; have f5_ := f3_.symm; clear f1_ f2_ f3_; subst f4_; subst f5_))
                    have q53 : ((l0_1.length : Int) : Int) ≤ ((t340.length : Int) : Int) := of_decide_eq_true (by first | (with_reducible assumption) | assumption)
                    obtain ⟨i053, hi053, _, hsz53, _⟩ := info_parts info36
                    have hroom53 : t340.length ≤ co52 := (Kd.R_reads' HO342.out).2.1
                    have hC53 : Kd.C k36 _ Ao52 t340.length t340 := (Kd.R_reads' HO342.out).2.2
                    have hcut53 := cut_to (P := Try.prog) 22 36 .i64 Try.underlying22 hi053 Ao52 t340.length co52 (l0_1.length : Int) (of_decide_eq_true (by first | (with_reducible assumption) | assumption)) q53 hroom53
                    have hr53 := Kd.C_take (m := ((l0_1.length : Int) : Int).toNat) hC53 (by omega)
                    have hy53 : y360.length = ((l0_1.length : Int) : Int).toNat := (by rw [Ny360.out, List.length_take]; omega)
                    rw [← Ny360.out] at hr53
                    rw [← hy53] at hcut53
                    have HR363 := Aside0.mk hr53
                    have HC363 := Aside0.mk (show y360.length ≤ co52 from by omega)
                    clear hr53 hC53 hroom53 hi053 hsz53
                    have KY53 := Aside0.mk hy53
                    clear hy53
                    have KL53 := Aside0.mk (show ((l0_1.length : Int) : Int).toNat ≤ t340.length from by omega)
                    replace q53 := eq_true q53
                    refine start_ (n := 37) (S := fun w' => w'.cell? ⟨gb331, 0, none⟩ = some (.int .i64 a0_0) ∧ w'.cell? ⟨gb331, 1, none⟩ = some (.slice A0_1 l0_1.length c0_1) ∧ w'.cell? ⟨gb331, 2, none⟩ = some (.int .i64 a0_2) ∧ w'.cell? ⟨gb343, 0, none⟩ = some (.int .i64 t335) ∧ w'.cell? ⟨gb343, 1, none⟩ = some (.slice Ao21 t336.length co21) ∧ w'.cell? ⟨gb343, 2, none⟩ = some (.int .i64 t339)) (ds := []) (tf 0 37) (by kernel_rfl) rfl rfl ⟨(blk_cell BK331.out 0).trans rfl, (blk_cell BK331.out 1).trans rfl, (blk_cell BK331.out 2).trans rfl, (blk_cell BK343.out 0).trans rfl, (blk_cell BK343.out 1).trans rfl, (blk_cell BK343.out 2).trans rfl⟩ (fun hHeld => ?_); refine with_tabW hopperlaw14_FeedReads.tab6 hopperlaw14_FeedReads.bits6 (fun HT_ HW_ => ?_)
                    generalize w50.drew = w51 at HO338 HO342 HO347 BK331 BK343 BK358 BK359 HB HR363 hHeld ⊢
                    refine pure_ (i := 0) (N := some 36) (v := ?_) (a' := ?_) (tf 1 37) rfl rfl (any_of HT_.out (by kernel_rfl)) (fun _ _ _ h => h) (Or.inl ⟨by rfl, ?_⟩) ?_ ?_
                    rotate_left
                    · intro w'
                      go_simp
                      with_reducible rfl
                    rotate_left
                    · simp only [Act.put, PU, i64_w, i32_w]
                      rfl
                    refine pure_ (i := 1) (N := some 37) (v := ?_) (a' := ?_) (tf 2 37) rfl rfl (any_of HT_.out (by kernel_rfl)) (fun _ _ _ h => h) (Or.inl ⟨by rfl, ?_⟩) ?_ ?_
                    rotate_left
                    · intro w'
                      go_simp
                      with_reducible rfl
                    rotate_left
                    · simp only [Act.put, PU, i64_w, i32_w]
                      rfl
                    refine pure_ (i := 2) (N := some 38) (v := ?_) (a' := ?_) (tf 3 37) rfl rfl (any_of HT_.out (by kernel_rfl)) (fun _ _ _ h => h) (Or.inl ⟨by rfl, ?_⟩) ?_ ?_
                    rotate_left
                    · intro w'
                      go_simp
                      with_reducible rfl
                    rotate_left
                    · simp only [Act.put, PU, i64_w, i32_w]
                      rfl
                    refine pure_ (i := 3) (N := some 39) (v := ?_) (a' := ?_) (tf 4 37) rfl rfl (any_of HT_.out (by kernel_rfl)) (fun _ _ _ h => h) (Or.inl ⟨by rfl, ?_⟩) ?_ ?_
                    rotate_left
                    · intro w'
                      go_simp
                      with_reducible rfl
                    rotate_left
                    · simp only [Act.put, PU, i64_w, i32_w]
                      rfl
                    refine pure_ (i := 4) (N := some 40) (v := ?_) (a' := ?_) (tf 5 37) rfl rfl (any_of HT_.out (by kernel_rfl)) (fun _ _ _ h => h) (Or.inl ⟨by rfl, ?_⟩) ?_ ?_
                    rotate_left
                    · intro w'
                      go_simp
                      with_reducible rfl
                    rotate_left
                    · simp only [Act.put, PU, i64_w, i32_w]
                      rfl
                    refine pure_ (i := 5) (N := some 41) (v := ?_) (a' := ?_) (tf 6 37) rfl rfl (any_of HT_.out (by kernel_rfl)) (fun _ _ _ h => h) (Or.inl ⟨by rfl, ?_⟩) ?_ ?_
                    rotate_left
                    · intro w'
                      go_simp
                      with_reducible rfl
                    rotate_left
                    · simp only [Act.put, PU, i64_w, i32_w]
                      rfl
                    refine pure_ (i := 6) (N := some 42) (v := ?_) (a' := ?_) (tf 7 37) rfl rfl (any_of HT_.out (by kernel_rfl)) (fun _ _ _ h => h) (Or.inl ⟨by rfl, ?_⟩) ?_ ?_
                    rotate_left
                    · intro w'
                      go_simp
                      with_reducible rfl
                    rotate_left
                    · simp only [Act.put, PU, i64_w, i32_w]
                      rfl
                    refine pure_ (i := 7) (N := some 43) (v := ?_) (a' := ?_) (tf 8 37) rfl rfl (any_of HT_.out (by kernel_rfl)) (fun _ _ _ h => h) (Or.inl ⟨by rfl, ?_⟩) ?_ ?_
                    rotate_left
                    · intro w'
                      go_simp
                      with_reducible rfl
                    rotate_left
                    · simp only [Act.put, PU, i64_w, i32_w]
                      rfl
                    refine pure_ (i := 8) (N := some 44) (v := ?_) (a' := ?_) (tf 9 37) rfl rfl (any_of HT_.out (by kernel_rfl)) (fun _ _ _ h => h) (Or.inl ⟨by rfl, ?_⟩) ?_ ?_
                    rotate_left
                    · intro w'
                      go_simp
                      with_reducible rfl
                    rotate_left
                    · simp only [Act.put, PU, i64_w, i32_w]
                      rfl
                    refine pure_ (i := 9) (N := some 45) (v := ?_) (a' := ?_) (tf 10 37) rfl rfl (any_of HT_.out (by kernel_rfl)) (fun _ _ _ h => h) (Or.inl ⟨by rfl, ?_⟩) ?_ ?_
                    rotate_left
                    · intro w'
                      go_simp
                      with_reducible rfl
                    rotate_left
                    · simp only [Act.put, PU, i64_w, i32_w]
                      rfl
                    refine pure_ (i := 10) (N := some 46) (v := ?_) (a' := ?_) (tf 11 37) rfl rfl (any_of HT_.out (by kernel_rfl)) (fun _ _ _ h => h) (Or.inl ⟨by rfl, ?_⟩) ?_ ?_
                    rotate_left
                    · intro w'
                      go_simp
                      with_reducible rfl
                    rotate_left
                    · simp only [Act.put, PU, i64_w, i32_w]
                      rfl
                    refine pure_ (i := 11) (N := some 47) (v := ?_) (a' := ?_) (tf 12 37) rfl rfl (any_of HT_.out (by kernel_rfl)) (fun _ _ _ h => h) (Or.inl ⟨by rfl, ?_⟩) ?_ ?_
                    rotate_left
                    · intro w'
                      go_simp
                      with_reducible rfl
                    rotate_left
                    · simp only [Act.put, PU, i64_w, i32_w]
                      rfl
                    refine pure_ (i := 12) (N := some 48) (v := ?_) (a' := ?_) (tf 13 37) rfl rfl (any_of HT_.out (by kernel_rfl)) (fun _ _ _ h => h) (Or.inl ⟨by rfl, ?_⟩) ?_ ?_
                    rotate_left
                    · intro w'
                      go_simp
                      with_reducible rfl
                    rotate_left
                    · simp only [Act.put, PU, i64_w, i32_w]
                      rfl
                    refine pure_ (i := 13) (N := some 49) (v := ?_) (a' := ?_) (tf 14 37) rfl rfl (any_of HT_.out (by kernel_rfl)) (fun _ _ _ h => h) (Or.inl ⟨by rfl, ?_⟩) ?_ ?_
                    rotate_left
                    · intro w'
                      go_simp
                      with_reducible rfl
                    rotate_left
                    · simp only [Act.put, PU, i64_w, i32_w]
                      rfl
                    refine pure_ (i := 14) (N := some 50) (v := ?_) (a' := ?_) (tf 15 37) rfl rfl (any_of HT_.out (by kernel_rfl)) (fun _ _ _ h => h) (Or.inl ⟨by rfl, ?_⟩) ?_ ?_
                    rotate_left
                    · intro w'
                      go_simp
                      with_reducible rfl
                    rotate_left
                    · simp only [Act.put, PU, i64_w, i32_w]
                      rfl
                    refine pure_ (i := 15) (N := some 51) (v := ?_) (a' := ?_) (tf 16 37) rfl rfl (any_of HT_.out (by kernel_rfl)) (fun _ _ _ h => h) (Or.inl ⟨by rfl, ?_⟩) ?_ ?_
                    rotate_left
                    · intro w'
                      go_simp
                      with_reducible rfl
                    rotate_left
                    · simp only [Act.put, PU, i64_w, i32_w]
                      rfl
                    refine take_ (i := 16) (N := some 52) (v := ?_) (a' := ?_) (tf 17 37) rfl rfl (take_ofW HT_.out HW_.out (by kernel_rfl)) (fun _ _ _ h => h) (Or.inl ⟨by rfl, ?_⟩) hHeld ?_ ?_
                    rotate_left
                    · rintro w' ⟨s0, s1, s2, s3, s4, s5⟩
                      go_simp
                      with_reducible rfl
                    rotate_left
                    · simp only [Act.put, PU, i64_w, i32_w]
                      rfl
                    refine one_ (i := 17) (N := some 53) (tf 18 37) rfl rfl (one_of HT_.out (by kernel_rfl)) (by decide) (fun K hK => ?_)
                    refine goes_ Try.func18 (by kernel_rfl) rfl #[.slice Ao52 y360.length co52, .slice A0_1 l0_1.length c0_1] (by rfl) rfl rfl (by (try simp only [List.map_toArray, List.map_cons, List.map_nil]); first | done | rfl | (simp only [List.length_drop, List.length_take]; rfl)) ?_
                    with_reducible refine (hopperref13_Events.calls kj2 _ _ y360 _ _ l0_1 true _ ?side1 ?side2 ?side3 ?side4 A46.out).mono ?_
                    (case side1 => repeat (first | exact (by repeat (first | (with_reducible exact HR363.out) | (with_reducible refine Kd.C_alloc ?_ _) | (with_reducible refine Kd.C_drewN ?_ _) | (with_reducible refine Kd.C_drew ?_) | exact HR363.out)) | (with_reducible refine Kd.C_alloc ?_ _) | (with_reducible refine Kd.C_drewN ?_ _) | (with_reducible refine Kd.C_drew ?_)))
                    (case side2 => exact HC363.out)
                    (case side3 => exact Kd.CA (Kd.C_below HR0_1.out HB.out))
                    (case side4 => exact HC0_1.out)
                    rintro e w' ⟨rfl, ⟨nd, rfl⟩⟩
                    refine ⟨_, rfl, ?_⟩
                    refine hK.out _ _ ⟨(blk_cell BK331.out 0).trans rfl, (blk_cell BK331.out 1).trans rfl, (blk_cell BK331.out 2).trans rfl, (blk_cell BK343.out 0).trans rfl, (blk_cell BK343.out 1).trans rfl, (blk_cell BK343.out 2).trans rfl⟩ (fun hHeld => ?_)
                    clear hK K
                    refine norm_ (a' := ?_) ?_ ?_
                    rotate_left
                    · show Act.put _ (some 53) _ = _
                      simp only [Act.put, PU, i64_w, i32_w]
                      rfl
                    refine pure_ (i := 18) (N := some 54) (v := ?_) (a' := ?_) (tf 19 37) rfl rfl (any_of HT_.out (by kernel_rfl)) (fun _ _ _ h => h) (Or.inl ⟨by rfl, ?_⟩) ?_ ?_
                    rotate_left
                    · intro w'
                      go_simp
                      with_reducible rfl
                    rotate_left
                    · simp only [Act.put, PU, i64_w, i32_w]
                      rfl
                    refine pure_ (i := 19) (N := some 55) (v := ?_) (a' := ?_) (tf 20 37) rfl rfl (any_of HT_.out (by kernel_rfl)) (fun _ _ _ h => h) (Or.inl ⟨by rfl, ?_⟩) ?_ ?_
                    rotate_left
                    · intro w'
                      go_simp
                      with_reducible rfl
                    rotate_left
                    · simp only [Act.put, PU, i64_w, i32_w]
                      rfl
                    refine pure_ (i := 20) (N := some 56) (v := ?_) (a' := ?_) (tf 21 37) rfl rfl (any_of HT_.out (by kernel_rfl)) (fun _ _ _ h => h) (Or.inl ⟨by rfl, ?_⟩) ?_ ?_
                    rotate_left
                    · intro w'
                      go_simp
                      with_reducible rfl
                    rotate_left
                    · simp only [Act.put, PU, i64_w, i32_w]
                      rfl
                    refine pure_ (i := 21) (N := some 57) (v := ?_) (a' := ?_) (tf 22 37) rfl rfl (any_of HT_.out (by kernel_rfl)) (fun _ _ _ h => h) (Or.inl ⟨by rfl, ?_⟩) ?_ ?_
                    rotate_left
                    · intro w'
                      go_simp
                      with_reducible rfl
                    rotate_left
                    · simp only [Act.put, PU, i64_w, i32_w]
                      rfl
                    refine pure_ (i := 22) (N := some 58) (v := ?_) (a' := ?_) (tf 23 37) rfl rfl (any_of HT_.out (by kernel_rfl)) (fun _ _ _ h => h) (Or.inl ⟨by rfl, ?_⟩) ?_ ?_
                    rotate_left
                    · intro w'
                      go_simp
                      with_reducible rfl
                    rotate_left
                    · simp only [Act.put, PU, i64_w, i32_w]
                      rfl
                    refine pure_ (i := 23) (N := some 59) (v := ?_) (a' := ?_) (tf 24 37) rfl rfl (any_of HT_.out (by kernel_rfl)) (fun _ _ _ h => h) (Or.inl ⟨by rfl, ?_⟩) ?_ ?_
                    rotate_left
                    · intro w'
                      go_simp
                      with_reducible rfl
                    rotate_left
                    · simp only [Act.put, PU, i64_w, i32_w]
                      rfl
                    refine pure_ (i := 24) (N := some 60) (v := ?_) (a' := ?_) (tf 25 37) rfl rfl (any_of HT_.out (by kernel_rfl)) (fun _ _ _ h => h) (Or.inl ⟨by rfl, ?_⟩) ?_ ?_
                    rotate_left
                    · intro w'
                      go_simp
                      with_reducible rfl
                    rotate_left
                    · simp only [Act.put, PU, i64_w, i32_w]
                      rfl
                    refine pure_ (i := 25) (N := some 61) (v := ?_) (a' := ?_) (tf 26 37) rfl rfl (any_of HT_.out (by kernel_rfl)) (fun _ _ _ h => h) (Or.inl ⟨by rfl, ?_⟩) ?_ ?_
                    rotate_left
                    · intro w'
                      go_simp
                      with_reducible rfl
                    rotate_left
                    · simp only [Act.put, PU, i64_w, i32_w]
                      rfl
                    refine take_ (i := 26) (N := some 62) (v := ?_) (a' := ?_) (tf 27 37) rfl rfl (take_ofW HT_.out HW_.out (by kernel_rfl)) (fun _ _ _ h => h) (Or.inl ⟨by rfl, ?_⟩) hHeld ?_ ?_
                    rotate_left
                    · rintro w' ⟨s0, s1, s2, s3, s4, s5⟩
                      go_simp
                      with_reducible rfl
                    rotate_left
                    · simp only [Act.put, PU, i64_w, i32_w]
                      rfl
                    refine pure_ (i := 27) (N := some 63) (v := ?_) (a' := ?_) (tf 28 37) rfl rfl (any_of HT_.out (by kernel_rfl)) (fun _ _ _ h => h) (Or.inl ⟨by rfl, ?_⟩) ?_ ?_
                    rotate_left
                    · intro w'
                      go_simp
                      with_reducible rfl
                    rotate_left
                    · simp only [Act.put, PU, i64_w, i32_w]
                      rfl
                    refine pure_ (i := 28) (N := some 64) (v := ?_) (a' := ?_) (tf 29 37) rfl rfl (any_of HT_.out (by kernel_rfl)) (fun _ _ _ h => h) (Or.inl ⟨by rfl, ?_⟩) ?_ ?_
                    rotate_left
                    · intro w'
                      go_simp
                      with_reducible rfl
                    rotate_left
                    · simp only [Act.put, PU, i64_w, i32_w]
                      rfl
                    refine pure_ (i := 29) (N := some 65) (v := ?_) (a' := ?_) (tf 30 37) rfl rfl (any_of HT_.out (by kernel_rfl)) (fun _ _ _ h => h) (Or.inl ⟨by rfl, ?_⟩) ?_ ?_
                    rotate_left
                    · intro w'
                      go_simp
                      with_reducible rfl
                    rotate_left
                    · simp only [Act.put, PU, i64_w, i32_w]
                      rfl
                    refine pure_ (i := 30) (N := some 66) (v := ?_) (a' := ?_) (tf 31 37) rfl rfl (any_of HT_.out (by kernel_rfl)) (fun _ _ _ h => h) (Or.inl ⟨by rfl, ?_⟩) ?_ ?_
                    rotate_left
                    · intro w'
                      go_simp
                      with_reducible rfl
                    rotate_left
                    · simp only [Act.put, PU, i64_w, i32_w]
                      rfl
                    refine pure_ (i := 31) (N := some 67) (v := ?_) (a' := ?_) (tf 32 37) rfl rfl (any_of HT_.out (by kernel_rfl)) (fun _ _ _ h => h) (Or.inl ⟨by rfl, ?_⟩) ?_ ?_
                    rotate_left
                    · intro w'
                      go_simp
                      with_reducible rfl
                    rotate_left
                    · simp only [Act.put, PU, i64_w, i32_w]
                      rfl
                    refine pure_ (i := 33) (N := some 69) (v := ?_) (a' := ?_) #[true, true, true, true, true, true, true, true, true, true, true, true, true, true, true, true, true, true, true, true, true, true, true, true, true, true, true, true, true, true, true, true, false, true, false, false, false] rfl rfl (any_of HT_.out (by kernel_rfl)) (fun _ _ _ h => h) (Or.inl ⟨by rfl, ?_⟩) ?_ ?_
                    rotate_left
                    · intro w'
                      go_simp
                      with_reducible rfl
                    rotate_left
                    · simp only [Act.put, PU, i64_w, i32_w]
                      rfl
                    refine take_ (i := 32) (N := some 68) (v := ?_) (a' := ?_) (tf 34 37) rfl rfl (take_ofW HT_.out HW_.out (by kernel_rfl)) (fun _ _ _ h => h) (Or.inl ⟨by rfl, ?_⟩) hHeld ?_ ?_
                    rotate_left
                    · rintro w' ⟨s0, s1, s2, s3, s4, s5⟩
                      go_simp
                      with_reducible rfl
                    rotate_left
                    · simp only [Act.put, PU, i64_w, i32_w]
                      rfl
                    refine take_ (i := 34) (N := some 70) (v := ?_) (a' := ?_) (tf 35 37) rfl rfl (take_ofW HT_.out HW_.out (by kernel_rfl)) (fun _ _ _ h => h) (Or.inl ⟨by rfl, ?_⟩) hHeld ?_ ?_
                    rotate_left
                    · rintro w' ⟨s0, s1, s2, s3, s4, s5⟩
                      go_simp
                      with_reducible rfl
                    rotate_left
                    · simp only [Act.put, PU, i64_w, i32_w]
                      rfl
                    refine pure_ (i := 35) (N := some 71) (v := ?_) (a' := ?_) (tf 36 37) rfl rfl (any_of HT_.out (by kernel_rfl)) (fun _ _ _ h => h) (Or.inl ⟨by rfl, ?_⟩) ?_ ?_
                    rotate_left
                    · intro w'
                      go_simp
                      with_reducible rfl
                    rotate_left
                    · simp only [Act.put, PU, i64_w, i32_w]
                      rfl
                    refine pure_ (i := 36) (N := some 72) (v := ?_) (a' := ?_) (tf 37 37) rfl rfl (any_of HT_.out (by kernel_rfl)) (fun _ _ _ h => h) (Or.inl ⟨by rfl, ?_⟩) ?_ ?_
                    rotate_left
                    · intro w'
                      go_simp
                      with_reducible rfl
                    rotate_left
                    · simp only [Act.put, PU, i64_w, i32_w]
                      rfl
                    refine done_ (done_of HT_.out (by kernel_rfl)) ?_
                    try go_wp2
                    go_meet
                    case rel => exact ⟨_, ((t335 != a0_0)), (by first | (rw [HR_.out]; done) | rfl | (rw [HR_.out]; rfl) | (simp [HR_.out]; done) | (simp; done) | (simp [*]; done)), H', ⟨by have := HJ2.out; first | omega | exact Nat.le_refl _⟩, ⟨by (with_reducible repeat (first | apply Kd.R_alloc | apply Kd.R_drewN | apply Kd.R_drew)); exact HO342.out⟩, ⟨by (with_reducible repeat (first | apply Kd.V_alloc | apply Kd.V_drewN | apply Kd.V_drew)); exact HO338.out⟩, ⟨by (with_reducible repeat (first | apply Kd.V_alloc | apply Kd.V_drewN | apply Kd.V_drew)); exact HO347.out⟩, ⟨by (with_reducible repeat (first | refine blk_drewN ?_ _ | refine blk_drew ?_ | refine blk_alloc ?_ _)); exact BK331.out⟩, ⟨by (with_reducible repeat (first | refine blk_drewN ?_ _ | refine blk_drew ?_ | refine blk_alloc ?_ _)); exact BK343.out⟩, ⟨by (with_reducible repeat (first | refine blk_drewN ?_ _ | refine blk_drew ?_ | refine blk_alloc ?_ _)); exact BK358.out⟩, ⟨by (with_reducible repeat (first | refine blk_drewN ?_ _ | refine blk_drew ?_ | refine blk_alloc ?_ _)); exact BK359.out⟩, ⟨LG HB.out (G1 GE331.out (G1 GE343.out (G1 GE358.out (G1 GE359.out G0))))⟩⟩
                  · rw [if_neg c49] at H
                    have c49b0 : ((t336.length : Int) == 0) = false := beq_eq_false_iff_ne.mpr c49
                    have c49b1 : ((t336.length : Int) != 0) = true := bne_iff_ne.mpr c49
                    have c49b2 : ¬ (t336 = []) := fun h_ => c49 (by rw [h_]; rfl)
                    have H' := Aside0.mk H
                    clear H
                    try go_wp2
                    have n0_ : Aside0 (Kd.V k36 36 (((((((((((w26.setCell ⟨gb358, 0, none⟩ (.int .i64 t344)).setCell ⟨gb358, 1, none⟩ (.slice Ao31 t345.length co31)).setCell ⟨gb358, 2, none⟩ (.int .i64 t348)).setCell ⟨gb359, 0, none⟩ (.int .i64 t349)).setCell ⟨gb359, 1, none⟩ (.int .i64 t350)).setCell ⟨gb359, 2, none⟩ (.int .i64 t351)).setCell ⟨gb359, 3, none⟩ (.int .i64 t352)).setCell ⟨gb359, 4, none⟩ (.int .i64 t353)).setCell ⟨gb359, 5, none⟩ (.int .i64 t354)).setCell ⟨gb359, 6, none⟩ (.string t355)).setCell ⟨gb359, 7, none⟩ (.int .i64 t356)) w.heap.size (fun k_ => some k_ ≠ (v341 : Value).ownBlock ∧ k_ ≠ gb331 ∧ k_ ≠ gb343 ∧ k_ ≠ gb358 ∧ k_ ≠ gb359) (.slice Ao21 t336.length co21) t336) := ⟨by (with_reducible repeat (first | apply Kd.V_alloc | apply Kd.V_drewN | apply Kd.V_drew)); exact Kd.V_mono (Kd.V_ms (gs := [gb359, gb358]) (Kd.V_mono (Kd.V_mono HO338.out (fun k_ hk => (⟨hk, hk.1.2⟩ : _ ∧ k_ ≠ gb358))) (fun k_ hk => (⟨hk, hk.1.2⟩ : _ ∧ k_ ≠ gb359))) (fun _ hk => N1 (hk.2) (N1 (hk.1.2) (N0)))) (fun _ hk => ⟨hk.1.1.1.1.1, ⟨hk.1.1.1.1.2.1, ⟨hk.1.1.1.1.2.2, ⟨hk.1.1.1.2, hk.1.1.2⟩⟩⟩⟩)⟩
                    have n1_ : Aside0 (Kd.R k36 36 (((((((((((w26.setCell ⟨gb358, 0, none⟩ (.int .i64 t344)).setCell ⟨gb358, 1, none⟩ (.slice Ao31 t345.length co31)).setCell ⟨gb358, 2, none⟩ (.int .i64 t348)).setCell ⟨gb359, 0, none⟩ (.int .i64 t349)).setCell ⟨gb359, 1, none⟩ (.int .i64 t350)).setCell ⟨gb359, 2, none⟩ (.int .i64 t351)).setCell ⟨gb359, 3, none⟩ (.int .i64 t352)).setCell ⟨gb359, 4, none⟩ (.int .i64 t353)).setCell ⟨gb359, 5, none⟩ (.int .i64 t354)).setCell ⟨gb359, 6, none⟩ (.string t355)).setCell ⟨gb359, 7, none⟩ (.int .i64 t356)) w.heap.size (fun k_ => k_ ≠ gb359) v341 t340) := ⟨by (with_reducible repeat (first | apply Kd.R_alloc | apply Kd.R_drewN | apply Kd.R_drew)); exact Kd.R_mono (Kd.R_ms (gs := [gb359, gb358]) (Kd.R_mono (Kd.R_types HO342.out BK358.out (by decide)) (fun k_ hk => (⟨hk, hk.1.2⟩ : _ ∧ k_ ≠ gb359))) (fun _ hk => N1 (hk.2) (N1 (hk.1.2) (N0)))) (fun _ hk => hk.1.1.2)⟩
                    have n2_ : Aside0 (Kd.V k36 36 (((((((((((w26.setCell ⟨gb358, 0, none⟩ (.int .i64 t344)).setCell ⟨gb358, 1, none⟩ (.slice Ao31 t345.length co31)).setCell ⟨gb358, 2, none⟩ (.int .i64 t348)).setCell ⟨gb359, 0, none⟩ (.int .i64 t349)).setCell ⟨gb359, 1, none⟩ (.int .i64 t350)).setCell ⟨gb359, 2, none⟩ (.int .i64 t351)).setCell ⟨gb359, 3, none⟩ (.int .i64 t352)).setCell ⟨gb359, 4, none⟩ (.int .i64 t353)).setCell ⟨gb359, 5, none⟩ (.int .i64 t354)).setCell ⟨gb359, 6, none⟩ (.string t355)).setCell ⟨gb359, 7, none⟩ (.int .i64 t356)) w.heap.size (fun k_ => some k_ ≠ (v341 : Value).ownBlock ∧ k_ ≠ gb331 ∧ k_ ≠ gb343 ∧ k_ ≠ gb358 ∧ k_ ≠ gb359) (.slice Ao31 t345.length co31) t345) := ⟨by (with_reducible repeat (first | apply Kd.V_alloc | apply Kd.V_drewN | apply Kd.V_drew)); exact Kd.V_mono (Kd.V_ms (gs := [gb359, gb358]) (Kd.V_mono (Kd.V_mono HO347.out (fun k_ hk => (⟨hk, hk.1.2⟩ : _ ∧ k_ ≠ gb358))) (fun k_ hk => (⟨hk, hk.1.2⟩ : _ ∧ k_ ≠ gb359))) (fun _ hk => N1 (hk.2) (N1 (hk.1.2) (N0)))) (fun _ hk => ⟨hk.1.1.1.1.1, ⟨hk.1.1.1.1.2.1, ⟨hk.1.1.1.1.2.2, ⟨hk.1.1.1.2, hk.1.1.2⟩⟩⟩⟩)⟩
                    have n3_ : Aside0 ((((((((((((w26.setCell ⟨gb358, 0, none⟩ (.int .i64 t344)).setCell ⟨gb358, 1, none⟩ (.slice Ao31 t345.length co31)).setCell ⟨gb358, 2, none⟩ (.int .i64 t348)).setCell ⟨gb359, 0, none⟩ (.int .i64 t349)).setCell ⟨gb359, 1, none⟩ (.int .i64 t350)).setCell ⟨gb359, 2, none⟩ (.int .i64 t351)).setCell ⟨gb359, 3, none⟩ (.int .i64 t352)).setCell ⟨gb359, 4, none⟩ (.int .i64 t353)).setCell ⟨gb359, 5, none⟩ (.int .i64 t354)).setCell ⟨gb359, 6, none⟩ (.string t355)).setCell ⟨gb359, 7, none⟩ (.int .i64 t356)).heap[gb331]? = some (.cells #[.int .i64 a0_0, .slice A0_1 l0_1.length c0_1, .int .i64 a0_2] 24 (0, 0))) := ⟨by exact BM BK331.out (N1 NB331_359.out (N1 NB331_358.out N0))⟩
                    have n4_ : Aside0 ((((((((((((w26.setCell ⟨gb358, 0, none⟩ (.int .i64 t344)).setCell ⟨gb358, 1, none⟩ (.slice Ao31 t345.length co31)).setCell ⟨gb358, 2, none⟩ (.int .i64 t348)).setCell ⟨gb359, 0, none⟩ (.int .i64 t349)).setCell ⟨gb359, 1, none⟩ (.int .i64 t350)).setCell ⟨gb359, 2, none⟩ (.int .i64 t351)).setCell ⟨gb359, 3, none⟩ (.int .i64 t352)).setCell ⟨gb359, 4, none⟩ (.int .i64 t353)).setCell ⟨gb359, 5, none⟩ (.int .i64 t354)).setCell ⟨gb359, 6, none⟩ (.string t355)).setCell ⟨gb359, 7, none⟩ (.int .i64 t356)).heap[gb343]? = some (.cells #[.int .i64 t335, .slice Ao21 t336.length co21, .int .i64 t339] 27 (0, 0))) := ⟨by exact BM BK343.out (N1 NB343_359.out (N1 NB343_358.out N0))⟩
                    have n5_ : Aside0 ((((((((((((w26.setCell ⟨gb358, 0, none⟩ (.int .i64 t344)).setCell ⟨gb358, 1, none⟩ (.slice Ao31 t345.length co31)).setCell ⟨gb358, 2, none⟩ (.int .i64 t348)).setCell ⟨gb359, 0, none⟩ (.int .i64 t349)).setCell ⟨gb359, 1, none⟩ (.int .i64 t350)).setCell ⟨gb359, 2, none⟩ (.int .i64 t351)).setCell ⟨gb359, 3, none⟩ (.int .i64 t352)).setCell ⟨gb359, 4, none⟩ (.int .i64 t353)).setCell ⟨gb359, 5, none⟩ (.int .i64 t354)).setCell ⟨gb359, 6, none⟩ (.string t355)).setCell ⟨gb359, 7, none⟩ (.int .i64 t356)).heap[gb358]? = some (.cells #[.int .i64 t344, .slice Ao31 t345.length co31, .int .i64 t348] 27 (0, 0))) := ⟨by (with_reducible repeat (first | refine blk_drewN ?_ _ | refine blk_drew ?_ | refine blk_alloc ?_ _)); refine blk_far ?_ NB358_359.out _; (with_reducible repeat (first | refine blk_drewN ?_ _ | refine blk_drew ?_ | refine blk_alloc ?_ _)); refine blk_far ?_ NB358_359.out _; (with_reducible repeat (first | refine blk_drewN ?_ _ | refine blk_drew ?_ | refine blk_alloc ?_ _)); refine blk_far ?_ NB358_359.out _; (with_reducible repeat (first | refine blk_drewN ?_ _ | refine blk_drew ?_ | refine blk_alloc ?_ _)); refine blk_far ?_ NB358_359.out _; (with_reducible repeat (first | refine blk_drewN ?_ _ | refine blk_drew ?_ | refine blk_alloc ?_ _)); refine blk_far ?_ NB358_359.out _; (with_reducible repeat (first | refine blk_drewN ?_ _ | refine blk_drew ?_ | refine blk_alloc ?_ _)); refine blk_far ?_ NB358_359.out _; (with_reducible repeat (first | refine blk_drewN ?_ _ | refine blk_drew ?_ | refine blk_alloc ?_ _)); refine blk_far ?_ NB358_359.out _; (with_reducible repeat (first | refine blk_drewN ?_ _ | refine blk_drew ?_ | refine blk_alloc ?_ _)); refine blk_far ?_ NB358_359.out _; exact BP BK358.out (by rfl)⟩
                    have n6_ : Aside0 ((((((((((((w26.setCell ⟨gb358, 0, none⟩ (.int .i64 t344)).setCell ⟨gb358, 1, none⟩ (.slice Ao31 t345.length co31)).setCell ⟨gb358, 2, none⟩ (.int .i64 t348)).setCell ⟨gb359, 0, none⟩ (.int .i64 t349)).setCell ⟨gb359, 1, none⟩ (.int .i64 t350)).setCell ⟨gb359, 2, none⟩ (.int .i64 t351)).setCell ⟨gb359, 3, none⟩ (.int .i64 t352)).setCell ⟨gb359, 4, none⟩ (.int .i64 t353)).setCell ⟨gb359, 5, none⟩ (.int .i64 t354)).setCell ⟨gb359, 6, none⟩ (.string t355)).setCell ⟨gb359, 7, none⟩ (.int .i64 t356)).heap[gb359]? = some (.cells #[.int .i64 t349, .int .i64 t350, .int .i64 t351, .int .i64 t352, .int .i64 t353, .int .i64 t354, .string t355, .int .i64 t356] 36 (0, 0))) := ⟨by (with_reducible repeat (first | refine blk_drewN ?_ _ | refine blk_drew ?_ | refine blk_alloc ?_ _)); refine blk_put (cs := #[.int .i64 t349, .int .i64 t350, .int .i64 t351, .int .i64 t352, .int .i64 t353, .int .i64 t354, .string t355, .int .i64 0]) ?_ 7 _ rfl; (with_reducible repeat (first | refine blk_drewN ?_ _ | refine blk_drew ?_ | refine blk_alloc ?_ _)); refine blk_put (cs := #[.int .i64 t349, .int .i64 t350, .int .i64 t351, .int .i64 t352, .int .i64 t353, .int .i64 t354, .string (⟨#[]⟩ : ByteArray), .int .i64 0]) ?_ 6 _ rfl; (with_reducible repeat (first | refine blk_drewN ?_ _ | refine blk_drew ?_ | refine blk_alloc ?_ _)); refine blk_put (cs := #[.int .i64 t349, .int .i64 t350, .int .i64 t351, .int .i64 t352, .int .i64 t353, .int .i64 0, .string (⟨#[]⟩ : ByteArray), .int .i64 0]) ?_ 5 _ rfl; (with_reducible repeat (first | refine blk_drewN ?_ _ | refine blk_drew ?_ | refine blk_alloc ?_ _)); refine blk_put (cs := #[.int .i64 t349, .int .i64 t350, .int .i64 t351, .int .i64 t352, .int .i64 0, .int .i64 0, .string (⟨#[]⟩ : ByteArray), .int .i64 0]) ?_ 4 _ rfl; (with_reducible repeat (first | refine blk_drewN ?_ _ | refine blk_drew ?_ | refine blk_alloc ?_ _)); refine blk_put (cs := #[.int .i64 t349, .int .i64 t350, .int .i64 t351, .int .i64 0, .int .i64 0, .int .i64 0, .string (⟨#[]⟩ : ByteArray), .int .i64 0]) ?_ 3 _ rfl; (with_reducible repeat (first | refine blk_drewN ?_ _ | refine blk_drew ?_ | refine blk_alloc ?_ _)); refine blk_put (cs := #[.int .i64 t349, .int .i64 t350, .int .i64 0, .int .i64 0, .int .i64 0, .int .i64 0, .string (⟨#[]⟩ : ByteArray), .int .i64 0]) ?_ 2 _ rfl; (with_reducible repeat (first | refine blk_drewN ?_ _ | refine blk_drew ?_ | refine blk_alloc ?_ _)); refine blk_put (cs := #[.int .i64 t349, .int .i64 0, .int .i64 0, .int .i64 0, .int .i64 0, .int .i64 0, .string (⟨#[]⟩ : ByteArray), .int .i64 0]) ?_ 1 _ rfl; (with_reducible repeat (first | refine blk_drewN ?_ _ | refine blk_drew ?_ | refine blk_alloc ?_ _)); refine blk_put (cs := #[.int .i64 0, .int .i64 0, .int .i64 0, .int .i64 0, .int .i64 0, .int .i64 0, .string (⟨#[]⟩ : ByteArray), .int .i64 0]) ?_ 0 _ rfl; exact BF BK359.out NB359_358.out⟩
                    have n7_ : Aside0 (Below w.heap.size w (((((((((((w26.setCell ⟨gb358, 0, none⟩ (.int .i64 t344)).setCell ⟨gb358, 1, none⟩ (.slice Ao31 t345.length co31)).setCell ⟨gb358, 2, none⟩ (.int .i64 t348)).setCell ⟨gb359, 0, none⟩ (.int .i64 t349)).setCell ⟨gb359, 1, none⟩ (.int .i64 t350)).setCell ⟨gb359, 2, none⟩ (.int .i64 t351)).setCell ⟨gb359, 3, none⟩ (.int .i64 t352)).setCell ⟨gb359, 4, none⟩ (.int .i64 t353)).setCell ⟨gb359, 5, none⟩ (.int .i64 t354)).setCell ⟨gb359, 6, none⟩ (.string t355)).setCell ⟨gb359, 7, none⟩ (.int .i64 t356))) := ⟨LG HB.out (G1 GE331.out (G1 GE343.out (G1 GE358.out (G1 GE359.out G0))))⟩
                    (try clear HO338)
                    (try clear HO342)
                    (try clear HO347)
                    (try clear BK331)
                    (try clear BK343)
                    (try clear BK358)
                    (try clear BK359)
                    (try clear HB)
                    generalize (((((((((((w26.setCell ⟨gb358, 0, none⟩ (.int .i64 t344)).setCell ⟨gb358, 1, none⟩ (.slice Ao31 t345.length co31)).setCell ⟨gb358, 2, none⟩ (.int .i64 t348)).setCell ⟨gb359, 0, none⟩ (.int .i64 t349)).setCell ⟨gb359, 1, none⟩ (.int .i64 t350)).setCell ⟨gb359, 2, none⟩ (.int .i64 t351)).setCell ⟨gb359, 3, none⟩ (.int .i64 t352)).setCell ⟨gb359, 4, none⟩ (.int .i64 t353)).setCell ⟨gb359, 5, none⟩ (.int .i64 t354)).setCell ⟨gb359, 6, none⟩ (.string t355)).setCell ⟨gb359, 7, none⟩ (.int .i64 t356)) = w54 at n0_ n1_ n2_ n3_ n4_ n5_ n6_ n7_ ⊢
                    have HO338 := n0_
                    have HO342 := n1_
                    have HO347 := n2_
                    have BK331 := n3_
                    have BK343 := n4_
                    have BK358 := n5_
                    have BK359 := n6_
                    have HB := n7_
                    clear n0_ n1_ n2_ n3_ n4_ n5_ n6_ n7_
                    have n0_ := Aside0.mk (Kd.V_drew HO338.out)
                    have n1_ := Aside0.mk (Kd.R_drew HO342.out)
                    have n2_ := Aside0.mk (Kd.V_drew HO347.out)
                    have n3_ := Aside0.mk (blk_drew BK331.out)
                    have n4_ := Aside0.mk (blk_drew BK343.out)
                    have n5_ := Aside0.mk (blk_drew BK358.out)
                    have n6_ := Aside0.mk (blk_drew BK359.out)
                    have n7_ := Aside0.mk (below_drew1 HB.out)
                    clear HO338
                    clear HO342
                    clear HO347
                    clear BK331
                    clear BK343
                    clear BK358
                    clear BK359
                    clear HB
                    have HO338 := n0_
                    have HO342 := n1_
                    have HO347 := n2_
                    have BK331 := n3_
                    have BK343 := n4_
                    have BK358 := n5_
                    have BK359 := n6_
                    have HB := n7_
                    clear n0_ n1_ n2_ n3_ n4_ n5_ n6_ n7_
                    obtain ⟨Ao56, co56, eo56⟩ := Kd.R_slice HO342.out
                    (first | subst eo56 | (injection eo56 with f1_ f2_ f3_; have f4_ := f1_.symm; have f5_ := f3_.symm; clear f1_ f2_ f3_; subst f4_; subst f5_))
                    have q57 : ((l0_1.length : Int) : Int) ≤ ((t340.length : Int) : Int) := of_decide_eq_true (by first | (with_reducible assumption) | assumption)
                    obtain ⟨i057, hi057, _, hsz57, _⟩ := info_parts info36
                    have hroom57 : t340.length ≤ co56 := (Kd.R_reads' HO342.out).2.1
                    have hC57 : Kd.C k36 _ Ao56 t340.length t340 := (Kd.R_reads' HO342.out).2.2
                    have hcut57 := cut_to (P := Try.prog) 22 36 .i64 Try.underlying22 hi057 Ao56 t340.length co56 (l0_1.length : Int) (of_decide_eq_true (by first | (with_reducible assumption) | assumption)) q57 hroom57
                    have hr57 := Kd.C_take (m := ((l0_1.length : Int) : Int).toNat) hC57 (by omega)
                    have hy57 : y360.length = ((l0_1.length : Int) : Int).toNat := (by rw [Ny360.out, List.length_take]; omega)
                    rw [← Ny360.out] at hr57
                    rw [← hy57] at hcut57
                    have HR363 := Aside0.mk hr57
                    have HC363 := Aside0.mk (show y360.length ≤ co56 from by omega)
                    clear hr57 hC57 hroom57 hi057 hsz57
                    have KY57 := Aside0.mk hy57
                    clear hy57
                    have KL57 := Aside0.mk (show ((l0_1.length : Int) : Int).toNat ≤ t340.length from by omega)
                    replace q57 := eq_true q57
                    refine start_ (n := 37) (S := fun w' => w'.cell? ⟨gb331, 0, none⟩ = some (.int .i64 a0_0) ∧ w'.cell? ⟨gb331, 1, none⟩ = some (.slice A0_1 l0_1.length c0_1) ∧ w'.cell? ⟨gb331, 2, none⟩ = some (.int .i64 a0_2) ∧ w'.cell? ⟨gb343, 0, none⟩ = some (.int .i64 t335) ∧ w'.cell? ⟨gb343, 1, none⟩ = some (.slice Ao21 t336.length co21) ∧ w'.cell? ⟨gb343, 2, none⟩ = some (.int .i64 t339)) (ds := []) (tf 0 37) (by kernel_rfl) rfl rfl ⟨(blk_cell BK331.out 0).trans rfl, (blk_cell BK331.out 1).trans rfl, (blk_cell BK331.out 2).trans rfl, (blk_cell BK343.out 0).trans rfl, (blk_cell BK343.out 1).trans rfl, (blk_cell BK343.out 2).trans rfl⟩ (fun hHeld => ?_); refine with_tabW hopperlaw14_FeedReads.tab6 hopperlaw14_FeedReads.bits6 (fun HT_ HW_ => ?_)
                    generalize w54.drew = w55 at HO338 HO342 HO347 BK331 BK343 BK358 BK359 HB HR363 hHeld ⊢
                    refine pure_ (i := 0) (N := some 36) (v := ?_) (a' := ?_) (tf 1 37) rfl rfl (any_of HT_.out (by kernel_rfl)) (fun _ _ _ h => h) (Or.inl ⟨by rfl, ?_⟩) ?_ ?_
                    rotate_left
                    · intro w'
                      go_simp
                      with_reducible rfl
                    rotate_left
                    · simp only [Act.put, PU, i64_w, i32_w]
                      rfl
                    refine pure_ (i := 1) (N := some 37) (v := ?_) (a' := ?_) (tf 2 37) rfl rfl (any_of HT_.out (by kernel_rfl)) (fun _ _ _ h => h) (Or.inl ⟨by rfl, ?_⟩) ?_ ?_
                    rotate_left
                    · intro w'
                      go_simp
                      with_reducible rfl
                    rotate_left
                    · simp only [Act.put, PU, i64_w, i32_w]
                      rfl
                    refine pure_ (i := 2) (N := some 38) (v := ?_) (a' := ?_) (tf 3 37) rfl rfl (any_of HT_.out (by kernel_rfl)) (fun _ _ _ h => h) (Or.inl ⟨by rfl, ?_⟩) ?_ ?_
                    rotate_left
                    · intro w'
                      go_simp
                      with_reducible rfl
                    rotate_left
                    · simp only [Act.put, PU, i64_w, i32_w]
                      rfl
                    refine pure_ (i := 3) (N := some 39) (v := ?_) (a' := ?_) (tf 4 37) rfl rfl (any_of HT_.out (by kernel_rfl)) (fun _ _ _ h => h) (Or.inl ⟨by rfl, ?_⟩) ?_ ?_
                    rotate_left
                    · intro w'
                      go_simp
                      with_reducible rfl
                    rotate_left
                    · simp only [Act.put, PU, i64_w, i32_w]
                      rfl
                    refine pure_ (i := 4) (N := some 40) (v := ?_) (a' := ?_) (tf 5 37) rfl rfl (any_of HT_.out (by kernel_rfl)) (fun _ _ _ h => h) (Or.inl ⟨by rfl, ?_⟩) ?_ ?_
                    rotate_left
                    · intro w'
                      go_simp
                      with_reducible rfl
                    rotate_left
                    · simp only [Act.put, PU, i64_w, i32_w]
                      rfl
                    refine pure_ (i := 5) (N := some 41) (v := ?_) (a' := ?_) (tf 6 37) rfl rfl (any_of HT_.out (by kernel_rfl)) (fun _ _ _ h => h) (Or.inl ⟨by rfl, ?_⟩) ?_ ?_
                    rotate_left
                    · intro w'
                      go_simp
                      with_reducible rfl
                    rotate_left
                    · simp only [Act.put, PU, i64_w, i32_w]
                      rfl
                    refine pure_ (i := 6) (N := some 42) (v := ?_) (a' := ?_) (tf 7 37) rfl rfl (any_of HT_.out (by kernel_rfl)) (fun _ _ _ h => h) (Or.inl ⟨by rfl, ?_⟩) ?_ ?_
                    rotate_left
                    · intro w'
                      go_simp
                      with_reducible rfl
                    rotate_left
                    · simp only [Act.put, PU, i64_w, i32_w]
                      rfl
                    refine pure_ (i := 7) (N := some 43) (v := ?_) (a' := ?_) (tf 8 37) rfl rfl (any_of HT_.out (by kernel_rfl)) (fun _ _ _ h => h) (Or.inl ⟨by rfl, ?_⟩) ?_ ?_
                    rotate_left
                    · intro w'
                      go_simp
                      with_reducible rfl
                    rotate_left
                    · simp only [Act.put, PU, i64_w, i32_w]
                      rfl
                    refine pure_ (i := 8) (N := some 44) (v := ?_) (a' := ?_) (tf 9 37) rfl rfl (any_of HT_.out (by kernel_rfl)) (fun _ _ _ h => h) (Or.inl ⟨by rfl, ?_⟩) ?_ ?_
                    rotate_left
                    · intro w'
                      go_simp
                      with_reducible rfl
                    rotate_left
                    · simp only [Act.put, PU, i64_w, i32_w]
                      rfl
                    refine pure_ (i := 9) (N := some 45) (v := ?_) (a' := ?_) (tf 10 37) rfl rfl (any_of HT_.out (by kernel_rfl)) (fun _ _ _ h => h) (Or.inl ⟨by rfl, ?_⟩) ?_ ?_
                    rotate_left
                    · intro w'
                      go_simp
                      with_reducible rfl
                    rotate_left
                    · simp only [Act.put, PU, i64_w, i32_w]
                      rfl
                    refine pure_ (i := 10) (N := some 46) (v := ?_) (a' := ?_) (tf 11 37) rfl rfl (any_of HT_.out (by kernel_rfl)) (fun _ _ _ h => h) (Or.inl ⟨by rfl, ?_⟩) ?_ ?_
                    rotate_left
                    · intro w'
                      go_simp
                      with_reducible rfl
                    rotate_left
                    · simp only [Act.put, PU, i64_w, i32_w]
                      rfl
                    refine pure_ (i := 11) (N := some 47) (v := ?_) (a' := ?_) (tf 12 37) rfl rfl (any_of HT_.out (by kernel_rfl)) (fun _ _ _ h => h) (Or.inl ⟨by rfl, ?_⟩) ?_ ?_
                    rotate_left
                    · intro w'
                      go_simp
                      with_reducible rfl
                    rotate_left
                    · simp only [Act.put, PU, i64_w, i32_w]
                      rfl
                    refine pure_ (i := 12) (N := some 48) (v := ?_) (a' := ?_) (tf 13 37) rfl rfl (any_of HT_.out (by kernel_rfl)) (fun _ _ _ h => h) (Or.inl ⟨by rfl, ?_⟩) ?_ ?_
                    rotate_left
                    · intro w'
                      go_simp
                      with_reducible rfl
                    rotate_left
                    · simp only [Act.put, PU, i64_w, i32_w]
                      rfl
                    refine pure_ (i := 13) (N := some 49) (v := ?_) (a' := ?_) (tf 14 37) rfl rfl (any_of HT_.out (by kernel_rfl)) (fun _ _ _ h => h) (Or.inl ⟨by rfl, ?_⟩) ?_ ?_
                    rotate_left
                    · intro w'
                      go_simp
                      with_reducible rfl
                    rotate_left
                    · simp only [Act.put, PU, i64_w, i32_w]
                      rfl
                    refine pure_ (i := 14) (N := some 50) (v := ?_) (a' := ?_) (tf 15 37) rfl rfl (any_of HT_.out (by kernel_rfl)) (fun _ _ _ h => h) (Or.inl ⟨by rfl, ?_⟩) ?_ ?_
                    rotate_left
                    · intro w'
                      go_simp
                      with_reducible rfl
                    rotate_left
                    · simp only [Act.put, PU, i64_w, i32_w]
                      rfl
                    refine pure_ (i := 15) (N := some 51) (v := ?_) (a' := ?_) (tf 16 37) rfl rfl (any_of HT_.out (by kernel_rfl)) (fun _ _ _ h => h) (Or.inl ⟨by rfl, ?_⟩) ?_ ?_
                    rotate_left
                    · intro w'
                      go_simp
                      with_reducible rfl
                    rotate_left
                    · simp only [Act.put, PU, i64_w, i32_w]
                      rfl
                    refine take_ (i := 16) (N := some 52) (v := ?_) (a' := ?_) (tf 17 37) rfl rfl (take_ofW HT_.out HW_.out (by kernel_rfl)) (fun _ _ _ h => h) (Or.inl ⟨by rfl, ?_⟩) hHeld ?_ ?_
                    rotate_left
                    · rintro w' ⟨s0, s1, s2, s3, s4, s5⟩
                      go_simp
                      with_reducible rfl
                    rotate_left
                    · simp only [Act.put, PU, i64_w, i32_w]
                      rfl
                    refine one_ (i := 17) (N := some 53) (tf 18 37) rfl rfl (one_of HT_.out (by kernel_rfl)) (by decide) (fun K hK => ?_)
                    refine goes_ Try.func18 (by kernel_rfl) rfl #[.slice Ao56 y360.length co56, .slice A0_1 l0_1.length c0_1] (by rfl) rfl rfl (by (try simp only [List.map_toArray, List.map_cons, List.map_nil]); first | done | rfl | (simp only [List.length_drop, List.length_take]; rfl)) ?_
                    with_reducible refine (hopperref13_Events.calls kj2 _ _ y360 _ _ l0_1 true _ ?side1 ?side2 ?side3 ?side4 A46.out).mono ?_
                    (case side1 => repeat (first | exact (by repeat (first | (with_reducible exact HR363.out) | (with_reducible refine Kd.C_alloc ?_ _) | (with_reducible refine Kd.C_drewN ?_ _) | (with_reducible refine Kd.C_drew ?_) | exact HR363.out)) | (with_reducible refine Kd.C_alloc ?_ _) | (with_reducible refine Kd.C_drewN ?_ _) | (with_reducible refine Kd.C_drew ?_)))
                    (case side2 => exact HC363.out)
                    (case side3 => exact Kd.CA (Kd.C_below HR0_1.out HB.out))
                    (case side4 => exact HC0_1.out)
                    rintro e w' ⟨rfl, ⟨nd, rfl⟩⟩
                    refine ⟨_, rfl, ?_⟩
                    refine hK.out _ _ ⟨(blk_cell BK331.out 0).trans rfl, (blk_cell BK331.out 1).trans rfl, (blk_cell BK331.out 2).trans rfl, (blk_cell BK343.out 0).trans rfl, (blk_cell BK343.out 1).trans rfl, (blk_cell BK343.out 2).trans rfl⟩ (fun hHeld => ?_)
                    clear hK K
                    refine norm_ (a' := ?_) ?_ ?_
                    rotate_left
                    · show Act.put _ (some 53) _ = _
                      simp only [Act.put, PU, i64_w, i32_w]
                      rfl
                    refine pure_ (i := 18) (N := some 54) (v := ?_) (a' := ?_) (tf 19 37) rfl rfl (any_of HT_.out (by kernel_rfl)) (fun _ _ _ h => h) (Or.inl ⟨by rfl, ?_⟩) ?_ ?_
                    rotate_left
                    · intro w'
                      go_simp
                      with_reducible rfl
                    rotate_left
                    · simp only [Act.put, PU, i64_w, i32_w]
                      rfl
                    refine pure_ (i := 19) (N := some 55) (v := ?_) (a' := ?_) (tf 20 37) rfl rfl (any_of HT_.out (by kernel_rfl)) (fun _ _ _ h => h) (Or.inl ⟨by rfl, ?_⟩) ?_ ?_
                    rotate_left
                    · intro w'
                      go_simp
                      with_reducible rfl
                    rotate_left
                    · simp only [Act.put, PU, i64_w, i32_w]
                      rfl
                    refine pure_ (i := 20) (N := some 56) (v := ?_) (a' := ?_) (tf 21 37) rfl rfl (any_of HT_.out (by kernel_rfl)) (fun _ _ _ h => h) (Or.inl ⟨by rfl, ?_⟩) ?_ ?_
                    rotate_left
                    · intro w'
                      go_simp
                      with_reducible rfl
                    rotate_left
                    · simp only [Act.put, PU, i64_w, i32_w]
                      rfl
                    refine pure_ (i := 21) (N := some 57) (v := ?_) (a' := ?_) (tf 22 37) rfl rfl (any_of HT_.out (by kernel_rfl)) (fun _ _ _ h => h) (Or.inl ⟨by rfl, ?_⟩) ?_ ?_
                    rotate_left
                    · intro w'
                      go_simp
                      with_reducible rfl
                    rotate_left
                    · simp only [Act.put, PU, i64_w, i32_w]
                      rfl
                    refine pure_ (i := 22) (N := some 58) (v := ?_) (a' := ?_) (tf 23 37) rfl rfl (any_of HT_.out (by kernel_rfl)) (fun _ _ _ h => h) (Or.inl ⟨by rfl, ?_⟩) ?_ ?_
                    rotate_left
                    · intro w'
                      go_simp
                      with_reducible rfl
                    rotate_left
                    · simp only [Act.put, PU, i64_w, i32_w]
                      rfl
                    refine pure_ (i := 23) (N := some 59) (v := ?_) (a' := ?_) (tf 24 37) rfl rfl (any_of HT_.out (by kernel_rfl)) (fun _ _ _ h => h) (Or.inl ⟨by rfl, ?_⟩) ?_ ?_
                    rotate_left
                    · intro w'
                      go_simp
                      with_reducible rfl
                    rotate_left
                    · simp only [Act.put, PU, i64_w, i32_w]
                      rfl
                    refine pure_ (i := 24) (N := some 60) (v := ?_) (a' := ?_) (tf 25 37) rfl rfl (any_of HT_.out (by kernel_rfl)) (fun _ _ _ h => h) (Or.inl ⟨by rfl, ?_⟩) ?_ ?_
                    rotate_left
                    · intro w'
                      go_simp
                      with_reducible rfl
                    rotate_left
                    · simp only [Act.put, PU, i64_w, i32_w]
                      rfl
                    refine pure_ (i := 25) (N := some 61) (v := ?_) (a' := ?_) (tf 26 37) rfl rfl (any_of HT_.out (by kernel_rfl)) (fun _ _ _ h => h) (Or.inl ⟨by rfl, ?_⟩) ?_ ?_
                    rotate_left
                    · intro w'
                      go_simp
                      with_reducible rfl
                    rotate_left
                    · simp only [Act.put, PU, i64_w, i32_w]
                      rfl
                    refine take_ (i := 26) (N := some 62) (v := ?_) (a' := ?_) (tf 27 37) rfl rfl (take_ofW HT_.out HW_.out (by kernel_rfl)) (fun _ _ _ h => h) (Or.inl ⟨by rfl, ?_⟩) hHeld ?_ ?_
                    rotate_left
                    · rintro w' ⟨s0, s1, s2, s3, s4, s5⟩
                      go_simp
                      with_reducible rfl
                    rotate_left
                    · simp only [Act.put, PU, i64_w, i32_w]
                      rfl
                    refine pure_ (i := 27) (N := some 63) (v := ?_) (a' := ?_) (tf 28 37) rfl rfl (any_of HT_.out (by kernel_rfl)) (fun _ _ _ h => h) (Or.inl ⟨by rfl, ?_⟩) ?_ ?_
                    rotate_left
                    · intro w'
                      go_simp
                      with_reducible rfl
                    rotate_left
                    · simp only [Act.put, PU, i64_w, i32_w]
                      rfl
                    refine pure_ (i := 28) (N := some 64) (v := ?_) (a' := ?_) (tf 29 37) rfl rfl (any_of HT_.out (by kernel_rfl)) (fun _ _ _ h => h) (Or.inl ⟨by rfl, ?_⟩) ?_ ?_
                    rotate_left
                    · intro w'
                      go_simp
                      with_reducible rfl
                    rotate_left
                    · simp only [Act.put, PU, i64_w, i32_w]
                      rfl
                    refine pure_ (i := 29) (N := some 65) (v := ?_) (a' := ?_) (tf 30 37) rfl rfl (any_of HT_.out (by kernel_rfl)) (fun _ _ _ h => h) (Or.inl ⟨by rfl, ?_⟩) ?_ ?_
                    rotate_left
                    · intro w'
                      go_simp
                      with_reducible rfl
                    rotate_left
                    · simp only [Act.put, PU, i64_w, i32_w]
                      rfl
                    refine pure_ (i := 30) (N := some 66) (v := ?_) (a' := ?_) (tf 31 37) rfl rfl (any_of HT_.out (by kernel_rfl)) (fun _ _ _ h => h) (Or.inl ⟨by rfl, ?_⟩) ?_ ?_
                    rotate_left
                    · intro w'
                      go_simp
                      with_reducible rfl
                    rotate_left
                    · simp only [Act.put, PU, i64_w, i32_w]
                      rfl
                    refine pure_ (i := 31) (N := some 67) (v := undef) (a' := ?_) (tf 32 37) rfl rfl (any_of HT_.out (by kernel_rfl)) (fun _ _ _ h => h) (Or.inr ⟨by rfl, rfl⟩) ?_ ?_
                    rotate_left
                    · simp only [Act.put, PU, i64_w, i32_w]
                      rfl
                    refine pure_ (i := 32) (N := some 68) (v := undef) (a' := ?_) (tf 33 37) rfl rfl (any_of HT_.out (by kernel_rfl)) (fun _ _ _ h => h) (Or.inr ⟨by rfl, rfl⟩) ?_ ?_
                    rotate_left
                    · simp only [Act.put, PU, i64_w, i32_w]
                      rfl
                    refine pure_ (i := 33) (N := some 69) (v := undef) (a' := ?_) (tf 34 37) rfl rfl (any_of HT_.out (by kernel_rfl)) (fun _ _ _ h => h) (Or.inr ⟨by rfl, rfl⟩) ?_ ?_
                    rotate_left
                    · simp only [Act.put, PU, i64_w, i32_w]
                      rfl
                    refine pure_ (i := 34) (N := some 70) (v := undef) (a' := ?_) (tf 35 37) rfl rfl (any_of HT_.out (by kernel_rfl)) (fun _ _ _ h => h) (Or.inr ⟨by rfl, rfl⟩) ?_ ?_
                    rotate_left
                    · simp only [Act.put, PU, i64_w, i32_w]
                      rfl
                    refine pure_ (i := 35) (N := some 71) (v := undef) (a' := ?_) (tf 36 37) rfl rfl (any_of HT_.out (by kernel_rfl)) (fun _ _ _ h => h) (Or.inr ⟨by rfl, rfl⟩) ?_ ?_
                    rotate_left
                    · simp only [Act.put, PU, i64_w, i32_w]
                      rfl
                    refine pure_ (i := 36) (N := some 72) (v := ?_) (a' := ?_) (tf 37 37) rfl rfl (any_of HT_.out (by kernel_rfl)) (fun _ _ _ h => h) (Or.inl ⟨by rfl, ?_⟩) ?_ ?_
                    rotate_left
                    · intro w'
                      go_simp
                      with_reducible rfl
                    rotate_left
                    · simp only [Act.put, PU, i64_w, i32_w]
                      rfl
                    refine done_ (done_of HT_.out (by kernel_rfl)) ?_
                    try go_wp2
                    go_meet
                    case rel => exact ⟨_, (true), (by first | (rw [HR_.out]; done) | rfl | (rw [HR_.out]; rfl) | (simp [HR_.out]; done) | (simp; done) | (simp [*]; done)), H', ⟨by have := HJ2.out; first | omega | exact Nat.le_refl _⟩, ⟨by (with_reducible repeat (first | apply Kd.R_alloc | apply Kd.R_drewN | apply Kd.R_drew)); exact HO342.out⟩, ⟨by (with_reducible repeat (first | apply Kd.V_alloc | apply Kd.V_drewN | apply Kd.V_drew)); exact HO338.out⟩, ⟨by (with_reducible repeat (first | apply Kd.V_alloc | apply Kd.V_drewN | apply Kd.V_drew)); exact HO347.out⟩, ⟨by (with_reducible repeat (first | refine blk_drewN ?_ _ | refine blk_drew ?_ | refine blk_alloc ?_ _)); exact BK331.out⟩, ⟨by (with_reducible repeat (first | refine blk_drewN ?_ _ | refine blk_drew ?_ | refine blk_alloc ?_ _)); exact BK343.out⟩, ⟨by (with_reducible repeat (first | refine blk_drewN ?_ _ | refine blk_drew ?_ | refine blk_alloc ?_ _)); exact BK358.out⟩, ⟨by (with_reducible repeat (first | refine blk_drewN ?_ _ | refine blk_drew ?_ | refine blk_alloc ?_ _)); exact BK359.out⟩, ⟨LG HB.out (G1 GE331.out (G1 GE343.out (G1 GE358.out (G1 GE359.out G0))))⟩⟩
                · rw [if_neg c48] at H
                  have c48b0 : (t357 == 7) = false := beq_eq_false_iff_ne.mpr c48
                  have c48b1 : (t357 != 7) = true := bne_iff_ne.mpr c48
                  have H' := Aside0.mk H
                  clear H
                  try go_wp2
                  have n0_ : Aside0 (Kd.V k36 36 (((((((((((w26.setCell ⟨gb358, 0, none⟩ (.int .i64 t344)).setCell ⟨gb358, 1, none⟩ (.slice Ao31 t345.length co31)).setCell ⟨gb358, 2, none⟩ (.int .i64 t348)).setCell ⟨gb359, 0, none⟩ (.int .i64 t349)).setCell ⟨gb359, 1, none⟩ (.int .i64 t350)).setCell ⟨gb359, 2, none⟩ (.int .i64 t351)).setCell ⟨gb359, 3, none⟩ (.int .i64 t352)).setCell ⟨gb359, 4, none⟩ (.int .i64 t353)).setCell ⟨gb359, 5, none⟩ (.int .i64 t354)).setCell ⟨gb359, 6, none⟩ (.string t355)).setCell ⟨gb359, 7, none⟩ (.int .i64 t356)) w.heap.size (fun k_ => some k_ ≠ (v341 : Value).ownBlock ∧ k_ ≠ gb331 ∧ k_ ≠ gb343 ∧ k_ ≠ gb358 ∧ k_ ≠ gb359) (.slice Ao21 t336.length co21) t336) := ⟨by (with_reducible repeat (first | apply Kd.V_alloc | apply Kd.V_drewN | apply Kd.V_drew)); exact Kd.V_mono (Kd.V_ms (gs := [gb359, gb358]) (Kd.V_mono (Kd.V_mono HO338.out (fun k_ hk => (⟨hk, hk.1.2⟩ : _ ∧ k_ ≠ gb358))) (fun k_ hk => (⟨hk, hk.1.2⟩ : _ ∧ k_ ≠ gb359))) (fun _ hk => N1 (hk.2) (N1 (hk.1.2) (N0)))) (fun _ hk => ⟨hk.1.1.1.1.1, ⟨hk.1.1.1.1.2.1, ⟨hk.1.1.1.1.2.2, ⟨hk.1.1.1.2, hk.1.1.2⟩⟩⟩⟩)⟩
                  have n1_ : Aside0 (Kd.R k36 36 (((((((((((w26.setCell ⟨gb358, 0, none⟩ (.int .i64 t344)).setCell ⟨gb358, 1, none⟩ (.slice Ao31 t345.length co31)).setCell ⟨gb358, 2, none⟩ (.int .i64 t348)).setCell ⟨gb359, 0, none⟩ (.int .i64 t349)).setCell ⟨gb359, 1, none⟩ (.int .i64 t350)).setCell ⟨gb359, 2, none⟩ (.int .i64 t351)).setCell ⟨gb359, 3, none⟩ (.int .i64 t352)).setCell ⟨gb359, 4, none⟩ (.int .i64 t353)).setCell ⟨gb359, 5, none⟩ (.int .i64 t354)).setCell ⟨gb359, 6, none⟩ (.string t355)).setCell ⟨gb359, 7, none⟩ (.int .i64 t356)) w.heap.size (fun k_ => k_ ≠ gb359) v341 t340) := ⟨by (with_reducible repeat (first | apply Kd.R_alloc | apply Kd.R_drewN | apply Kd.R_drew)); exact Kd.R_mono (Kd.R_ms (gs := [gb359, gb358]) (Kd.R_mono (Kd.R_types HO342.out BK358.out (by decide)) (fun k_ hk => (⟨hk, hk.1.2⟩ : _ ∧ k_ ≠ gb359))) (fun _ hk => N1 (hk.2) (N1 (hk.1.2) (N0)))) (fun _ hk => hk.1.1.2)⟩
                  have n2_ : Aside0 (Kd.V k36 36 (((((((((((w26.setCell ⟨gb358, 0, none⟩ (.int .i64 t344)).setCell ⟨gb358, 1, none⟩ (.slice Ao31 t345.length co31)).setCell ⟨gb358, 2, none⟩ (.int .i64 t348)).setCell ⟨gb359, 0, none⟩ (.int .i64 t349)).setCell ⟨gb359, 1, none⟩ (.int .i64 t350)).setCell ⟨gb359, 2, none⟩ (.int .i64 t351)).setCell ⟨gb359, 3, none⟩ (.int .i64 t352)).setCell ⟨gb359, 4, none⟩ (.int .i64 t353)).setCell ⟨gb359, 5, none⟩ (.int .i64 t354)).setCell ⟨gb359, 6, none⟩ (.string t355)).setCell ⟨gb359, 7, none⟩ (.int .i64 t356)) w.heap.size (fun k_ => some k_ ≠ (v341 : Value).ownBlock ∧ k_ ≠ gb331 ∧ k_ ≠ gb343 ∧ k_ ≠ gb358 ∧ k_ ≠ gb359) (.slice Ao31 t345.length co31) t345) := ⟨by (with_reducible repeat (first | apply Kd.V_alloc | apply Kd.V_drewN | apply Kd.V_drew)); exact Kd.V_mono (Kd.V_ms (gs := [gb359, gb358]) (Kd.V_mono (Kd.V_mono HO347.out (fun k_ hk => (⟨hk, hk.1.2⟩ : _ ∧ k_ ≠ gb358))) (fun k_ hk => (⟨hk, hk.1.2⟩ : _ ∧ k_ ≠ gb359))) (fun _ hk => N1 (hk.2) (N1 (hk.1.2) (N0)))) (fun _ hk => ⟨hk.1.1.1.1.1, ⟨hk.1.1.1.1.2.1, ⟨hk.1.1.1.1.2.2, ⟨hk.1.1.1.2, hk.1.1.2⟩⟩⟩⟩)⟩
                  have n3_ : Aside0 ((((((((((((w26.setCell ⟨gb358, 0, none⟩ (.int .i64 t344)).setCell ⟨gb358, 1, none⟩ (.slice Ao31 t345.length co31)).setCell ⟨gb358, 2, none⟩ (.int .i64 t348)).setCell ⟨gb359, 0, none⟩ (.int .i64 t349)).setCell ⟨gb359, 1, none⟩ (.int .i64 t350)).setCell ⟨gb359, 2, none⟩ (.int .i64 t351)).setCell ⟨gb359, 3, none⟩ (.int .i64 t352)).setCell ⟨gb359, 4, none⟩ (.int .i64 t353)).setCell ⟨gb359, 5, none⟩ (.int .i64 t354)).setCell ⟨gb359, 6, none⟩ (.string t355)).setCell ⟨gb359, 7, none⟩ (.int .i64 t356)).heap[gb331]? = some (.cells #[.int .i64 a0_0, .slice A0_1 l0_1.length c0_1, .int .i64 a0_2] 24 (0, 0))) := ⟨by exact BM BK331.out (N1 NB331_359.out (N1 NB331_358.out N0))⟩
                  have n4_ : Aside0 ((((((((((((w26.setCell ⟨gb358, 0, none⟩ (.int .i64 t344)).setCell ⟨gb358, 1, none⟩ (.slice Ao31 t345.length co31)).setCell ⟨gb358, 2, none⟩ (.int .i64 t348)).setCell ⟨gb359, 0, none⟩ (.int .i64 t349)).setCell ⟨gb359, 1, none⟩ (.int .i64 t350)).setCell ⟨gb359, 2, none⟩ (.int .i64 t351)).setCell ⟨gb359, 3, none⟩ (.int .i64 t352)).setCell ⟨gb359, 4, none⟩ (.int .i64 t353)).setCell ⟨gb359, 5, none⟩ (.int .i64 t354)).setCell ⟨gb359, 6, none⟩ (.string t355)).setCell ⟨gb359, 7, none⟩ (.int .i64 t356)).heap[gb343]? = some (.cells #[.int .i64 t335, .slice Ao21 t336.length co21, .int .i64 t339] 27 (0, 0))) := ⟨by exact BM BK343.out (N1 NB343_359.out (N1 NB343_358.out N0))⟩
                  have n5_ : Aside0 ((((((((((((w26.setCell ⟨gb358, 0, none⟩ (.int .i64 t344)).setCell ⟨gb358, 1, none⟩ (.slice Ao31 t345.length co31)).setCell ⟨gb358, 2, none⟩ (.int .i64 t348)).setCell ⟨gb359, 0, none⟩ (.int .i64 t349)).setCell ⟨gb359, 1, none⟩ (.int .i64 t350)).setCell ⟨gb359, 2, none⟩ (.int .i64 t351)).setCell ⟨gb359, 3, none⟩ (.int .i64 t352)).setCell ⟨gb359, 4, none⟩ (.int .i64 t353)).setCell ⟨gb359, 5, none⟩ (.int .i64 t354)).setCell ⟨gb359, 6, none⟩ (.string t355)).setCell ⟨gb359, 7, none⟩ (.int .i64 t356)).heap[gb358]? = some (.cells #[.int .i64 t344, .slice Ao31 t345.length co31, .int .i64 t348] 27 (0, 0))) := ⟨by (with_reducible repeat (first | refine blk_drewN ?_ _ | refine blk_drew ?_ | refine blk_alloc ?_ _)); refine blk_far ?_ NB358_359.out _; (with_reducible repeat (first | refine blk_drewN ?_ _ | refine blk_drew ?_ | refine blk_alloc ?_ _)); refine blk_far ?_ NB358_359.out _; (with_reducible repeat (first | refine blk_drewN ?_ _ | refine blk_drew ?_ | refine blk_alloc ?_ _)); refine blk_far ?_ NB358_359.out _; (with_reducible repeat (first | refine blk_drewN ?_ _ | refine blk_drew ?_ | refine blk_alloc ?_ _)); refine blk_far ?_ NB358_359.out _; (with_reducible repeat (first | refine blk_drewN ?_ _ | refine blk_drew ?_ | refine blk_alloc ?_ _)); refine blk_far ?_ NB358_359.out _; (with_reducible repeat (first | refine blk_drewN ?_ _ | refine blk_drew ?_ | refine blk_alloc ?_ _)); refine blk_far ?_ NB358_359.out _; (with_reducible repeat (first | refine blk_drewN ?_ _ | refine blk_drew ?_ | refine blk_alloc ?_ _)); refine blk_far ?_ NB358_359.out _; (with_reducible repeat (first | refine blk_drewN ?_ _ | refine blk_drew ?_ | refine blk_alloc ?_ _)); refine blk_far ?_ NB358_359.out _; exact BP BK358.out (by rfl)⟩
                  have n6_ : Aside0 ((((((((((((w26.setCell ⟨gb358, 0, none⟩ (.int .i64 t344)).setCell ⟨gb358, 1, none⟩ (.slice Ao31 t345.length co31)).setCell ⟨gb358, 2, none⟩ (.int .i64 t348)).setCell ⟨gb359, 0, none⟩ (.int .i64 t349)).setCell ⟨gb359, 1, none⟩ (.int .i64 t350)).setCell ⟨gb359, 2, none⟩ (.int .i64 t351)).setCell ⟨gb359, 3, none⟩ (.int .i64 t352)).setCell ⟨gb359, 4, none⟩ (.int .i64 t353)).setCell ⟨gb359, 5, none⟩ (.int .i64 t354)).setCell ⟨gb359, 6, none⟩ (.string t355)).setCell ⟨gb359, 7, none⟩ (.int .i64 t356)).heap[gb359]? = some (.cells #[.int .i64 t349, .int .i64 t350, .int .i64 t351, .int .i64 t352, .int .i64 t353, .int .i64 t354, .string t355, .int .i64 t356] 36 (0, 0))) := ⟨by (with_reducible repeat (first | refine blk_drewN ?_ _ | refine blk_drew ?_ | refine blk_alloc ?_ _)); refine blk_put (cs := #[.int .i64 t349, .int .i64 t350, .int .i64 t351, .int .i64 t352, .int .i64 t353, .int .i64 t354, .string t355, .int .i64 0]) ?_ 7 _ rfl; (with_reducible repeat (first | refine blk_drewN ?_ _ | refine blk_drew ?_ | refine blk_alloc ?_ _)); refine blk_put (cs := #[.int .i64 t349, .int .i64 t350, .int .i64 t351, .int .i64 t352, .int .i64 t353, .int .i64 t354, .string (⟨#[]⟩ : ByteArray), .int .i64 0]) ?_ 6 _ rfl; (with_reducible repeat (first | refine blk_drewN ?_ _ | refine blk_drew ?_ | refine blk_alloc ?_ _)); refine blk_put (cs := #[.int .i64 t349, .int .i64 t350, .int .i64 t351, .int .i64 t352, .int .i64 t353, .int .i64 0, .string (⟨#[]⟩ : ByteArray), .int .i64 0]) ?_ 5 _ rfl; (with_reducible repeat (first | refine blk_drewN ?_ _ | refine blk_drew ?_ | refine blk_alloc ?_ _)); refine blk_put (cs := #[.int .i64 t349, .int .i64 t350, .int .i64 t351, .int .i64 t352, .int .i64 0, .int .i64 0, .string (⟨#[]⟩ : ByteArray), .int .i64 0]) ?_ 4 _ rfl; (with_reducible repeat (first | refine blk_drewN ?_ _ | refine blk_drew ?_ | refine blk_alloc ?_ _)); refine blk_put (cs := #[.int .i64 t349, .int .i64 t350, .int .i64 t351, .int .i64 0, .int .i64 0, .int .i64 0, .string (⟨#[]⟩ : ByteArray), .int .i64 0]) ?_ 3 _ rfl; (with_reducible repeat (first | refine blk_drewN ?_ _ | refine blk_drew ?_ | refine blk_alloc ?_ _)); refine blk_put (cs := #[.int .i64 t349, .int .i64 t350, .int .i64 0, .int .i64 0, .int .i64 0, .int .i64 0, .string (⟨#[]⟩ : ByteArray), .int .i64 0]) ?_ 2 _ rfl; (with_reducible repeat (first | refine blk_drewN ?_ _ | refine blk_drew ?_ | refine blk_alloc ?_ _)); refine blk_put (cs := #[.int .i64 t349, .int .i64 0, .int .i64 0, .int .i64 0, .int .i64 0, .int .i64 0, .string (⟨#[]⟩ : ByteArray), .int .i64 0]) ?_ 1 _ rfl; (with_reducible repeat (first | refine blk_drewN ?_ _ | refine blk_drew ?_ | refine blk_alloc ?_ _)); refine blk_put (cs := #[.int .i64 0, .int .i64 0, .int .i64 0, .int .i64 0, .int .i64 0, .int .i64 0, .string (⟨#[]⟩ : ByteArray), .int .i64 0]) ?_ 0 _ rfl; exact BF BK359.out NB359_358.out⟩
                  have n7_ : Aside0 (Below w.heap.size w (((((((((((w26.setCell ⟨gb358, 0, none⟩ (.int .i64 t344)).setCell ⟨gb358, 1, none⟩ (.slice Ao31 t345.length co31)).setCell ⟨gb358, 2, none⟩ (.int .i64 t348)).setCell ⟨gb359, 0, none⟩ (.int .i64 t349)).setCell ⟨gb359, 1, none⟩ (.int .i64 t350)).setCell ⟨gb359, 2, none⟩ (.int .i64 t351)).setCell ⟨gb359, 3, none⟩ (.int .i64 t352)).setCell ⟨gb359, 4, none⟩ (.int .i64 t353)).setCell ⟨gb359, 5, none⟩ (.int .i64 t354)).setCell ⟨gb359, 6, none⟩ (.string t355)).setCell ⟨gb359, 7, none⟩ (.int .i64 t356))) := ⟨LG HB.out (G1 GE331.out (G1 GE343.out (G1 GE358.out (G1 GE359.out G0))))⟩
                  (try clear HO338)
                  (try clear HO342)
                  (try clear HO347)
                  (try clear BK331)
                  (try clear BK343)
                  (try clear BK358)
                  (try clear BK359)
                  (try clear HB)
                  generalize (((((((((((w26.setCell ⟨gb358, 0, none⟩ (.int .i64 t344)).setCell ⟨gb358, 1, none⟩ (.slice Ao31 t345.length co31)).setCell ⟨gb358, 2, none⟩ (.int .i64 t348)).setCell ⟨gb359, 0, none⟩ (.int .i64 t349)).setCell ⟨gb359, 1, none⟩ (.int .i64 t350)).setCell ⟨gb359, 2, none⟩ (.int .i64 t351)).setCell ⟨gb359, 3, none⟩ (.int .i64 t352)).setCell ⟨gb359, 4, none⟩ (.int .i64 t353)).setCell ⟨gb359, 5, none⟩ (.int .i64 t354)).setCell ⟨gb359, 6, none⟩ (.string t355)).setCell ⟨gb359, 7, none⟩ (.int .i64 t356)) = w58 at n0_ n1_ n2_ n3_ n4_ n5_ n6_ n7_ ⊢
                  have HO338 := n0_
                  have HO342 := n1_
                  have HO347 := n2_
                  have BK331 := n3_
                  have BK343 := n4_
                  have BK358 := n5_
                  have BK359 := n6_
                  have HB := n7_
                  clear n0_ n1_ n2_ n3_ n4_ n5_ n6_ n7_
                  have n0_ := Aside0.mk (Kd.V_drew HO338.out)
                  have n1_ := Aside0.mk (Kd.R_drew HO342.out)
                  have n2_ := Aside0.mk (Kd.V_drew HO347.out)
                  have n3_ := Aside0.mk (blk_drew BK331.out)
                  have n4_ := Aside0.mk (blk_drew BK343.out)
                  have n5_ := Aside0.mk (blk_drew BK358.out)
                  have n6_ := Aside0.mk (blk_drew BK359.out)
                  have n7_ := Aside0.mk (below_drew1 HB.out)
                  clear HO338
                  clear HO342
                  clear HO347
                  clear BK331
                  clear BK343
                  clear BK358
                  clear BK359
                  clear HB
                  have HO338 := n0_
                  have HO342 := n1_
                  have HO347 := n2_
                  have BK331 := n3_
                  have BK343 := n4_
                  have BK358 := n5_
                  have BK359 := n6_
                  have HB := n7_
                  clear n0_ n1_ n2_ n3_ n4_ n5_ n6_ n7_
                  obtain ⟨Ao60, co60, eo60⟩ := Kd.R_slice HO342.out
                  (first | subst eo60 | (injection eo60 with f1_ f2_ f3_; have f4_ := f1_.symm; have f5_ := f3_.symm; clear f1_ f2_ f3_; subst f4_; subst f5_))
                  have q61 : ((l0_1.length : Int) : Int) ≤ ((t340.length : Int) : Int) := of_decide_eq_true (by first | (with_reducible assumption) | assumption)
                  obtain ⟨i061, hi061, _, hsz61, _⟩ := info_parts info36
                  have hroom61 : t340.length ≤ co60 := (Kd.R_reads' HO342.out).2.1
                  have hC61 : Kd.C k36 _ Ao60 t340.length t340 := (Kd.R_reads' HO342.out).2.2
                  have hcut61 := cut_to (P := Try.prog) 22 36 .i64 Try.underlying22 hi061 Ao60 t340.length co60 (l0_1.length : Int) (of_decide_eq_true (by first | (with_reducible assumption) | assumption)) q61 hroom61
                  have hr61 := Kd.C_take (m := ((l0_1.length : Int) : Int).toNat) hC61 (by omega)
                  have hy61 : y360.length = ((l0_1.length : Int) : Int).toNat := (by rw [Ny360.out, List.length_take]; omega)
                  rw [← Ny360.out] at hr61
                  rw [← hy61] at hcut61
                  have HR363 := Aside0.mk hr61
                  have HC363 := Aside0.mk (show y360.length ≤ co60 from by omega)
                  clear hr61 hC61 hroom61 hi061 hsz61
                  have KY61 := Aside0.mk hy61
                  clear hy61
                  have KL61 := Aside0.mk (show ((l0_1.length : Int) : Int).toNat ≤ t340.length from by omega)
                  replace q61 := eq_true q61
                  refine start_ (n := 37) (S := fun w' => w'.cell? ⟨gb331, 0, none⟩ = some (.int .i64 a0_0) ∧ w'.cell? ⟨gb331, 1, none⟩ = some (.slice A0_1 l0_1.length c0_1) ∧ w'.cell? ⟨gb331, 2, none⟩ = some (.int .i64 a0_2)) (ds := []) (tf 0 37) (by kernel_rfl) rfl rfl ⟨(blk_cell BK331.out 0).trans rfl, (blk_cell BK331.out 1).trans rfl, (blk_cell BK331.out 2).trans rfl⟩ (fun hHeld => ?_); refine with_tabW hopperlaw14_FeedReads.tab6 hopperlaw14_FeedReads.bits6 (fun HT_ HW_ => ?_)
                  generalize w58.drew = w59 at HO338 HO342 HO347 BK331 BK343 BK358 BK359 HB HR363 hHeld ⊢
                  refine pure_ (i := 0) (N := some 36) (v := ?_) (a' := ?_) (tf 1 37) rfl rfl (any_of HT_.out (by kernel_rfl)) (fun _ _ _ h => h) (Or.inl ⟨by rfl, ?_⟩) ?_ ?_
                  rotate_left
                  · intro w'
                    go_simp
                    with_reducible rfl
                  rotate_left
                  · simp only [Act.put, PU, i64_w, i32_w]
                    rfl
                  refine pure_ (i := 1) (N := some 37) (v := ?_) (a' := ?_) (tf 2 37) rfl rfl (any_of HT_.out (by kernel_rfl)) (fun _ _ _ h => h) (Or.inl ⟨by rfl, ?_⟩) ?_ ?_
                  rotate_left
                  · intro w'
                    go_simp
                    with_reducible rfl
                  rotate_left
                  · simp only [Act.put, PU, i64_w, i32_w]
                    rfl
                  refine pure_ (i := 2) (N := some 38) (v := ?_) (a' := ?_) (tf 3 37) rfl rfl (any_of HT_.out (by kernel_rfl)) (fun _ _ _ h => h) (Or.inl ⟨by rfl, ?_⟩) ?_ ?_
                  rotate_left
                  · intro w'
                    go_simp
                    with_reducible rfl
                  rotate_left
                  · simp only [Act.put, PU, i64_w, i32_w]
                    rfl
                  refine pure_ (i := 3) (N := some 39) (v := ?_) (a' := ?_) (tf 4 37) rfl rfl (any_of HT_.out (by kernel_rfl)) (fun _ _ _ h => h) (Or.inl ⟨by rfl, ?_⟩) ?_ ?_
                  rotate_left
                  · intro w'
                    go_simp
                    with_reducible rfl
                  rotate_left
                  · simp only [Act.put, PU, i64_w, i32_w]
                    rfl
                  refine pure_ (i := 4) (N := some 40) (v := ?_) (a' := ?_) (tf 5 37) rfl rfl (any_of HT_.out (by kernel_rfl)) (fun _ _ _ h => h) (Or.inl ⟨by rfl, ?_⟩) ?_ ?_
                  rotate_left
                  · intro w'
                    go_simp
                    with_reducible rfl
                  rotate_left
                  · simp only [Act.put, PU, i64_w, i32_w]
                    rfl
                  refine pure_ (i := 5) (N := some 41) (v := ?_) (a' := ?_) (tf 6 37) rfl rfl (any_of HT_.out (by kernel_rfl)) (fun _ _ _ h => h) (Or.inl ⟨by rfl, ?_⟩) ?_ ?_
                  rotate_left
                  · intro w'
                    go_simp
                    with_reducible rfl
                  rotate_left
                  · simp only [Act.put, PU, i64_w, i32_w]
                    rfl
                  refine pure_ (i := 6) (N := some 42) (v := ?_) (a' := ?_) (tf 7 37) rfl rfl (any_of HT_.out (by kernel_rfl)) (fun _ _ _ h => h) (Or.inl ⟨by rfl, ?_⟩) ?_ ?_
                  rotate_left
                  · intro w'
                    go_simp
                    with_reducible rfl
                  rotate_left
                  · simp only [Act.put, PU, i64_w, i32_w]
                    rfl
                  refine pure_ (i := 7) (N := some 43) (v := ?_) (a' := ?_) (tf 8 37) rfl rfl (any_of HT_.out (by kernel_rfl)) (fun _ _ _ h => h) (Or.inl ⟨by rfl, ?_⟩) ?_ ?_
                  rotate_left
                  · intro w'
                    go_simp
                    with_reducible rfl
                  rotate_left
                  · simp only [Act.put, PU, i64_w, i32_w]
                    rfl
                  refine pure_ (i := 8) (N := some 44) (v := ?_) (a' := ?_) (tf 9 37) rfl rfl (any_of HT_.out (by kernel_rfl)) (fun _ _ _ h => h) (Or.inl ⟨by rfl, ?_⟩) ?_ ?_
                  rotate_left
                  · intro w'
                    go_simp
                    with_reducible rfl
                  rotate_left
                  · simp only [Act.put, PU, i64_w, i32_w]
                    rfl
                  refine pure_ (i := 9) (N := some 45) (v := ?_) (a' := ?_) (tf 10 37) rfl rfl (any_of HT_.out (by kernel_rfl)) (fun _ _ _ h => h) (Or.inl ⟨by rfl, ?_⟩) ?_ ?_
                  rotate_left
                  · intro w'
                    go_simp
                    with_reducible rfl
                  rotate_left
                  · simp only [Act.put, PU, i64_w, i32_w]
                    rfl
                  refine pure_ (i := 10) (N := some 46) (v := ?_) (a' := ?_) (tf 11 37) rfl rfl (any_of HT_.out (by kernel_rfl)) (fun _ _ _ h => h) (Or.inl ⟨by rfl, ?_⟩) ?_ ?_
                  rotate_left
                  · intro w'
                    go_simp
                    with_reducible rfl
                  rotate_left
                  · simp only [Act.put, PU, i64_w, i32_w]
                    rfl
                  refine pure_ (i := 11) (N := some 47) (v := ?_) (a' := ?_) (tf 12 37) rfl rfl (any_of HT_.out (by kernel_rfl)) (fun _ _ _ h => h) (Or.inl ⟨by rfl, ?_⟩) ?_ ?_
                  rotate_left
                  · intro w'
                    go_simp
                    with_reducible rfl
                  rotate_left
                  · simp only [Act.put, PU, i64_w, i32_w]
                    rfl
                  refine pure_ (i := 12) (N := some 48) (v := ?_) (a' := ?_) (tf 13 37) rfl rfl (any_of HT_.out (by kernel_rfl)) (fun _ _ _ h => h) (Or.inl ⟨by rfl, ?_⟩) ?_ ?_
                  rotate_left
                  · intro w'
                    go_simp
                    with_reducible rfl
                  rotate_left
                  · simp only [Act.put, PU, i64_w, i32_w]
                    rfl
                  refine pure_ (i := 13) (N := some 49) (v := ?_) (a' := ?_) (tf 14 37) rfl rfl (any_of HT_.out (by kernel_rfl)) (fun _ _ _ h => h) (Or.inl ⟨by rfl, ?_⟩) ?_ ?_
                  rotate_left
                  · intro w'
                    go_simp
                    with_reducible rfl
                  rotate_left
                  · simp only [Act.put, PU, i64_w, i32_w]
                    rfl
                  refine pure_ (i := 14) (N := some 50) (v := ?_) (a' := ?_) (tf 15 37) rfl rfl (any_of HT_.out (by kernel_rfl)) (fun _ _ _ h => h) (Or.inl ⟨by rfl, ?_⟩) ?_ ?_
                  rotate_left
                  · intro w'
                    go_simp
                    with_reducible rfl
                  rotate_left
                  · simp only [Act.put, PU, i64_w, i32_w]
                    rfl
                  refine pure_ (i := 15) (N := some 51) (v := ?_) (a' := ?_) (tf 16 37) rfl rfl (any_of HT_.out (by kernel_rfl)) (fun _ _ _ h => h) (Or.inl ⟨by rfl, ?_⟩) ?_ ?_
                  rotate_left
                  · intro w'
                    go_simp
                    with_reducible rfl
                  rotate_left
                  · simp only [Act.put, PU, i64_w, i32_w]
                    rfl
                  refine take_ (i := 16) (N := some 52) (v := ?_) (a' := ?_) (tf 17 37) rfl rfl (take_ofW HT_.out HW_.out (by kernel_rfl)) (fun _ _ _ h => h) (Or.inl ⟨by rfl, ?_⟩) hHeld ?_ ?_
                  rotate_left
                  · rintro w' ⟨s0, s1, s2⟩
                    go_simp
                    with_reducible rfl
                  rotate_left
                  · simp only [Act.put, PU, i64_w, i32_w]
                    rfl
                  refine one_ (i := 17) (N := some 53) (tf 18 37) rfl rfl (one_of HT_.out (by kernel_rfl)) (by decide) (fun K hK => ?_)
                  refine goes_ Try.func18 (by kernel_rfl) rfl #[.slice Ao60 y360.length co60, .slice A0_1 l0_1.length c0_1] (by rfl) rfl rfl (by (try simp only [List.map_toArray, List.map_cons, List.map_nil]); first | done | rfl | (simp only [List.length_drop, List.length_take]; rfl)) ?_
                  with_reducible refine (hopperref13_Events.calls kj2 _ _ y360 _ _ l0_1 true _ ?side1 ?side2 ?side3 ?side4 A46.out).mono ?_
                  (case side1 => repeat (first | exact (by repeat (first | (with_reducible exact HR363.out) | (with_reducible refine Kd.C_alloc ?_ _) | (with_reducible refine Kd.C_drewN ?_ _) | (with_reducible refine Kd.C_drew ?_) | exact HR363.out)) | (with_reducible refine Kd.C_alloc ?_ _) | (with_reducible refine Kd.C_drewN ?_ _) | (with_reducible refine Kd.C_drew ?_)))
                  (case side2 => exact HC363.out)
                  (case side3 => exact Kd.CA (Kd.C_below HR0_1.out HB.out))
                  (case side4 => exact HC0_1.out)
                  rintro e w' ⟨rfl, ⟨nd, rfl⟩⟩
                  refine ⟨_, rfl, ?_⟩
                  refine hK.out _ _ ⟨(blk_cell BK331.out 0).trans rfl, (blk_cell BK331.out 1).trans rfl, (blk_cell BK331.out 2).trans rfl⟩ (fun hHeld => ?_)
                  clear hK K
                  refine norm_ (a' := ?_) ?_ ?_
                  rotate_left
                  · show Act.put _ (some 53) _ = _
                    simp only [Act.put, PU, i64_w, i32_w]
                    rfl
                  refine pure_ (i := 18) (N := some 54) (v := ?_) (a' := ?_) (tf 19 37) rfl rfl (any_of HT_.out (by kernel_rfl)) (fun _ _ _ h => h) (Or.inl ⟨by rfl, ?_⟩) ?_ ?_
                  rotate_left
                  · intro w'
                    go_simp
                    with_reducible rfl
                  rotate_left
                  · simp only [Act.put, PU, i64_w, i32_w]
                    rfl
                  refine pure_ (i := 19) (N := some 55) (v := ?_) (a' := ?_) (tf 20 37) rfl rfl (any_of HT_.out (by kernel_rfl)) (fun _ _ _ h => h) (Or.inl ⟨by rfl, ?_⟩) ?_ ?_
                  rotate_left
                  · intro w'
                    go_simp
                    with_reducible rfl
                  rotate_left
                  · simp only [Act.put, PU, i64_w, i32_w]
                    rfl
                  refine pure_ (i := 20) (N := some 56) (v := ?_) (a' := ?_) (tf 21 37) rfl rfl (any_of HT_.out (by kernel_rfl)) (fun _ _ _ h => h) (Or.inl ⟨by rfl, ?_⟩) ?_ ?_
                  rotate_left
                  · intro w'
                    go_simp
                    with_reducible rfl
                  rotate_left
                  · simp only [Act.put, PU, i64_w, i32_w]
                    rfl
                  refine pure_ (i := 21) (N := some 57) (v := ?_) (a' := ?_) (tf 22 37) rfl rfl (any_of HT_.out (by kernel_rfl)) (fun _ _ _ h => h) (Or.inl ⟨by rfl, ?_⟩) ?_ ?_
                  rotate_left
                  · intro w'
                    go_simp
                    with_reducible rfl
                  rotate_left
                  · simp only [Act.put, PU, i64_w, i32_w]
                    rfl
                  refine pure_ (i := 22) (N := some 58) (v := ?_) (a' := ?_) (tf 23 37) rfl rfl (any_of HT_.out (by kernel_rfl)) (fun _ _ _ h => h) (Or.inl ⟨by rfl, ?_⟩) ?_ ?_
                  rotate_left
                  · intro w'
                    go_simp
                    with_reducible rfl
                  rotate_left
                  · simp only [Act.put, PU, i64_w, i32_w]
                    rfl
                  refine pure_ (i := 23) (N := some 59) (v := ?_) (a' := ?_) (tf 24 37) rfl rfl (any_of HT_.out (by kernel_rfl)) (fun _ _ _ h => h) (Or.inl ⟨by rfl, ?_⟩) ?_ ?_
                  rotate_left
                  · intro w'
                    go_simp
                    with_reducible rfl
                  rotate_left
                  · simp only [Act.put, PU, i64_w, i32_w]
                    rfl
                  refine pure_ (i := 24) (N := some 60) (v := ?_) (a' := ?_) (tf 25 37) rfl rfl (any_of HT_.out (by kernel_rfl)) (fun _ _ _ h => h) (Or.inl ⟨by rfl, ?_⟩) ?_ ?_
                  rotate_left
                  · intro w'
                    go_simp
                    with_reducible rfl
                  rotate_left
                  · simp only [Act.put, PU, i64_w, i32_w]
                    rfl
                  refine pure_ (i := 25) (N := some 61) (v := undef) (a' := ?_) (tf 26 37) rfl rfl (any_of HT_.out (by kernel_rfl)) (fun _ _ _ h => h) (Or.inr ⟨by rfl, rfl⟩) ?_ ?_
                  rotate_left
                  · simp only [Act.put, PU, i64_w, i32_w]
                    rfl
                  refine pure_ (i := 26) (N := some 62) (v := undef) (a' := ?_) (tf 27 37) rfl rfl (any_of HT_.out (by kernel_rfl)) (fun _ _ _ h => h) (Or.inr ⟨by rfl, rfl⟩) ?_ ?_
                  rotate_left
                  · simp only [Act.put, PU, i64_w, i32_w]
                    rfl
                  refine pure_ (i := 27) (N := some 63) (v := undef) (a' := ?_) (tf 28 37) rfl rfl (any_of HT_.out (by kernel_rfl)) (fun _ _ _ h => h) (Or.inr ⟨by rfl, rfl⟩) ?_ ?_
                  rotate_left
                  · simp only [Act.put, PU, i64_w, i32_w]
                    rfl
                  refine pure_ (i := 28) (N := some 64) (v := undef) (a' := ?_) (tf 29 37) rfl rfl (any_of HT_.out (by kernel_rfl)) (fun _ _ _ h => h) (Or.inr ⟨by rfl, rfl⟩) ?_ ?_
                  rotate_left
                  · simp only [Act.put, PU, i64_w, i32_w]
                    rfl
                  refine pure_ (i := 29) (N := some 65) (v := ?_) (a' := ?_) (tf 30 37) rfl rfl (any_of HT_.out (by kernel_rfl)) (fun _ _ _ h => h) (Or.inl ⟨by rfl, ?_⟩) ?_ ?_
                  rotate_left
                  · intro w'
                    go_simp
                    with_reducible rfl
                  rotate_left
                  · simp only [Act.put, PU, i64_w, i32_w]
                    rfl
                  refine pure_ (i := 30) (N := some 66) (v := ?_) (a' := ?_) (tf 31 37) rfl rfl (any_of HT_.out (by kernel_rfl)) (fun _ _ _ h => h) (Or.inl ⟨by rfl, ?_⟩) ?_ ?_
                  rotate_left
                  · intro w'
                    go_simp
                    with_reducible rfl
                  rotate_left
                  · simp only [Act.put, PU, i64_w, i32_w]
                    rfl
                  refine pure_ (i := 31) (N := some 67) (v := undef) (a' := ?_) (tf 32 37) rfl rfl (any_of HT_.out (by kernel_rfl)) (fun _ _ _ h => h) (Or.inr ⟨by rfl, rfl⟩) ?_ ?_
                  rotate_left
                  · simp only [Act.put, PU, i64_w, i32_w]
                    rfl
                  refine pure_ (i := 32) (N := some 68) (v := undef) (a' := ?_) (tf 33 37) rfl rfl (any_of HT_.out (by kernel_rfl)) (fun _ _ _ h => h) (Or.inr ⟨by rfl, rfl⟩) ?_ ?_
                  rotate_left
                  · simp only [Act.put, PU, i64_w, i32_w]
                    rfl
                  refine pure_ (i := 33) (N := some 69) (v := undef) (a' := ?_) (tf 34 37) rfl rfl (any_of HT_.out (by kernel_rfl)) (fun _ _ _ h => h) (Or.inr ⟨by rfl, rfl⟩) ?_ ?_
                  rotate_left
                  · simp only [Act.put, PU, i64_w, i32_w]
                    rfl
                  refine pure_ (i := 34) (N := some 70) (v := undef) (a' := ?_) (tf 35 37) rfl rfl (any_of HT_.out (by kernel_rfl)) (fun _ _ _ h => h) (Or.inr ⟨by rfl, rfl⟩) ?_ ?_
                  rotate_left
                  · simp only [Act.put, PU, i64_w, i32_w]
                    rfl
                  refine pure_ (i := 35) (N := some 71) (v := undef) (a' := ?_) (tf 36 37) rfl rfl (any_of HT_.out (by kernel_rfl)) (fun _ _ _ h => h) (Or.inr ⟨by rfl, rfl⟩) ?_ ?_
                  rotate_left
                  · simp only [Act.put, PU, i64_w, i32_w]
                    rfl
                  refine pure_ (i := 36) (N := some 72) (v := ?_) (a' := ?_) (tf 37 37) rfl rfl (any_of HT_.out (by kernel_rfl)) (fun _ _ _ h => h) (Or.inl ⟨by rfl, ?_⟩) ?_ ?_
                  rotate_left
                  · intro w'
                    go_simp
                    with_reducible rfl
                  rotate_left
                  · simp only [Act.put, PU, i64_w, i32_w]
                    rfl
                  refine done_ (done_of HT_.out (by kernel_rfl)) ?_
                  try go_wp2
                  go_meet
                  case rel => exact ⟨_, (true), (by first | (rw [HR_.out]; done) | rfl | (rw [HR_.out]; rfl) | (simp [HR_.out]; done) | (simp; done) | (simp [*]; done)), H', ⟨by have := HJ2.out; first | omega | exact Nat.le_refl _⟩, ⟨by (with_reducible repeat (first | apply Kd.R_alloc | apply Kd.R_drewN | apply Kd.R_drew)); exact HO342.out⟩, ⟨by (with_reducible repeat (first | apply Kd.V_alloc | apply Kd.V_drewN | apply Kd.V_drew)); exact HO338.out⟩, ⟨by (with_reducible repeat (first | apply Kd.V_alloc | apply Kd.V_drewN | apply Kd.V_drew)); exact HO347.out⟩, ⟨by (with_reducible repeat (first | refine blk_drewN ?_ _ | refine blk_drew ?_ | refine blk_alloc ?_ _)); exact BK331.out⟩, ⟨by (with_reducible repeat (first | refine blk_drewN ?_ _ | refine blk_drew ?_ | refine blk_alloc ?_ _)); exact BK343.out⟩, ⟨by (with_reducible repeat (first | refine blk_drewN ?_ _ | refine blk_drew ?_ | refine blk_alloc ?_ _)); exact BK358.out⟩, ⟨by (with_reducible repeat (first | refine blk_drewN ?_ _ | refine blk_drew ?_ | refine blk_alloc ?_ _)); exact BK359.out⟩, ⟨LG HB.out (G1 GE331.out (G1 GE343.out (G1 GE358.out (G1 GE359.out G0))))⟩⟩
              · replace c47 := Bool.eq_false_iff.mpr c47
                subst c47
                have H1 : (hopperlaw14_FeedReads.j1 kj2 l1 t340 (l0_1.length : Int) true a0_0 l0_1 a0_2 t335 t336 t339) = some true := by rw [if_neg (show ¬ (false = true) by decide)] at H; exact H
                clear H
                have H := H1
                clear H1
                have H' := Aside0.mk H
                clear H
                try go_wp2
                have n0_ : Aside0 (Kd.V k36 36 (((((((((((w26.setCell ⟨gb358, 0, none⟩ (.int .i64 t344)).setCell ⟨gb358, 1, none⟩ (.slice Ao31 t345.length co31)).setCell ⟨gb358, 2, none⟩ (.int .i64 t348)).setCell ⟨gb359, 0, none⟩ (.int .i64 t349)).setCell ⟨gb359, 1, none⟩ (.int .i64 t350)).setCell ⟨gb359, 2, none⟩ (.int .i64 t351)).setCell ⟨gb359, 3, none⟩ (.int .i64 t352)).setCell ⟨gb359, 4, none⟩ (.int .i64 t353)).setCell ⟨gb359, 5, none⟩ (.int .i64 t354)).setCell ⟨gb359, 6, none⟩ (.string t355)).setCell ⟨gb359, 7, none⟩ (.int .i64 t356)) w.heap.size (fun k_ => some k_ ≠ (v341 : Value).ownBlock ∧ k_ ≠ gb331 ∧ k_ ≠ gb343 ∧ k_ ≠ gb358 ∧ k_ ≠ gb359) (.slice Ao21 t336.length co21) t336) := ⟨by (with_reducible repeat (first | apply Kd.V_alloc | apply Kd.V_drewN | apply Kd.V_drew)); exact Kd.V_mono (Kd.V_ms (gs := [gb359, gb358]) (Kd.V_mono (Kd.V_mono HO338.out (fun k_ hk => (⟨hk, hk.1.2⟩ : _ ∧ k_ ≠ gb358))) (fun k_ hk => (⟨hk, hk.1.2⟩ : _ ∧ k_ ≠ gb359))) (fun _ hk => N1 (hk.2) (N1 (hk.1.2) (N0)))) (fun _ hk => ⟨hk.1.1.1.1.1, ⟨hk.1.1.1.1.2.1, ⟨hk.1.1.1.1.2.2, ⟨hk.1.1.1.2, hk.1.1.2⟩⟩⟩⟩)⟩
                have n1_ : Aside0 (Kd.R k36 36 (((((((((((w26.setCell ⟨gb358, 0, none⟩ (.int .i64 t344)).setCell ⟨gb358, 1, none⟩ (.slice Ao31 t345.length co31)).setCell ⟨gb358, 2, none⟩ (.int .i64 t348)).setCell ⟨gb359, 0, none⟩ (.int .i64 t349)).setCell ⟨gb359, 1, none⟩ (.int .i64 t350)).setCell ⟨gb359, 2, none⟩ (.int .i64 t351)).setCell ⟨gb359, 3, none⟩ (.int .i64 t352)).setCell ⟨gb359, 4, none⟩ (.int .i64 t353)).setCell ⟨gb359, 5, none⟩ (.int .i64 t354)).setCell ⟨gb359, 6, none⟩ (.string t355)).setCell ⟨gb359, 7, none⟩ (.int .i64 t356)) w.heap.size (fun k_ => k_ ≠ gb359) v341 t340) := ⟨by (with_reducible repeat (first | apply Kd.R_alloc | apply Kd.R_drewN | apply Kd.R_drew)); exact Kd.R_mono (Kd.R_ms (gs := [gb359, gb358]) (Kd.R_mono (Kd.R_types HO342.out BK358.out (by decide)) (fun k_ hk => (⟨hk, hk.1.2⟩ : _ ∧ k_ ≠ gb359))) (fun _ hk => N1 (hk.2) (N1 (hk.1.2) (N0)))) (fun _ hk => hk.1.1.2)⟩
                have n2_ : Aside0 (Kd.V k36 36 (((((((((((w26.setCell ⟨gb358, 0, none⟩ (.int .i64 t344)).setCell ⟨gb358, 1, none⟩ (.slice Ao31 t345.length co31)).setCell ⟨gb358, 2, none⟩ (.int .i64 t348)).setCell ⟨gb359, 0, none⟩ (.int .i64 t349)).setCell ⟨gb359, 1, none⟩ (.int .i64 t350)).setCell ⟨gb359, 2, none⟩ (.int .i64 t351)).setCell ⟨gb359, 3, none⟩ (.int .i64 t352)).setCell ⟨gb359, 4, none⟩ (.int .i64 t353)).setCell ⟨gb359, 5, none⟩ (.int .i64 t354)).setCell ⟨gb359, 6, none⟩ (.string t355)).setCell ⟨gb359, 7, none⟩ (.int .i64 t356)) w.heap.size (fun k_ => some k_ ≠ (v341 : Value).ownBlock ∧ k_ ≠ gb331 ∧ k_ ≠ gb343 ∧ k_ ≠ gb358 ∧ k_ ≠ gb359) (.slice Ao31 t345.length co31) t345) := ⟨by (with_reducible repeat (first | apply Kd.V_alloc | apply Kd.V_drewN | apply Kd.V_drew)); exact Kd.V_mono (Kd.V_ms (gs := [gb359, gb358]) (Kd.V_mono (Kd.V_mono HO347.out (fun k_ hk => (⟨hk, hk.1.2⟩ : _ ∧ k_ ≠ gb358))) (fun k_ hk => (⟨hk, hk.1.2⟩ : _ ∧ k_ ≠ gb359))) (fun _ hk => N1 (hk.2) (N1 (hk.1.2) (N0)))) (fun _ hk => ⟨hk.1.1.1.1.1, ⟨hk.1.1.1.1.2.1, ⟨hk.1.1.1.1.2.2, ⟨hk.1.1.1.2, hk.1.1.2⟩⟩⟩⟩)⟩
                have n3_ : Aside0 ((((((((((((w26.setCell ⟨gb358, 0, none⟩ (.int .i64 t344)).setCell ⟨gb358, 1, none⟩ (.slice Ao31 t345.length co31)).setCell ⟨gb358, 2, none⟩ (.int .i64 t348)).setCell ⟨gb359, 0, none⟩ (.int .i64 t349)).setCell ⟨gb359, 1, none⟩ (.int .i64 t350)).setCell ⟨gb359, 2, none⟩ (.int .i64 t351)).setCell ⟨gb359, 3, none⟩ (.int .i64 t352)).setCell ⟨gb359, 4, none⟩ (.int .i64 t353)).setCell ⟨gb359, 5, none⟩ (.int .i64 t354)).setCell ⟨gb359, 6, none⟩ (.string t355)).setCell ⟨gb359, 7, none⟩ (.int .i64 t356)).heap[gb331]? = some (.cells #[.int .i64 a0_0, .slice A0_1 l0_1.length c0_1, .int .i64 a0_2] 24 (0, 0))) := ⟨by exact BM BK331.out (N1 NB331_359.out (N1 NB331_358.out N0))⟩
                have n4_ : Aside0 ((((((((((((w26.setCell ⟨gb358, 0, none⟩ (.int .i64 t344)).setCell ⟨gb358, 1, none⟩ (.slice Ao31 t345.length co31)).setCell ⟨gb358, 2, none⟩ (.int .i64 t348)).setCell ⟨gb359, 0, none⟩ (.int .i64 t349)).setCell ⟨gb359, 1, none⟩ (.int .i64 t350)).setCell ⟨gb359, 2, none⟩ (.int .i64 t351)).setCell ⟨gb359, 3, none⟩ (.int .i64 t352)).setCell ⟨gb359, 4, none⟩ (.int .i64 t353)).setCell ⟨gb359, 5, none⟩ (.int .i64 t354)).setCell ⟨gb359, 6, none⟩ (.string t355)).setCell ⟨gb359, 7, none⟩ (.int .i64 t356)).heap[gb343]? = some (.cells #[.int .i64 t335, .slice Ao21 t336.length co21, .int .i64 t339] 27 (0, 0))) := ⟨by exact BM BK343.out (N1 NB343_359.out (N1 NB343_358.out N0))⟩
                have n5_ : Aside0 ((((((((((((w26.setCell ⟨gb358, 0, none⟩ (.int .i64 t344)).setCell ⟨gb358, 1, none⟩ (.slice Ao31 t345.length co31)).setCell ⟨gb358, 2, none⟩ (.int .i64 t348)).setCell ⟨gb359, 0, none⟩ (.int .i64 t349)).setCell ⟨gb359, 1, none⟩ (.int .i64 t350)).setCell ⟨gb359, 2, none⟩ (.int .i64 t351)).setCell ⟨gb359, 3, none⟩ (.int .i64 t352)).setCell ⟨gb359, 4, none⟩ (.int .i64 t353)).setCell ⟨gb359, 5, none⟩ (.int .i64 t354)).setCell ⟨gb359, 6, none⟩ (.string t355)).setCell ⟨gb359, 7, none⟩ (.int .i64 t356)).heap[gb358]? = some (.cells #[.int .i64 t344, .slice Ao31 t345.length co31, .int .i64 t348] 27 (0, 0))) := ⟨by (with_reducible repeat (first | refine blk_drewN ?_ _ | refine blk_drew ?_ | refine blk_alloc ?_ _)); refine blk_far ?_ NB358_359.out _; (with_reducible repeat (first | refine blk_drewN ?_ _ | refine blk_drew ?_ | refine blk_alloc ?_ _)); refine blk_far ?_ NB358_359.out _; (with_reducible repeat (first | refine blk_drewN ?_ _ | refine blk_drew ?_ | refine blk_alloc ?_ _)); refine blk_far ?_ NB358_359.out _; (with_reducible repeat (first | refine blk_drewN ?_ _ | refine blk_drew ?_ | refine blk_alloc ?_ _)); refine blk_far ?_ NB358_359.out _; (with_reducible repeat (first | refine blk_drewN ?_ _ | refine blk_drew ?_ | refine blk_alloc ?_ _)); refine blk_far ?_ NB358_359.out _; (with_reducible repeat (first | refine blk_drewN ?_ _ | refine blk_drew ?_ | refine blk_alloc ?_ _)); refine blk_far ?_ NB358_359.out _; (with_reducible repeat (first | refine blk_drewN ?_ _ | refine blk_drew ?_ | refine blk_alloc ?_ _)); refine blk_far ?_ NB358_359.out _; (with_reducible repeat (first | refine blk_drewN ?_ _ | refine blk_drew ?_ | refine blk_alloc ?_ _)); refine blk_far ?_ NB358_359.out _; exact BP BK358.out (by rfl)⟩
                have n6_ : Aside0 ((((((((((((w26.setCell ⟨gb358, 0, none⟩ (.int .i64 t344)).setCell ⟨gb358, 1, none⟩ (.slice Ao31 t345.length co31)).setCell ⟨gb358, 2, none⟩ (.int .i64 t348)).setCell ⟨gb359, 0, none⟩ (.int .i64 t349)).setCell ⟨gb359, 1, none⟩ (.int .i64 t350)).setCell ⟨gb359, 2, none⟩ (.int .i64 t351)).setCell ⟨gb359, 3, none⟩ (.int .i64 t352)).setCell ⟨gb359, 4, none⟩ (.int .i64 t353)).setCell ⟨gb359, 5, none⟩ (.int .i64 t354)).setCell ⟨gb359, 6, none⟩ (.string t355)).setCell ⟨gb359, 7, none⟩ (.int .i64 t356)).heap[gb359]? = some (.cells #[.int .i64 t349, .int .i64 t350, .int .i64 t351, .int .i64 t352, .int .i64 t353, .int .i64 t354, .string t355, .int .i64 t356] 36 (0, 0))) := ⟨by (with_reducible repeat (first | refine blk_drewN ?_ _ | refine blk_drew ?_ | refine blk_alloc ?_ _)); refine blk_put (cs := #[.int .i64 t349, .int .i64 t350, .int .i64 t351, .int .i64 t352, .int .i64 t353, .int .i64 t354, .string t355, .int .i64 0]) ?_ 7 _ rfl; (with_reducible repeat (first | refine blk_drewN ?_ _ | refine blk_drew ?_ | refine blk_alloc ?_ _)); refine blk_put (cs := #[.int .i64 t349, .int .i64 t350, .int .i64 t351, .int .i64 t352, .int .i64 t353, .int .i64 t354, .string (⟨#[]⟩ : ByteArray), .int .i64 0]) ?_ 6 _ rfl; (with_reducible repeat (first | refine blk_drewN ?_ _ | refine blk_drew ?_ | refine blk_alloc ?_ _)); refine blk_put (cs := #[.int .i64 t349, .int .i64 t350, .int .i64 t351, .int .i64 t352, .int .i64 t353, .int .i64 0, .string (⟨#[]⟩ : ByteArray), .int .i64 0]) ?_ 5 _ rfl; (with_reducible repeat (first | refine blk_drewN ?_ _ | refine blk_drew ?_ | refine blk_alloc ?_ _)); refine blk_put (cs := #[.int .i64 t349, .int .i64 t350, .int .i64 t351, .int .i64 t352, .int .i64 0, .int .i64 0, .string (⟨#[]⟩ : ByteArray), .int .i64 0]) ?_ 4 _ rfl; (with_reducible repeat (first | refine blk_drewN ?_ _ | refine blk_drew ?_ | refine blk_alloc ?_ _)); refine blk_put (cs := #[.int .i64 t349, .int .i64 t350, .int .i64 t351, .int .i64 0, .int .i64 0, .int .i64 0, .string (⟨#[]⟩ : ByteArray), .int .i64 0]) ?_ 3 _ rfl; (with_reducible repeat (first | refine blk_drewN ?_ _ | refine blk_drew ?_ | refine blk_alloc ?_ _)); refine blk_put (cs := #[.int .i64 t349, .int .i64 t350, .int .i64 0, .int .i64 0, .int .i64 0, .int .i64 0, .string (⟨#[]⟩ : ByteArray), .int .i64 0]) ?_ 2 _ rfl; (with_reducible repeat (first | refine blk_drewN ?_ _ | refine blk_drew ?_ | refine blk_alloc ?_ _)); refine blk_put (cs := #[.int .i64 t349, .int .i64 0, .int .i64 0, .int .i64 0, .int .i64 0, .int .i64 0, .string (⟨#[]⟩ : ByteArray), .int .i64 0]) ?_ 1 _ rfl; (with_reducible repeat (first | refine blk_drewN ?_ _ | refine blk_drew ?_ | refine blk_alloc ?_ _)); refine blk_put (cs := #[.int .i64 0, .int .i64 0, .int .i64 0, .int .i64 0, .int .i64 0, .int .i64 0, .string (⟨#[]⟩ : ByteArray), .int .i64 0]) ?_ 0 _ rfl; exact BF BK359.out NB359_358.out⟩
                have n7_ : Aside0 (Below w.heap.size w (((((((((((w26.setCell ⟨gb358, 0, none⟩ (.int .i64 t344)).setCell ⟨gb358, 1, none⟩ (.slice Ao31 t345.length co31)).setCell ⟨gb358, 2, none⟩ (.int .i64 t348)).setCell ⟨gb359, 0, none⟩ (.int .i64 t349)).setCell ⟨gb359, 1, none⟩ (.int .i64 t350)).setCell ⟨gb359, 2, none⟩ (.int .i64 t351)).setCell ⟨gb359, 3, none⟩ (.int .i64 t352)).setCell ⟨gb359, 4, none⟩ (.int .i64 t353)).setCell ⟨gb359, 5, none⟩ (.int .i64 t354)).setCell ⟨gb359, 6, none⟩ (.string t355)).setCell ⟨gb359, 7, none⟩ (.int .i64 t356))) := ⟨LG HB.out (G1 GE331.out (G1 GE343.out (G1 GE358.out (G1 GE359.out G0))))⟩
                (try clear HO338)
                (try clear HO342)
                (try clear HO347)
                (try clear BK331)
                (try clear BK343)
                (try clear BK358)
                (try clear BK359)
                (try clear HB)
                generalize (((((((((((w26.setCell ⟨gb358, 0, none⟩ (.int .i64 t344)).setCell ⟨gb358, 1, none⟩ (.slice Ao31 t345.length co31)).setCell ⟨gb358, 2, none⟩ (.int .i64 t348)).setCell ⟨gb359, 0, none⟩ (.int .i64 t349)).setCell ⟨gb359, 1, none⟩ (.int .i64 t350)).setCell ⟨gb359, 2, none⟩ (.int .i64 t351)).setCell ⟨gb359, 3, none⟩ (.int .i64 t352)).setCell ⟨gb359, 4, none⟩ (.int .i64 t353)).setCell ⟨gb359, 5, none⟩ (.int .i64 t354)).setCell ⟨gb359, 6, none⟩ (.string t355)).setCell ⟨gb359, 7, none⟩ (.int .i64 t356)) = w62 at n0_ n1_ n2_ n3_ n4_ n5_ n6_ n7_ ⊢
                have HO338 := n0_
                have HO342 := n1_
                have HO347 := n2_
                have BK331 := n3_
                have BK343 := n4_
                have BK358 := n5_
                have BK359 := n6_
                have HB := n7_
                clear n0_ n1_ n2_ n3_ n4_ n5_ n6_ n7_
                have n0_ := Aside0.mk (Kd.V_drew HO338.out)
                have n1_ := Aside0.mk (Kd.R_drew HO342.out)
                have n2_ := Aside0.mk (Kd.V_drew HO347.out)
                have n3_ := Aside0.mk (blk_drew BK331.out)
                have n4_ := Aside0.mk (blk_drew BK343.out)
                have n5_ := Aside0.mk (blk_drew BK358.out)
                have n6_ := Aside0.mk (blk_drew BK359.out)
                have n7_ := Aside0.mk (below_drew1 HB.out)
                clear HO338
                clear HO342
                clear HO347
                clear BK331
                clear BK343
                clear BK358
                clear BK359
                clear HB
                have HO338 := n0_
                have HO342 := n1_
                have HO347 := n2_
                have BK331 := n3_
                have BK343 := n4_
                have BK358 := n5_
                have BK359 := n6_
                have HB := n7_
                clear n0_ n1_ n2_ n3_ n4_ n5_ n6_ n7_
                obtain ⟨Ao64, co64, eo64⟩ := Kd.R_slice HO342.out
                (first | subst eo64 | (injection eo64 with f1_ f2_ f3_; have f4_ := f1_.symm; have f5_ := f3_.symm; clear f1_ f2_ f3_; subst f4_; subst f5_))
                have q65 : ((l0_1.length : Int) : Int) ≤ ((t340.length : Int) : Int) := of_decide_eq_true (by first | (with_reducible assumption) | assumption)
                obtain ⟨i065, hi065, _, hsz65, _⟩ := info_parts info36
                have hroom65 : t340.length ≤ co64 := (Kd.R_reads' HO342.out).2.1
                have hC65 : Kd.C k36 _ Ao64 t340.length t340 := (Kd.R_reads' HO342.out).2.2
                have hcut65 := cut_to (P := Try.prog) 22 36 .i64 Try.underlying22 hi065 Ao64 t340.length co64 (l0_1.length : Int) (of_decide_eq_true (by first | (with_reducible assumption) | assumption)) q65 hroom65
                have hr65 := Kd.C_take (m := ((l0_1.length : Int) : Int).toNat) hC65 (by omega)
                have hy65 : y360.length = ((l0_1.length : Int) : Int).toNat := (by rw [Ny360.out, List.length_take]; omega)
                rw [← Ny360.out] at hr65
                rw [← hy65] at hcut65
                have HR363 := Aside0.mk hr65
                have HC363 := Aside0.mk (show y360.length ≤ co64 from by omega)
                clear hr65 hC65 hroom65 hi065 hsz65
                have KY65 := Aside0.mk hy65
                clear hy65
                have KL65 := Aside0.mk (show ((l0_1.length : Int) : Int).toNat ≤ t340.length from by omega)
                replace q65 := eq_true q65
                refine start_ (n := 37) (S := fun w' => w'.cell? ⟨gb331, 0, none⟩ = some (.int .i64 a0_0) ∧ w'.cell? ⟨gb331, 1, none⟩ = some (.slice A0_1 l0_1.length c0_1) ∧ w'.cell? ⟨gb331, 2, none⟩ = some (.int .i64 a0_2)) (ds := []) (tf 0 37) (by kernel_rfl) rfl rfl ⟨(blk_cell BK331.out 0).trans rfl, (blk_cell BK331.out 1).trans rfl, (blk_cell BK331.out 2).trans rfl⟩ (fun hHeld => ?_); refine with_tabW hopperlaw14_FeedReads.tab6 hopperlaw14_FeedReads.bits6 (fun HT_ HW_ => ?_)
                generalize w62.drew = w63 at HO338 HO342 HO347 BK331 BK343 BK358 BK359 HB HR363 hHeld ⊢
                refine pure_ (i := 0) (N := some 36) (v := ?_) (a' := ?_) (tf 1 37) rfl rfl (any_of HT_.out (by kernel_rfl)) (fun _ _ _ h => h) (Or.inl ⟨by rfl, ?_⟩) ?_ ?_
                rotate_left
                · intro w'
                  go_simp
                  with_reducible rfl
                rotate_left
                · simp only [Act.put, PU, i64_w, i32_w]
                  rfl
                refine pure_ (i := 1) (N := some 37) (v := ?_) (a' := ?_) (tf 2 37) rfl rfl (any_of HT_.out (by kernel_rfl)) (fun _ _ _ h => h) (Or.inl ⟨by rfl, ?_⟩) ?_ ?_
                rotate_left
                · intro w'
                  go_simp
                  with_reducible rfl
                rotate_left
                · simp only [Act.put, PU, i64_w, i32_w]
                  rfl
                refine pure_ (i := 2) (N := some 38) (v := ?_) (a' := ?_) (tf 3 37) rfl rfl (any_of HT_.out (by kernel_rfl)) (fun _ _ _ h => h) (Or.inl ⟨by rfl, ?_⟩) ?_ ?_
                rotate_left
                · intro w'
                  go_simp
                  with_reducible rfl
                rotate_left
                · simp only [Act.put, PU, i64_w, i32_w]
                  rfl
                refine pure_ (i := 3) (N := some 39) (v := ?_) (a' := ?_) (tf 4 37) rfl rfl (any_of HT_.out (by kernel_rfl)) (fun _ _ _ h => h) (Or.inl ⟨by rfl, ?_⟩) ?_ ?_
                rotate_left
                · intro w'
                  go_simp
                  with_reducible rfl
                rotate_left
                · simp only [Act.put, PU, i64_w, i32_w]
                  rfl
                refine pure_ (i := 4) (N := some 40) (v := ?_) (a' := ?_) (tf 5 37) rfl rfl (any_of HT_.out (by kernel_rfl)) (fun _ _ _ h => h) (Or.inl ⟨by rfl, ?_⟩) ?_ ?_
                rotate_left
                · intro w'
                  go_simp
                  with_reducible rfl
                rotate_left
                · simp only [Act.put, PU, i64_w, i32_w]
                  rfl
                refine pure_ (i := 5) (N := some 41) (v := ?_) (a' := ?_) (tf 6 37) rfl rfl (any_of HT_.out (by kernel_rfl)) (fun _ _ _ h => h) (Or.inl ⟨by rfl, ?_⟩) ?_ ?_
                rotate_left
                · intro w'
                  go_simp
                  with_reducible rfl
                rotate_left
                · simp only [Act.put, PU, i64_w, i32_w]
                  rfl
                refine pure_ (i := 6) (N := some 42) (v := ?_) (a' := ?_) (tf 7 37) rfl rfl (any_of HT_.out (by kernel_rfl)) (fun _ _ _ h => h) (Or.inl ⟨by rfl, ?_⟩) ?_ ?_
                rotate_left
                · intro w'
                  go_simp
                  with_reducible rfl
                rotate_left
                · simp only [Act.put, PU, i64_w, i32_w]
                  rfl
                refine pure_ (i := 7) (N := some 43) (v := ?_) (a' := ?_) (tf 8 37) rfl rfl (any_of HT_.out (by kernel_rfl)) (fun _ _ _ h => h) (Or.inl ⟨by rfl, ?_⟩) ?_ ?_
                rotate_left
                · intro w'
                  go_simp
                  with_reducible rfl
                rotate_left
                · simp only [Act.put, PU, i64_w, i32_w]
                  rfl
                refine pure_ (i := 8) (N := some 44) (v := ?_) (a' := ?_) (tf 9 37) rfl rfl (any_of HT_.out (by kernel_rfl)) (fun _ _ _ h => h) (Or.inl ⟨by rfl, ?_⟩) ?_ ?_
                rotate_left
                · intro w'
                  go_simp
                  with_reducible rfl
                rotate_left
                · simp only [Act.put, PU, i64_w, i32_w]
                  rfl
                refine pure_ (i := 9) (N := some 45) (v := ?_) (a' := ?_) (tf 10 37) rfl rfl (any_of HT_.out (by kernel_rfl)) (fun _ _ _ h => h) (Or.inl ⟨by rfl, ?_⟩) ?_ ?_
                rotate_left
                · intro w'
                  go_simp
                  with_reducible rfl
                rotate_left
                · simp only [Act.put, PU, i64_w, i32_w]
                  rfl
                refine pure_ (i := 10) (N := some 46) (v := ?_) (a' := ?_) (tf 11 37) rfl rfl (any_of HT_.out (by kernel_rfl)) (fun _ _ _ h => h) (Or.inl ⟨by rfl, ?_⟩) ?_ ?_
                rotate_left
                · intro w'
                  go_simp
                  with_reducible rfl
                rotate_left
                · simp only [Act.put, PU, i64_w, i32_w]
                  rfl
                refine pure_ (i := 11) (N := some 47) (v := ?_) (a' := ?_) (tf 12 37) rfl rfl (any_of HT_.out (by kernel_rfl)) (fun _ _ _ h => h) (Or.inl ⟨by rfl, ?_⟩) ?_ ?_
                rotate_left
                · intro w'
                  go_simp
                  with_reducible rfl
                rotate_left
                · simp only [Act.put, PU, i64_w, i32_w]
                  rfl
                refine pure_ (i := 12) (N := some 48) (v := ?_) (a' := ?_) (tf 13 37) rfl rfl (any_of HT_.out (by kernel_rfl)) (fun _ _ _ h => h) (Or.inl ⟨by rfl, ?_⟩) ?_ ?_
                rotate_left
                · intro w'
                  go_simp
                  with_reducible rfl
                rotate_left
                · simp only [Act.put, PU, i64_w, i32_w]
                  rfl
                refine pure_ (i := 13) (N := some 49) (v := ?_) (a' := ?_) (tf 14 37) rfl rfl (any_of HT_.out (by kernel_rfl)) (fun _ _ _ h => h) (Or.inl ⟨by rfl, ?_⟩) ?_ ?_
                rotate_left
                · intro w'
                  go_simp
                  with_reducible rfl
                rotate_left
                · simp only [Act.put, PU, i64_w, i32_w]
                  rfl
                refine pure_ (i := 14) (N := some 50) (v := ?_) (a' := ?_) (tf 15 37) rfl rfl (any_of HT_.out (by kernel_rfl)) (fun _ _ _ h => h) (Or.inl ⟨by rfl, ?_⟩) ?_ ?_
                rotate_left
                · intro w'
                  go_simp
                  with_reducible rfl
                rotate_left
                · simp only [Act.put, PU, i64_w, i32_w]
                  rfl
                refine pure_ (i := 15) (N := some 51) (v := ?_) (a' := ?_) (tf 16 37) rfl rfl (any_of HT_.out (by kernel_rfl)) (fun _ _ _ h => h) (Or.inl ⟨by rfl, ?_⟩) ?_ ?_
                rotate_left
                · intro w'
                  go_simp
                  with_reducible rfl
                rotate_left
                · simp only [Act.put, PU, i64_w, i32_w]
                  rfl
                refine take_ (i := 16) (N := some 52) (v := ?_) (a' := ?_) (tf 17 37) rfl rfl (take_ofW HT_.out HW_.out (by kernel_rfl)) (fun _ _ _ h => h) (Or.inl ⟨by rfl, ?_⟩) hHeld ?_ ?_
                rotate_left
                · rintro w' ⟨s0, s1, s2⟩
                  go_simp
                  with_reducible rfl
                rotate_left
                · simp only [Act.put, PU, i64_w, i32_w]
                  rfl
                refine one_ (i := 17) (N := some 53) (tf 18 37) rfl rfl (one_of HT_.out (by kernel_rfl)) (by decide) (fun K hK => ?_)
                refine goes_ Try.func18 (by kernel_rfl) rfl #[.slice Ao64 y360.length co64, .slice A0_1 l0_1.length c0_1] (by rfl) rfl rfl (by (try simp only [List.map_toArray, List.map_cons, List.map_nil]); first | done | rfl | (simp only [List.length_drop, List.length_take]; rfl)) ?_
                with_reducible refine (hopperref13_Events.calls kj2 _ _ y360 _ _ l0_1 false _ ?side1 ?side2 ?side3 ?side4 A46.out).mono ?_
                (case side1 => repeat (first | exact (by repeat (first | (with_reducible exact HR363.out) | (with_reducible refine Kd.C_alloc ?_ _) | (with_reducible refine Kd.C_drewN ?_ _) | (with_reducible refine Kd.C_drew ?_) | exact HR363.out)) | (with_reducible refine Kd.C_alloc ?_ _) | (with_reducible refine Kd.C_drewN ?_ _) | (with_reducible refine Kd.C_drew ?_)))
                (case side2 => exact HC363.out)
                (case side3 => exact Kd.CA (Kd.C_below HR0_1.out HB.out))
                (case side4 => exact HC0_1.out)
                rintro e w' ⟨rfl, ⟨nd, rfl⟩⟩
                refine ⟨_, rfl, ?_⟩
                refine hK.out _ _ ⟨(blk_cell BK331.out 0).trans rfl, (blk_cell BK331.out 1).trans rfl, (blk_cell BK331.out 2).trans rfl⟩ (fun hHeld => ?_)
                clear hK K
                refine norm_ (a' := ?_) ?_ ?_
                rotate_left
                · show Act.put _ (some 53) _ = _
                  simp only [Act.put, PU, i64_w, i32_w]
                  rfl
                refine pure_ (i := 18) (N := some 54) (v := ?_) (a' := ?_) (tf 19 37) rfl rfl (any_of HT_.out (by kernel_rfl)) (fun _ _ _ h => h) (Or.inl ⟨by rfl, ?_⟩) ?_ ?_
                rotate_left
                · intro w'
                  go_simp
                  with_reducible rfl
                rotate_left
                · simp only [Act.put, PU, i64_w, i32_w]
                  rfl
                refine pure_ (i := 19) (N := some 55) (v := ?_) (a' := ?_) (tf 20 37) rfl rfl (any_of HT_.out (by kernel_rfl)) (fun _ _ _ h => h) (Or.inl ⟨by rfl, ?_⟩) ?_ ?_
                rotate_left
                · intro w'
                  go_simp
                  with_reducible rfl
                rotate_left
                · simp only [Act.put, PU, i64_w, i32_w]
                  rfl
                refine pure_ (i := 20) (N := some 56) (v := ?_) (a' := ?_) (tf 21 37) rfl rfl (any_of HT_.out (by kernel_rfl)) (fun _ _ _ h => h) (Or.inl ⟨by rfl, ?_⟩) ?_ ?_
                rotate_left
                · intro w'
                  go_simp
                  with_reducible rfl
                rotate_left
                · simp only [Act.put, PU, i64_w, i32_w]
                  rfl
                refine pure_ (i := 21) (N := some 57) (v := undef) (a' := ?_) (tf 22 37) rfl rfl (any_of HT_.out (by kernel_rfl)) (fun _ _ _ h => h) (Or.inr ⟨by rfl, rfl⟩) ?_ ?_
                rotate_left
                · simp only [Act.put, PU, i64_w, i32_w]
                  rfl
                refine pure_ (i := 22) (N := some 58) (v := undef) (a' := ?_) (tf 23 37) rfl rfl (any_of HT_.out (by kernel_rfl)) (fun _ _ _ h => h) (Or.inr ⟨by rfl, rfl⟩) ?_ ?_
                rotate_left
                · simp only [Act.put, PU, i64_w, i32_w]
                  rfl
                refine pure_ (i := 23) (N := some 59) (v := ?_) (a' := ?_) (tf 24 37) rfl rfl (any_of HT_.out (by kernel_rfl)) (fun _ _ _ h => h) (Or.inl ⟨by rfl, ?_⟩) ?_ ?_
                rotate_left
                · intro w'
                  go_simp
                  with_reducible rfl
                rotate_left
                · simp only [Act.put, PU, i64_w, i32_w]
                  rfl
                refine pure_ (i := 24) (N := some 60) (v := ?_) (a' := ?_) (tf 25 37) rfl rfl (any_of HT_.out (by kernel_rfl)) (fun _ _ _ h => h) (Or.inl ⟨by rfl, ?_⟩) ?_ ?_
                rotate_left
                · intro w'
                  go_simp
                  with_reducible rfl
                rotate_left
                · simp only [Act.put, PU, i64_w, i32_w]
                  rfl
                refine pure_ (i := 25) (N := some 61) (v := undef) (a' := ?_) (tf 26 37) rfl rfl (any_of HT_.out (by kernel_rfl)) (fun _ _ _ h => h) (Or.inr ⟨by rfl, rfl⟩) ?_ ?_
                rotate_left
                · simp only [Act.put, PU, i64_w, i32_w]
                  rfl
                refine pure_ (i := 26) (N := some 62) (v := undef) (a' := ?_) (tf 27 37) rfl rfl (any_of HT_.out (by kernel_rfl)) (fun _ _ _ h => h) (Or.inr ⟨by rfl, rfl⟩) ?_ ?_
                rotate_left
                · simp only [Act.put, PU, i64_w, i32_w]
                  rfl
                refine pure_ (i := 27) (N := some 63) (v := undef) (a' := ?_) (tf 28 37) rfl rfl (any_of HT_.out (by kernel_rfl)) (fun _ _ _ h => h) (Or.inr ⟨by rfl, rfl⟩) ?_ ?_
                rotate_left
                · simp only [Act.put, PU, i64_w, i32_w]
                  rfl
                refine pure_ (i := 28) (N := some 64) (v := undef) (a' := ?_) (tf 29 37) rfl rfl (any_of HT_.out (by kernel_rfl)) (fun _ _ _ h => h) (Or.inr ⟨by rfl, rfl⟩) ?_ ?_
                rotate_left
                · simp only [Act.put, PU, i64_w, i32_w]
                  rfl
                refine pure_ (i := 29) (N := some 65) (v := ?_) (a' := ?_) (tf 30 37) rfl rfl (any_of HT_.out (by kernel_rfl)) (fun _ _ _ h => h) (Or.inl ⟨by rfl, ?_⟩) ?_ ?_
                rotate_left
                · intro w'
                  go_simp
                  with_reducible rfl
                rotate_left
                · simp only [Act.put, PU, i64_w, i32_w]
                  rfl
                refine pure_ (i := 30) (N := some 66) (v := ?_) (a' := ?_) (tf 31 37) rfl rfl (any_of HT_.out (by kernel_rfl)) (fun _ _ _ h => h) (Or.inl ⟨by rfl, ?_⟩) ?_ ?_
                rotate_left
                · intro w'
                  go_simp
                  with_reducible rfl
                rotate_left
                · simp only [Act.put, PU, i64_w, i32_w]
                  rfl
                refine pure_ (i := 31) (N := some 67) (v := undef) (a' := ?_) (tf 32 37) rfl rfl (any_of HT_.out (by kernel_rfl)) (fun _ _ _ h => h) (Or.inr ⟨by rfl, rfl⟩) ?_ ?_
                rotate_left
                · simp only [Act.put, PU, i64_w, i32_w]
                  rfl
                refine pure_ (i := 32) (N := some 68) (v := undef) (a' := ?_) (tf 33 37) rfl rfl (any_of HT_.out (by kernel_rfl)) (fun _ _ _ h => h) (Or.inr ⟨by rfl, rfl⟩) ?_ ?_
                rotate_left
                · simp only [Act.put, PU, i64_w, i32_w]
                  rfl
                refine pure_ (i := 33) (N := some 69) (v := undef) (a' := ?_) (tf 34 37) rfl rfl (any_of HT_.out (by kernel_rfl)) (fun _ _ _ h => h) (Or.inr ⟨by rfl, rfl⟩) ?_ ?_
                rotate_left
                · simp only [Act.put, PU, i64_w, i32_w]
                  rfl
                refine pure_ (i := 34) (N := some 70) (v := undef) (a' := ?_) (tf 35 37) rfl rfl (any_of HT_.out (by kernel_rfl)) (fun _ _ _ h => h) (Or.inr ⟨by rfl, rfl⟩) ?_ ?_
                rotate_left
                · simp only [Act.put, PU, i64_w, i32_w]
                  rfl
                refine pure_ (i := 35) (N := some 71) (v := undef) (a' := ?_) (tf 36 37) rfl rfl (any_of HT_.out (by kernel_rfl)) (fun _ _ _ h => h) (Or.inr ⟨by rfl, rfl⟩) ?_ ?_
                rotate_left
                · simp only [Act.put, PU, i64_w, i32_w]
                  rfl
                refine pure_ (i := 36) (N := some 72) (v := ?_) (a' := ?_) (tf 37 37) rfl rfl (any_of HT_.out (by kernel_rfl)) (fun _ _ _ h => h) (Or.inl ⟨by rfl, ?_⟩) ?_ ?_
                rotate_left
                · intro w'
                  go_simp
                  with_reducible rfl
                rotate_left
                · simp only [Act.put, PU, i64_w, i32_w]
                  rfl
                refine done_ (done_of HT_.out (by kernel_rfl)) ?_
                try go_wp2
                go_meet
                case rel => exact ⟨_, (true), (by first | (rw [HR_.out]; done) | rfl | (rw [HR_.out]; rfl) | (simp [HR_.out]; done) | (simp; done) | (simp [*]; done)), H', ⟨by have := HJ2.out; first | omega | exact Nat.le_refl _⟩, ⟨by (with_reducible repeat (first | apply Kd.R_alloc | apply Kd.R_drewN | apply Kd.R_drew)); exact HO342.out⟩, ⟨by (with_reducible repeat (first | apply Kd.V_alloc | apply Kd.V_drewN | apply Kd.V_drew)); exact HO338.out⟩, ⟨by (with_reducible repeat (first | apply Kd.V_alloc | apply Kd.V_drewN | apply Kd.V_drew)); exact HO347.out⟩, ⟨by (with_reducible repeat (first | refine blk_drewN ?_ _ | refine blk_drew ?_ | refine blk_alloc ?_ _)); exact BK331.out⟩, ⟨by (with_reducible repeat (first | refine blk_drewN ?_ _ | refine blk_drew ?_ | refine blk_alloc ?_ _)); exact BK343.out⟩, ⟨by (with_reducible repeat (first | refine blk_drewN ?_ _ | refine blk_drew ?_ | refine blk_alloc ?_ _)); exact BK358.out⟩, ⟨by (with_reducible repeat (first | refine blk_drewN ?_ _ | refine blk_drew ?_ | refine blk_alloc ?_ _)); exact BK359.out⟩, ⟨LG HB.out (G1 GE331.out (G1 GE343.out (G1 GE358.out (G1 GE359.out G0))))⟩⟩
        case rest =>
          clear HC15
          try clear c1
          try clear p2
          try clear c4
          try clear q6
          try clear c18
          try clear c44
          try clear c45
          try clear c47
          try clear q65
          try clear q65
          obtain ⟨kq, x72_14, rfl, HA, HJ14, HO_6, HO_344001, HO_359001, BK331, BK343, BK358, BK359, HB⟩ := hcut
          cases kq with
          | zero => exact absurd HA.out (by simp [hopperlaw14_FeedReads.j1])
          | succ kj14 =>
            have H := HA.out
            clear HA
            simp only [hopperlaw14_FeedReads.j1] at H
            by_cases c66 : x72_14 = true
            · subst c66
              have H1 : (some false) = some true := by rw [if_pos rfl] at H; exact H
              clear H
              have H := H1
              clear H1
              exact absurd H (by simp)
            · replace c66 := Bool.eq_false_iff.mpr c66
              subst c66
              have H1 : (if (t340.length : Int) = (wrap64 ((l0_1.length : Int) + 1)) then (if 0 ≤ (l0_1.length : Int) then (if (l0_1.length : Int) < (t340.length : Int) then (if (!(((rd_T36 t340 (l0_1.length : Int)).f0) == 4) || ((!(((rd_T36 t340 (l0_1.length : Int)).f1.f0) == 0) || (!(((rd_T36 t340 (l0_1.length : Int)).f1.f1) == 0) || (!(((rd_T36 t340 (l0_1.length : Int)).f1.f2) == 0) || (!(((rd_T36 t340 (l0_1.length : Int)).f1.f3) == 0) || (!(((rd_T36 t340 (l0_1.length : Int)).f1.f4) == 0) || (!((((rd_T36 t340 (l0_1.length : Int)).f1.f5).toList) == ([] : List UInt8)))))))) || (!(((rd_T36 t340 (l0_1.length : Int)).f2) == a0_2)))) = true then (hopperlaw14_FeedReads.j2 kj14 l1 true a0_0 l0_1 a0_2 t335 t336 t339) else (hopperlaw14_FeedReads.j2 kj14 l1 (decide (a0_2 < 1)) a0_0 l0_1 a0_2 t335 t336 t339)) else (none)) else (none)) else (hopperlaw14_FeedReads.j2 kj14 l1 false a0_0 l0_1 a0_2 t335 t336 t339)) = some true := by rw [if_neg (show ¬ (false = true) by decide)] at H; exact H
              clear H
              have H := H1
              clear H1
              have HC67 := Aside0.mk H
              clear H
              go_upto_region 8 with (fail)
              go_cut [92] (fun v92 wc => ∃ (kq : Nat) (x92_66 : Bool), v92 = .bool x92_66 ∧ Aside0 (hopperlaw14_FeedReads.j2 kq l1 x92_66 a0_0 l0_1 a0_2 t335 t336 t339 = some true) ∧ Aside0 (kq ≤ kj14) ∧ Aside0 (Kd.V k36 36 wc w.heap.size (fun k_ => k_ ≠ gb331 ∧ k_ ≠ gb343 ∧ k_ ≠ gb358 ∧ k_ ≠ gb359) (.slice Ao21 t336.length co21) t336) ∧ Aside0 (Kd.V k36 36 wc w.heap.size (fun k_ => k_ ≠ gb331 ∧ k_ ≠ gb343 ∧ k_ ≠ gb358 ∧ k_ ≠ gb359) (.slice Ao31 t345.length co31) t345) ∧ Aside0 (wc.heap[gb331]? = some (.cells #[.int .i64 a0_0, (.slice A0_1 l0_1.length c0_1), .int .i64 a0_2] 24 (0, 0))) ∧ Aside0 (wc.heap[gb343]? = some (.cells #[.int .i64 t335, (.slice Ao21 t336.length co21), .int .i64 t339] 27 (0, 0))) ∧ Aside0 (wc.heap[gb358]? = some (.cells #[.int .i64 t344, (.slice Ao31 t345.length co31), .int .i64 t348] 27 (0, 0))) ∧ Aside0 (wc.heap[gb359]? = some (.cells #[.int .i64 t349, .int .i64 t350, .int .i64 t351, .int .i64 t352, .int .i64 t353, .int .i64 t354, .string t355, .int .i64 t356] 36 (0, 0))) ∧ Aside0 (Below w.heap.size w wc))
              case first =>
                have H := HC67.out
                clear HC67
                by_cases c68 : (t340.length : Int) = (wrap64 ((l0_1.length : Int) + 1))
                · rw [if_pos c68] at H
                  have c68b0 : ((t340.length : Int) == (wrap64 ((l0_1.length : Int) + 1))) = true := beq_iff_eq.mpr c68
                  have c68b1 : ((t340.length : Int) != (wrap64 ((l0_1.length : Int) + 1))) = false := bne_eq_false_iff_eq.mpr c68
                  clear c68
                  (first | rw [c68b0] | (simp only [i64_w, i32_w]; rw [c68b0]) | skip)
                  by_cases c69 : 0 ≤ (l0_1.length : Int)
                  rotate_left
                  · rw [if_neg c69] at H
                    exact absurd H (by simp)
                  rw [if_pos c69] at H
                  have c69b0 : decide (0 ≤ (l0_1.length : Int)) = true := decide_eq_true c69
                  have c69b1 : decide (0 ≤ l0_1.length) = true := decide_eq_true (by omega)
                  clear c69
                  by_cases c70 : (l0_1.length : Int) < (t340.length : Int)
                  rotate_left
                  · rw [if_neg c70] at H
                    exact absurd H (by simp)
                  rw [if_pos c70] at H
                  have c70b0 : decide ((l0_1.length : Int) < (t340.length : Int)) = true := decide_eq_true c70
                  have c70b1 : decide (l0_1.length < t340.length) = true := decide_eq_true (Int.ofNat_lt.mp c70)
                  clear c70
                  by_cases c71 : (!(((rd_T36 t340 (l0_1.length : Int)).f0) == 4) || ((!(((rd_T36 t340 (l0_1.length : Int)).f1.f0) == 0) || (!(((rd_T36 t340 (l0_1.length : Int)).f1.f1) == 0) || (!(((rd_T36 t340 (l0_1.length : Int)).f1.f2) == 0) || (!(((rd_T36 t340 (l0_1.length : Int)).f1.f3) == 0) || (!(((rd_T36 t340 (l0_1.length : Int)).f1.f4) == 0) || (!((((rd_T36 t340 (l0_1.length : Int)).f1.f5).toList) == ([] : List UInt8)))))))) || (!(((rd_T36 t340 (l0_1.length : Int)).f2) == a0_2)))) = true
                  · rw [if_pos c71] at H
                    have c71b0 : (!(((rd_T36 t340 (l0_1.length : Int)).f0) == 4) || ((!(((rd_T36 t340 (l0_1.length : Int)).f1.f0) == 0) || (!(((rd_T36 t340 (l0_1.length : Int)).f1.f1) == 0) || (!(((rd_T36 t340 (l0_1.length : Int)).f1.f2) == 0) || (!(((rd_T36 t340 (l0_1.length : Int)).f1.f3) == 0) || (!(((rd_T36 t340 (l0_1.length : Int)).f1.f4) == 0) || (!((((rd_T36 t340 (l0_1.length : Int)).f1.f5).toList) == ([] : List UInt8)))))))) || (!(((rd_T36 t340 (l0_1.length : Int)).f2) == a0_2)))) = true := c71
                    (try (have c71e : (!(((rd_T36 t340 (l0_1.length : Int)).f0) == 4) || ((!(((rd_T36 t340 (l0_1.length : Int)).f1.f0) == 0) || (!(((rd_T36 t340 (l0_1.length : Int)).f1.f1) == 0) || (!(((rd_T36 t340 (l0_1.length : Int)).f1.f2) == 0) || (!(((rd_T36 t340 (l0_1.length : Int)).f1.f3) == 0) || (!(((rd_T36 t340 (l0_1.length : Int)).f1.f4) == 0) || (!((((rd_T36 t340 (l0_1.length : Int)).f1.f5).toList).isEmpty))))))) || (!(((rd_T36 t340 (l0_1.length : Int)).f2) == a0_2)))) = true := by simpa using c71b0))
                    (try (have c71q : (((rd_T36 t340 (l0_1.length : Int)).f0) = 4 ∧ ((rd_T36 t340 (l0_1.length : Int)).f1.f0) = 0 ∧ ((rd_T36 t340 (l0_1.length : Int)).f1.f1) = 0 ∧ ((rd_T36 t340 (l0_1.length : Int)).f1.f2) = 0 ∧ ((rd_T36 t340 (l0_1.length : Int)).f1.f3) = 0 ∧ ((rd_T36 t340 (l0_1.length : Int)).f1.f4) = 0 ∧ (((rd_T36 t340 (l0_1.length : Int)).f1.f5).toList) = ([] : List UInt8) ∧ ((rd_T36 t340 (l0_1.length : Int)).f2) = a0_2) = False := eq_false (fun ⟨h0_, h1_, h2_, h3_, h4_, h5_, h6_, h7_⟩ => by simp [h0_, h1_, h2_, h3_, h4_, h5_, h6_, h7_] at c71b0)))
                    clear c71
                    have H' := Aside0.mk H
                    clear H
                    try go_wp2
                    have n0_ := Aside0.mk (Kd.R_drew HO_6.out)
                    have n1_ := Aside0.mk (Kd.V_drew HO_344001.out)
                    have n2_ := Aside0.mk (Kd.V_drew HO_359001.out)
                    have n3_ := Aside0.mk (blk_drew BK331.out)
                    have n4_ := Aside0.mk (blk_drew BK343.out)
                    have n5_ := Aside0.mk (blk_drew BK358.out)
                    have n6_ := Aside0.mk (blk_drew BK359.out)
                    have n7_ := Aside0.mk (below_drew1 HB.out)
                    clear HO_6
                    clear HO_344001
                    clear HO_359001
                    clear BK331
                    clear BK343
                    clear BK358
                    clear BK359
                    clear HB
                    have HO_6 := n0_
                    have HO_344001 := n1_
                    have HO_359001 := n2_
                    have BK331 := n3_
                    have BK343 := n4_
                    have BK358 := n5_
                    have BK359 := n6_
                    have HB := n7_
                    clear n0_ n1_ n2_ n3_ n4_ n5_ n6_ n7_
                    obtain ⟨Ao73, co73, eo73⟩ := Kd.R_slice HO_6.out
                    (first | subst eo73 | (injection eo73 with f1_ f2_ f3_; have f4_ := f1_.symm; have f5_ := f3_.symm; clear f1_ f2_ f3_; subst f4_; subst f5_))
                    have p365 : 0 ≤ ((l0_1.length : Int) : Int) := of_decide_eq_true (by first | (with_reducible assumption) | assumption)
                    have q365 : (l0_1.length : Int) < (t340.length : Int) := of_decide_eq_true (by first | (with_reducible assumption) | assumption)
                    obtain ⟨ad365, e365, hx365_0, hx365_1, hx365_2, hx365_3, hx365_4, hx365_5, hx365_6, hx365_7⟩ := at_T36 (Kd.R_reads' HO_6.out).2.2 (l0_1.length : Int) p365 q365
                    cases e365
                    (try simp only [Go.IntWalk.toNatUp] at hx365_0)
                    (try simp only [Go.IntWalk.toNatUp] at hx365_1)
                    (try simp only [Go.IntWalk.toNatUp] at hx365_2)
                    (try simp only [Go.IntWalk.toNatUp] at hx365_3)
                    (try simp only [Go.IntWalk.toNatUp] at hx365_4)
                    (try simp only [Go.IntWalk.toNatUp] at hx365_5)
                    (try simp only [Go.IntWalk.toNatUp] at hx365_6)
                    (try simp only [Go.IntWalk.toNatUp] at hx365_7)
                    replace p365 := eq_true p365
                    replace q365 := eq_true q365
                    refine start_ (n := 20) (S := fun w' => w'.cell? ⟨gb331, 0, none⟩ = some (.int .i64 a0_0) ∧ w'.cell? ⟨gb331, 1, none⟩ = some (.slice A0_1 l0_1.length c0_1) ∧ w'.cell? ⟨gb331, 2, none⟩ = some (.int .i64 a0_2) ∧ w'.cell? (ad365.add (l0_1.length * 8)) = some (.int .i64 ((rd_T36 t340 (l0_1.length : Int)).f0)) ∧ w'.cell? ⟨(ad365.add (l0_1.length * 8)).block, (ad365.add (l0_1.length * 8)).off + 1, none⟩ = some (.int .i64 ((rd_T36 t340 (l0_1.length : Int)).f1.f0)) ∧ w'.cell? ⟨(ad365.add (l0_1.length * 8)).block, (ad365.add (l0_1.length * 8)).off + 2, none⟩ = some (.int .i64 ((rd_T36 t340 (l0_1.length : Int)).f1.f1)) ∧ w'.cell? ⟨(ad365.add (l0_1.length * 8)).block, (ad365.add (l0_1.length * 8)).off + 3, none⟩ = some (.int .i64 ((rd_T36 t340 (l0_1.length : Int)).f1.f2)) ∧ w'.cell? ⟨(ad365.add (l0_1.length * 8)).block, (ad365.add (l0_1.length * 8)).off + 4, none⟩ = some (.int .i64 ((rd_T36 t340 (l0_1.length : Int)).f1.f3)) ∧ w'.cell? ⟨(ad365.add (l0_1.length * 8)).block, (ad365.add (l0_1.length * 8)).off + 5, none⟩ = some (.int .i64 ((rd_T36 t340 (l0_1.length : Int)).f1.f4)) ∧ w'.cell? ⟨(ad365.add (l0_1.length * 8)).block, (ad365.add (l0_1.length * 8)).off + 6, none⟩ = some (.string ((rd_T36 t340 (l0_1.length : Int)).f1.f5)) ∧ w'.cell? ⟨(ad365.add (l0_1.length * 8)).block, (ad365.add (l0_1.length * 8)).off + 7, none⟩ = some (.int .i64 ((rd_T36 t340 (l0_1.length : Int)).f2))) (ds := []) (tf 0 20) (by kernel_rfl) rfl rfl ⟨(blk_cell BK331.out 0).trans rfl, (blk_cell BK331.out 1).trans rfl, (blk_cell BK331.out 2).trans rfl, hx365_0, hx365_1, hx365_2, hx365_3, hx365_4, hx365_5, hx365_6, hx365_7⟩ (fun hHeld => ?_); refine with_tabW hopperlaw14_FeedReads.tab8 hopperlaw14_FeedReads.bits8 (fun HT_ HW_ => ?_)
                    generalize wc.drew = w72 at HO_6 HO_344001 HO_359001 BK331 BK343 BK358 BK359 HB hx365_0 hx365_1 hx365_2 hx365_3 hx365_4 hx365_5 hx365_6 hx365_7 hHeld ⊢
                    refine pure_ (i := 0) (N := some 73) (v := ?_) (a' := ?_) (tf 1 20) rfl rfl (any_of HT_.out (by kernel_rfl)) (fun _ _ _ h => h) (Or.inl ⟨by rfl, ?_⟩) ?_ ?_
                    rotate_left
                    · intro w'
                      go_simp
                      with_reducible rfl
                    rotate_left
                    · simp only [Act.put, PU, i64_w, i32_w]
                      rfl
                    refine pure_ (i := 1) (N := some 74) (v := ?_) (a' := ?_) (tf 2 20) rfl rfl (any_of HT_.out (by kernel_rfl)) (fun _ _ _ h => h) (Or.inl ⟨by rfl, ?_⟩) ?_ ?_
                    rotate_left
                    · intro w'
                      go_simp
                      with_reducible rfl
                    rotate_left
                    · simp only [Act.put, PU, i64_w, i32_w]
                      rfl
                    refine pure_ (i := 2) (N := some 75) (v := ?_) (a' := ?_) (tf 3 20) rfl rfl (any_of HT_.out (by kernel_rfl)) (fun _ _ _ h => h) (Or.inl ⟨by rfl, ?_⟩) ?_ ?_
                    rotate_left
                    · intro w'
                      go_simp
                      with_reducible rfl
                    rotate_left
                    · simp only [Act.put, PU, i64_w, i32_w]
                      rfl
                    refine pure_ (i := 3) (N := some 76) (v := ?_) (a' := ?_) (tf 4 20) rfl rfl (any_of HT_.out (by kernel_rfl)) (fun _ _ _ h => h) (Or.inl ⟨by rfl, ?_⟩) ?_ ?_
                    rotate_left
                    · intro w'
                      go_simp
                      with_reducible rfl
                    rotate_left
                    · simp only [Act.put, PU, i64_w, i32_w]
                      rfl
                    refine pure_ (i := 4) (N := some 77) (v := ?_) (a' := ?_) (tf 5 20) rfl rfl (any_of HT_.out (by kernel_rfl)) (fun _ _ _ h => h) (Or.inl ⟨by rfl, ?_⟩) ?_ ?_
                    rotate_left
                    · intro w'
                      go_simp
                      with_reducible rfl
                    rotate_left
                    · simp only [Act.put, PU, i64_w, i32_w]
                      rfl
                    refine pure_ (i := 5) (N := some 78) (v := ?_) (a' := ?_) (tf 6 20) rfl rfl (any_of HT_.out (by kernel_rfl)) (fun _ _ _ h => h) (Or.inl ⟨by rfl, ?_⟩) ?_ ?_
                    rotate_left
                    · intro w'
                      go_simp
                      with_reducible rfl
                    rotate_left
                    · simp only [Act.put, PU, i64_w, i32_w]
                      rfl
                    refine pure_ (i := 6) (N := some 79) (v := ?_) (a' := ?_) (tf 7 20) rfl rfl (any_of HT_.out (by kernel_rfl)) (fun _ _ _ h => h) (Or.inl ⟨by rfl, ?_⟩) ?_ ?_
                    rotate_left
                    · intro w'
                      go_simp
                      with_reducible rfl
                    rotate_left
                    · simp only [Act.put, PU, i64_w, i32_w]
                      rfl
                    refine pure_ (i := 7) (N := some 80) (v := ?_) (a' := ?_) (tf 8 20) rfl rfl (any_of HT_.out (by kernel_rfl)) (fun _ _ _ h => h) (Or.inl ⟨by rfl, ?_⟩) ?_ ?_
                    rotate_left
                    · intro w'
                      go_simp
                      with_reducible rfl
                    rotate_left
                    · simp only [Act.put, PU, i64_w, i32_w]
                      rfl
                    refine pure_ (i := 8) (N := some 81) (v := ?_) (a' := ?_) (tf 9 20) rfl rfl (any_of HT_.out (by kernel_rfl)) (fun _ _ _ h => h) (Or.inl ⟨by rfl, ?_⟩) ?_ ?_
                    rotate_left
                    · intro w'
                      go_simp
                      with_reducible rfl
                    rotate_left
                    · simp only [Act.put, PU, i64_w, i32_w]
                      rfl
                    refine pure_ (i := 10) (N := some 83) (v := ?_) (a' := ?_) #[true, true, true, true, true, true, true, true, true, false, true, false, false, false, false, false, false, false, false, false] rfl rfl (any_of HT_.out (by kernel_rfl)) (fun _ _ _ h => h) (Or.inl ⟨by rfl, ?_⟩) ?_ ?_
                    rotate_left
                    · intro w'
                      go_simp
                      with_reducible rfl
                    rotate_left
                    · simp only [Act.put, PU, i64_w, i32_w]
                      rfl
                    refine take_ (i := 9) (N := some 82) (v := ?_) (a' := ?_) (tf 11 20) rfl rfl (take_ofW HT_.out HW_.out (by kernel_rfl)) (fun _ _ _ h => h) (Or.inl ⟨by rfl, ?_⟩) hHeld ?_ ?_
                    rotate_left
                    · rintro w' ⟨s0, s1, s2, s3, s4, s5, s6, s7, s8, s9, s10⟩
                      go_simp
                      with_reducible rfl
                    rotate_left
                    · simp only [Act.put, PU, i64_w, i32_w]
                      rfl
                    refine take_ (i := 11) (N := some 84) (v := ?_) (a' := ?_) (tf 12 20) rfl rfl (take_ofW HT_.out HW_.out (by kernel_rfl)) (fun _ _ _ h => h) (Or.inl ⟨by rfl, ?_⟩) hHeld ?_ ?_
                    rotate_left
                    · rintro w' ⟨s0, s1, s2, s3, s4, s5, s6, s7, s8, s9, s10⟩
                      go_simp
                      with_reducible rfl
                    rotate_left
                    · simp only [Act.put, PU, i64_w, i32_w]
                      rfl
                    refine pure_ (i := 12) (N := some 85) (v := ?_) (a' := ?_) (tf 13 20) rfl rfl (any_of HT_.out (by kernel_rfl)) (fun _ _ _ h => h) (Or.inl ⟨by rfl, ?_⟩) ?_ ?_
                    rotate_left
                    · intro w'
                      go_simp
                      with_reducible rfl
                    rotate_left
                    · simp only [Act.put, PU, i64_w, i32_w]
                      rfl
                    refine pure_ (i := 13) (N := some 86) (v := ?_) (a' := ?_) (tf 14 20) rfl rfl (any_of HT_.out (by kernel_rfl)) (fun _ _ _ h => h) (Or.inl ⟨by rfl, ?_⟩) ?_ ?_
                    rotate_left
                    · intro w'
                      go_simp
                      with_reducible rfl
                    rotate_left
                    · simp only [Act.put, PU, i64_w, i32_w]
                      rfl
                    refine pure_ (i := 14) (N := some 87) (v := ?_) (a' := ?_) (tf 15 20) rfl rfl (any_of HT_.out (by kernel_rfl)) (fun _ _ _ h => h) (Or.inl ⟨by rfl, ?_⟩) ?_ ?_
                    rotate_left
                    · intro w'
                      go_simp
                      with_reducible rfl
                    rotate_left
                    · simp only [Act.put, PU, i64_w, i32_w]
                      rfl
                    refine pure_ (i := 15) (N := some 88) (v := undef) (a' := ?_) (tf 16 20) rfl rfl (any_of HT_.out (by kernel_rfl)) (fun _ _ _ h => h) (Or.inr ⟨by rfl, rfl⟩) ?_ ?_
                    rotate_left
                    · simp only [Act.put, PU, i64_w, i32_w]
                      rfl
                    refine pure_ (i := 16) (N := some 89) (v := undef) (a' := ?_) (tf 17 20) rfl rfl (any_of HT_.out (by kernel_rfl)) (fun _ _ _ h => h) (Or.inr ⟨by rfl, rfl⟩) ?_ ?_
                    rotate_left
                    · simp only [Act.put, PU, i64_w, i32_w]
                      rfl
                    refine pure_ (i := 17) (N := some 90) (v := undef) (a' := ?_) (tf 18 20) rfl rfl (any_of HT_.out (by kernel_rfl)) (fun _ _ _ h => h) (Or.inr ⟨by rfl, rfl⟩) ?_ ?_
                    rotate_left
                    · simp only [Act.put, PU, i64_w, i32_w]
                      rfl
                    refine pure_ (i := 18) (N := some 91) (v := ?_) (a' := ?_) (tf 19 20) rfl rfl (any_of HT_.out (by kernel_rfl)) (fun _ _ _ h => h) (Or.inl ⟨by rfl, ?_⟩) ?_ ?_
                    rotate_left
                    · intro w'
                      go_simp
                      with_reducible rfl
                    rotate_left
                    · simp only [Act.put, PU, i64_w, i32_w]
                      rfl
                    refine pure_ (i := 19) (N := some 92) (v := ?_) (a' := ?_) (tf 20 20) rfl rfl (any_of HT_.out (by kernel_rfl)) (fun _ _ _ h => h) (Or.inl ⟨by rfl, ?_⟩) ?_ ?_
                    rotate_left
                    · intro w'
                      go_simp
                      with_reducible rfl
                    rotate_left
                    · simp only [Act.put, PU, i64_w, i32_w]
                      rfl
                    refine done_ (done_of HT_.out (by kernel_rfl)) ?_
                    try go_wp2
                    go_meet
                    case rel => exact ⟨_, (true), (by first | (rw [HR_.out]; done) | rfl | (rw [HR_.out]; rfl) | (simp [HR_.out]; done) | (simp; done) | (simp [*]; done)), H', ⟨by have := HJ2.out; have := HJ14.out; first | omega | exact Nat.le_refl _⟩, ⟨by (with_reducible repeat (first | apply Kd.V_alloc | apply Kd.V_drewN | apply Kd.V_drew)); exact Kd.V_mono HO_344001.out (fun _ hk => ⟨hk.2.1, ⟨hk.2.2.1, ⟨hk.2.2.2.1, hk.2.2.2.2⟩⟩⟩)⟩, ⟨by (with_reducible repeat (first | apply Kd.V_alloc | apply Kd.V_drewN | apply Kd.V_drew)); exact Kd.V_mono HO_359001.out (fun _ hk => ⟨hk.2.1, ⟨hk.2.2.1, ⟨hk.2.2.2.1, hk.2.2.2.2⟩⟩⟩)⟩, ⟨by (with_reducible repeat (first | refine blk_drewN ?_ _ | refine blk_drew ?_ | refine blk_alloc ?_ _)); exact BK331.out⟩, ⟨by (with_reducible repeat (first | refine blk_drewN ?_ _ | refine blk_drew ?_ | refine blk_alloc ?_ _)); exact BK343.out⟩, ⟨by (with_reducible repeat (first | refine blk_drewN ?_ _ | refine blk_drew ?_ | refine blk_alloc ?_ _)); exact BK358.out⟩, ⟨by (with_reducible repeat (first | refine blk_drewN ?_ _ | refine blk_drew ?_ | refine blk_alloc ?_ _)); exact BK359.out⟩, ⟨LG HB.out (G1 GE331.out (G1 GE343.out (G1 GE358.out (G1 GE359.out G0))))⟩⟩
                  · rw [if_neg c71] at H
                    have c71b0 : (!(((rd_T36 t340 (l0_1.length : Int)).f0) == 4) || ((!(((rd_T36 t340 (l0_1.length : Int)).f1.f0) == 0) || (!(((rd_T36 t340 (l0_1.length : Int)).f1.f1) == 0) || (!(((rd_T36 t340 (l0_1.length : Int)).f1.f2) == 0) || (!(((rd_T36 t340 (l0_1.length : Int)).f1.f3) == 0) || (!(((rd_T36 t340 (l0_1.length : Int)).f1.f4) == 0) || (!((((rd_T36 t340 (l0_1.length : Int)).f1.f5).toList) == ([] : List UInt8)))))))) || (!(((rd_T36 t340 (l0_1.length : Int)).f2) == a0_2)))) = false := by simpa using c71
                    (try (have c71e : (!(((rd_T36 t340 (l0_1.length : Int)).f0) == 4) || ((!(((rd_T36 t340 (l0_1.length : Int)).f1.f0) == 0) || (!(((rd_T36 t340 (l0_1.length : Int)).f1.f1) == 0) || (!(((rd_T36 t340 (l0_1.length : Int)).f1.f2) == 0) || (!(((rd_T36 t340 (l0_1.length : Int)).f1.f3) == 0) || (!(((rd_T36 t340 (l0_1.length : Int)).f1.f4) == 0) || (!((((rd_T36 t340 (l0_1.length : Int)).f1.f5).toList).isEmpty))))))) || (!(((rd_T36 t340 (l0_1.length : Int)).f2) == a0_2)))) = false := by simpa using c71b0))
                    (try (have c71q : (((rd_T36 t340 (l0_1.length : Int)).f0) = 4 ∧ ((rd_T36 t340 (l0_1.length : Int)).f1.f0) = 0 ∧ ((rd_T36 t340 (l0_1.length : Int)).f1.f1) = 0 ∧ ((rd_T36 t340 (l0_1.length : Int)).f1.f2) = 0 ∧ ((rd_T36 t340 (l0_1.length : Int)).f1.f3) = 0 ∧ ((rd_T36 t340 (l0_1.length : Int)).f1.f4) = 0 ∧ (((rd_T36 t340 (l0_1.length : Int)).f1.f5).toList) = ([] : List UInt8) ∧ ((rd_T36 t340 (l0_1.length : Int)).f2) = a0_2) = True := eq_true (by simpa using c71b0)))
                    clear c71
                    have H' := Aside0.mk H
                    clear H
                    try go_wp2
                    have n0_ := Aside0.mk (Kd.R_drew HO_6.out)
                    have n1_ := Aside0.mk (Kd.V_drew HO_344001.out)
                    have n2_ := Aside0.mk (Kd.V_drew HO_359001.out)
                    have n3_ := Aside0.mk (blk_drew BK331.out)
                    have n4_ := Aside0.mk (blk_drew BK343.out)
                    have n5_ := Aside0.mk (blk_drew BK358.out)
                    have n6_ := Aside0.mk (blk_drew BK359.out)
                    have n7_ := Aside0.mk (below_drew1 HB.out)
                    clear HO_6
                    clear HO_344001
                    clear HO_359001
                    clear BK331
                    clear BK343
                    clear BK358
                    clear BK359
                    clear HB
                    have HO_6 := n0_
                    have HO_344001 := n1_
                    have HO_359001 := n2_
                    have BK331 := n3_
                    have BK343 := n4_
                    have BK358 := n5_
                    have BK359 := n6_
                    have HB := n7_
                    clear n0_ n1_ n2_ n3_ n4_ n5_ n6_ n7_
                    obtain ⟨Ao75, co75, eo75⟩ := Kd.R_slice HO_6.out
                    (first | subst eo75 | (injection eo75 with f1_ f2_ f3_; have f4_ := f1_.symm; have f5_ := f3_.symm; clear f1_ f2_ f3_; subst f4_; subst f5_))
                    have p365 : 0 ≤ ((l0_1.length : Int) : Int) := of_decide_eq_true (by first | (with_reducible assumption) | assumption)
                    have q365 : (l0_1.length : Int) < (t340.length : Int) := of_decide_eq_true (by first | (with_reducible assumption) | assumption)
                    obtain ⟨ad365, e365, hx365_0, hx365_1, hx365_2, hx365_3, hx365_4, hx365_5, hx365_6, hx365_7⟩ := at_T36 (Kd.R_reads' HO_6.out).2.2 (l0_1.length : Int) p365 q365
                    cases e365
                    (try simp only [Go.IntWalk.toNatUp] at hx365_0)
                    (try simp only [Go.IntWalk.toNatUp] at hx365_1)
                    (try simp only [Go.IntWalk.toNatUp] at hx365_2)
                    (try simp only [Go.IntWalk.toNatUp] at hx365_3)
                    (try simp only [Go.IntWalk.toNatUp] at hx365_4)
                    (try simp only [Go.IntWalk.toNatUp] at hx365_5)
                    (try simp only [Go.IntWalk.toNatUp] at hx365_6)
                    (try simp only [Go.IntWalk.toNatUp] at hx365_7)
                    replace p365 := eq_true p365
                    replace q365 := eq_true q365
                    refine start_ (n := 20) (S := fun w' => w'.cell? ⟨gb331, 0, none⟩ = some (.int .i64 a0_0) ∧ w'.cell? ⟨gb331, 1, none⟩ = some (.slice A0_1 l0_1.length c0_1) ∧ w'.cell? ⟨gb331, 2, none⟩ = some (.int .i64 a0_2) ∧ w'.cell? (ad365.add (l0_1.length * 8)) = some (.int .i64 ((rd_T36 t340 (l0_1.length : Int)).f0)) ∧ w'.cell? ⟨(ad365.add (l0_1.length * 8)).block, (ad365.add (l0_1.length * 8)).off + 1, none⟩ = some (.int .i64 ((rd_T36 t340 (l0_1.length : Int)).f1.f0)) ∧ w'.cell? ⟨(ad365.add (l0_1.length * 8)).block, (ad365.add (l0_1.length * 8)).off + 2, none⟩ = some (.int .i64 ((rd_T36 t340 (l0_1.length : Int)).f1.f1)) ∧ w'.cell? ⟨(ad365.add (l0_1.length * 8)).block, (ad365.add (l0_1.length * 8)).off + 3, none⟩ = some (.int .i64 ((rd_T36 t340 (l0_1.length : Int)).f1.f2)) ∧ w'.cell? ⟨(ad365.add (l0_1.length * 8)).block, (ad365.add (l0_1.length * 8)).off + 4, none⟩ = some (.int .i64 ((rd_T36 t340 (l0_1.length : Int)).f1.f3)) ∧ w'.cell? ⟨(ad365.add (l0_1.length * 8)).block, (ad365.add (l0_1.length * 8)).off + 5, none⟩ = some (.int .i64 ((rd_T36 t340 (l0_1.length : Int)).f1.f4)) ∧ w'.cell? ⟨(ad365.add (l0_1.length * 8)).block, (ad365.add (l0_1.length * 8)).off + 6, none⟩ = some (.string ((rd_T36 t340 (l0_1.length : Int)).f1.f5)) ∧ w'.cell? ⟨(ad365.add (l0_1.length * 8)).block, (ad365.add (l0_1.length * 8)).off + 7, none⟩ = some (.int .i64 ((rd_T36 t340 (l0_1.length : Int)).f2))) (ds := []) (tf 0 20) (by kernel_rfl) rfl rfl ⟨(blk_cell BK331.out 0).trans rfl, (blk_cell BK331.out 1).trans rfl, (blk_cell BK331.out 2).trans rfl, hx365_0, hx365_1, hx365_2, hx365_3, hx365_4, hx365_5, hx365_6, hx365_7⟩ (fun hHeld => ?_); refine with_tabW hopperlaw14_FeedReads.tab8 hopperlaw14_FeedReads.bits8 (fun HT_ HW_ => ?_)
                    generalize wc.drew = w74 at HO_6 HO_344001 HO_359001 BK331 BK343 BK358 BK359 HB hx365_0 hx365_1 hx365_2 hx365_3 hx365_4 hx365_5 hx365_6 hx365_7 hHeld ⊢
                    refine pure_ (i := 0) (N := some 73) (v := ?_) (a' := ?_) (tf 1 20) rfl rfl (any_of HT_.out (by kernel_rfl)) (fun _ _ _ h => h) (Or.inl ⟨by rfl, ?_⟩) ?_ ?_
                    rotate_left
                    · intro w'
                      go_simp
                      with_reducible rfl
                    rotate_left
                    · simp only [Act.put, PU, i64_w, i32_w]
                      rfl
                    refine pure_ (i := 1) (N := some 74) (v := ?_) (a' := ?_) (tf 2 20) rfl rfl (any_of HT_.out (by kernel_rfl)) (fun _ _ _ h => h) (Or.inl ⟨by rfl, ?_⟩) ?_ ?_
                    rotate_left
                    · intro w'
                      go_simp
                      with_reducible rfl
                    rotate_left
                    · simp only [Act.put, PU, i64_w, i32_w]
                      rfl
                    refine pure_ (i := 2) (N := some 75) (v := ?_) (a' := ?_) (tf 3 20) rfl rfl (any_of HT_.out (by kernel_rfl)) (fun _ _ _ h => h) (Or.inl ⟨by rfl, ?_⟩) ?_ ?_
                    rotate_left
                    · intro w'
                      go_simp
                      with_reducible rfl
                    rotate_left
                    · simp only [Act.put, PU, i64_w, i32_w]
                      rfl
                    refine pure_ (i := 3) (N := some 76) (v := ?_) (a' := ?_) (tf 4 20) rfl rfl (any_of HT_.out (by kernel_rfl)) (fun _ _ _ h => h) (Or.inl ⟨by rfl, ?_⟩) ?_ ?_
                    rotate_left
                    · intro w'
                      go_simp
                      with_reducible rfl
                    rotate_left
                    · simp only [Act.put, PU, i64_w, i32_w]
                      rfl
                    refine pure_ (i := 4) (N := some 77) (v := ?_) (a' := ?_) (tf 5 20) rfl rfl (any_of HT_.out (by kernel_rfl)) (fun _ _ _ h => h) (Or.inl ⟨by rfl, ?_⟩) ?_ ?_
                    rotate_left
                    · intro w'
                      go_simp
                      with_reducible rfl
                    rotate_left
                    · simp only [Act.put, PU, i64_w, i32_w]
                      rfl
                    refine pure_ (i := 5) (N := some 78) (v := ?_) (a' := ?_) (tf 6 20) rfl rfl (any_of HT_.out (by kernel_rfl)) (fun _ _ _ h => h) (Or.inl ⟨by rfl, ?_⟩) ?_ ?_
                    rotate_left
                    · intro w'
                      go_simp
                      with_reducible rfl
                    rotate_left
                    · simp only [Act.put, PU, i64_w, i32_w]
                      rfl
                    refine pure_ (i := 6) (N := some 79) (v := ?_) (a' := ?_) (tf 7 20) rfl rfl (any_of HT_.out (by kernel_rfl)) (fun _ _ _ h => h) (Or.inl ⟨by rfl, ?_⟩) ?_ ?_
                    rotate_left
                    · intro w'
                      go_simp
                      with_reducible rfl
                    rotate_left
                    · simp only [Act.put, PU, i64_w, i32_w]
                      rfl
                    refine pure_ (i := 7) (N := some 80) (v := ?_) (a' := ?_) (tf 8 20) rfl rfl (any_of HT_.out (by kernel_rfl)) (fun _ _ _ h => h) (Or.inl ⟨by rfl, ?_⟩) ?_ ?_
                    rotate_left
                    · intro w'
                      go_simp
                      with_reducible rfl
                    rotate_left
                    · simp only [Act.put, PU, i64_w, i32_w]
                      rfl
                    refine pure_ (i := 8) (N := some 81) (v := ?_) (a' := ?_) (tf 9 20) rfl rfl (any_of HT_.out (by kernel_rfl)) (fun _ _ _ h => h) (Or.inl ⟨by rfl, ?_⟩) ?_ ?_
                    rotate_left
                    · intro w'
                      go_simp
                      with_reducible rfl
                    rotate_left
                    · simp only [Act.put, PU, i64_w, i32_w]
                      rfl
                    refine pure_ (i := 10) (N := some 83) (v := ?_) (a' := ?_) #[true, true, true, true, true, true, true, true, true, false, true, false, false, false, false, false, false, false, false, false] rfl rfl (any_of HT_.out (by kernel_rfl)) (fun _ _ _ h => h) (Or.inl ⟨by rfl, ?_⟩) ?_ ?_
                    rotate_left
                    · intro w'
                      go_simp
                      with_reducible rfl
                    rotate_left
                    · simp only [Act.put, PU, i64_w, i32_w]
                      rfl
                    refine take_ (i := 9) (N := some 82) (v := ?_) (a' := ?_) (tf 11 20) rfl rfl (take_ofW HT_.out HW_.out (by kernel_rfl)) (fun _ _ _ h => h) (Or.inl ⟨by rfl, ?_⟩) hHeld ?_ ?_
                    rotate_left
                    · rintro w' ⟨s0, s1, s2, s3, s4, s5, s6, s7, s8, s9, s10⟩
                      go_simp
                      with_reducible rfl
                    rotate_left
                    · simp only [Act.put, PU, i64_w, i32_w]
                      rfl
                    refine take_ (i := 11) (N := some 84) (v := ?_) (a' := ?_) (tf 12 20) rfl rfl (take_ofW HT_.out HW_.out (by kernel_rfl)) (fun _ _ _ h => h) (Or.inl ⟨by rfl, ?_⟩) hHeld ?_ ?_
                    rotate_left
                    · rintro w' ⟨s0, s1, s2, s3, s4, s5, s6, s7, s8, s9, s10⟩
                      go_simp
                      with_reducible rfl
                    rotate_left
                    · simp only [Act.put, PU, i64_w, i32_w]
                      rfl
                    refine pure_ (i := 12) (N := some 85) (v := ?_) (a' := ?_) (tf 13 20) rfl rfl (any_of HT_.out (by kernel_rfl)) (fun _ _ _ h => h) (Or.inl ⟨by rfl, ?_⟩) ?_ ?_
                    rotate_left
                    · intro w'
                      go_simp
                      with_reducible rfl
                    rotate_left
                    · simp only [Act.put, PU, i64_w, i32_w]
                      rfl
                    refine pure_ (i := 13) (N := some 86) (v := ?_) (a' := ?_) (tf 14 20) rfl rfl (any_of HT_.out (by kernel_rfl)) (fun _ _ _ h => h) (Or.inl ⟨by rfl, ?_⟩) ?_ ?_
                    rotate_left
                    · intro w'
                      go_simp
                      with_reducible rfl
                    rotate_left
                    · simp only [Act.put, PU, i64_w, i32_w]
                      rfl
                    refine pure_ (i := 14) (N := some 87) (v := ?_) (a' := ?_) (tf 15 20) rfl rfl (any_of HT_.out (by kernel_rfl)) (fun _ _ _ h => h) (Or.inl ⟨by rfl, ?_⟩) ?_ ?_
                    rotate_left
                    · intro w'
                      go_simp
                      with_reducible rfl
                    rotate_left
                    · simp only [Act.put, PU, i64_w, i32_w]
                      rfl
                    refine pure_ (i := 15) (N := some 88) (v := ?_) (a' := ?_) (tf 16 20) rfl rfl (any_of HT_.out (by kernel_rfl)) (fun _ _ _ h => h) (Or.inl ⟨by rfl, ?_⟩) ?_ ?_
                    rotate_left
                    · intro w'
                      go_simp
                      with_reducible rfl
                    rotate_left
                    · simp only [Act.put, PU, i64_w, i32_w]
                      rfl
                    refine take_ (i := 16) (N := some 89) (v := ?_) (a' := ?_) (tf 17 20) rfl rfl (take_ofW HT_.out HW_.out (by kernel_rfl)) (fun _ _ _ h => h) (Or.inl ⟨by rfl, ?_⟩) hHeld ?_ ?_
                    rotate_left
                    · rintro w' ⟨s0, s1, s2, s3, s4, s5, s6, s7, s8, s9, s10⟩
                      go_simp
                      with_reducible rfl
                    rotate_left
                    · simp only [Act.put, PU, i64_w, i32_w]
                      rfl
                    refine pure_ (i := 17) (N := some 90) (v := ?_) (a' := ?_) (tf 18 20) rfl rfl (any_of HT_.out (by kernel_rfl)) (fun _ _ _ h => h) (Or.inl ⟨by rfl, ?_⟩) ?_ ?_
                    rotate_left
                    · intro w'
                      go_simp
                      with_reducible rfl
                    rotate_left
                    · simp only [Act.put, PU, i64_w, i32_w]
                      rfl
                    refine pure_ (i := 18) (N := some 91) (v := ?_) (a' := ?_) (tf 19 20) rfl rfl (any_of HT_.out (by kernel_rfl)) (fun _ _ _ h => h) (Or.inl ⟨by rfl, ?_⟩) ?_ ?_
                    rotate_left
                    · intro w'
                      go_simp
                      with_reducible rfl
                    rotate_left
                    · simp only [Act.put, PU, i64_w, i32_w]
                      rfl
                    refine pure_ (i := 19) (N := some 92) (v := ?_) (a' := ?_) (tf 20 20) rfl rfl (any_of HT_.out (by kernel_rfl)) (fun _ _ _ h => h) (Or.inl ⟨by rfl, ?_⟩) ?_ ?_
                    rotate_left
                    · intro w'
                      go_simp
                      with_reducible rfl
                    rotate_left
                    · simp only [Act.put, PU, i64_w, i32_w]
                      rfl
                    refine done_ (done_of HT_.out (by kernel_rfl)) ?_
                    try go_wp2
                    go_meet
                    case rel => exact ⟨_, (decide (a0_2 < 1)), (by first | (rw [HR_.out]; done) | rfl | (rw [HR_.out]; rfl) | (simp [HR_.out]; done) | (simp; done) | (simp [*]; done)), H', ⟨by have := HJ2.out; have := HJ14.out; first | omega | exact Nat.le_refl _⟩, ⟨by (with_reducible repeat (first | apply Kd.V_alloc | apply Kd.V_drewN | apply Kd.V_drew)); exact Kd.V_mono HO_344001.out (fun _ hk => ⟨hk.2.1, ⟨hk.2.2.1, ⟨hk.2.2.2.1, hk.2.2.2.2⟩⟩⟩)⟩, ⟨by (with_reducible repeat (first | apply Kd.V_alloc | apply Kd.V_drewN | apply Kd.V_drew)); exact Kd.V_mono HO_359001.out (fun _ hk => ⟨hk.2.1, ⟨hk.2.2.1, ⟨hk.2.2.2.1, hk.2.2.2.2⟩⟩⟩)⟩, ⟨by (with_reducible repeat (first | refine blk_drewN ?_ _ | refine blk_drew ?_ | refine blk_alloc ?_ _)); exact BK331.out⟩, ⟨by (with_reducible repeat (first | refine blk_drewN ?_ _ | refine blk_drew ?_ | refine blk_alloc ?_ _)); exact BK343.out⟩, ⟨by (with_reducible repeat (first | refine blk_drewN ?_ _ | refine blk_drew ?_ | refine blk_alloc ?_ _)); exact BK358.out⟩, ⟨by (with_reducible repeat (first | refine blk_drewN ?_ _ | refine blk_drew ?_ | refine blk_alloc ?_ _)); exact BK359.out⟩, ⟨LG HB.out (G1 GE331.out (G1 GE343.out (G1 GE358.out (G1 GE359.out G0))))⟩⟩
                · rw [if_neg c68] at H
                  have c68b0 : ((t340.length : Int) == (wrap64 ((l0_1.length : Int) + 1))) = false := beq_eq_false_iff_ne.mpr c68
                  have c68b1 : ((t340.length : Int) != (wrap64 ((l0_1.length : Int) + 1))) = true := bne_iff_ne.mpr c68
                  (first | rw [c68b0] | (simp only [i64_w, i32_w]; rw [c68b0]) | skip)
                  have H' := Aside0.mk H
                  clear H
                  try go_wp2
                  have n0_ := Aside0.mk (Kd.R_drew HO_6.out)
                  have n1_ := Aside0.mk (Kd.V_drew HO_344001.out)
                  have n2_ := Aside0.mk (Kd.V_drew HO_359001.out)
                  have n3_ := Aside0.mk (blk_drew BK331.out)
                  have n4_ := Aside0.mk (blk_drew BK343.out)
                  have n5_ := Aside0.mk (blk_drew BK358.out)
                  have n6_ := Aside0.mk (blk_drew BK359.out)
                  have n7_ := Aside0.mk (below_drew1 HB.out)
                  clear HO_6
                  clear HO_344001
                  clear HO_359001
                  clear BK331
                  clear BK343
                  clear BK358
                  clear BK359
                  clear HB
                  have HO_6 := n0_
                  have HO_344001 := n1_
                  have HO_359001 := n2_
                  have BK331 := n3_
                  have BK343 := n4_
                  have BK358 := n5_
                  have BK359 := n6_
                  have HB := n7_
                  clear n0_ n1_ n2_ n3_ n4_ n5_ n6_ n7_
                  obtain ⟨Ao77, co77, eo77⟩ := Kd.R_slice HO_6.out
                  (first | subst eo77 | (injection eo77 with f1_ f2_ f3_; have f4_ := f1_.symm; have f5_ := f3_.symm; clear f1_ f2_ f3_; subst f4_; subst f5_))
                  refine start_ (n := 20) (S := fun w' => True) (ds := []) (tf 0 20) (by kernel_rfl) rfl rfl trivial (fun hHeld => ?_); refine with_tabW hopperlaw14_FeedReads.tab8 hopperlaw14_FeedReads.bits8 (fun HT_ HW_ => ?_)
                  generalize wc.drew = w76 at HO_6 HO_344001 HO_359001 BK331 BK343 BK358 BK359 HB hHeld ⊢
                  refine pure_ (i := 0) (N := some 73) (v := ?_) (a' := ?_) (tf 1 20) rfl rfl (any_of HT_.out (by kernel_rfl)) (fun _ _ _ h => h) (Or.inl ⟨by rfl, ?_⟩) ?_ ?_
                  rotate_left
                  · intro w'
                    go_simp
                    with_reducible rfl
                  rotate_left
                  · simp only [Act.put, PU, i64_w, i32_w]
                    rfl
                  refine pure_ (i := 1) (N := some 74) (v := ?_) (a' := ?_) (tf 2 20) rfl rfl (any_of HT_.out (by kernel_rfl)) (fun _ _ _ h => h) (Or.inl ⟨by rfl, ?_⟩) ?_ ?_
                  rotate_left
                  · intro w'
                    go_simp
                    with_reducible rfl
                  rotate_left
                  · simp only [Act.put, PU, i64_w, i32_w]
                    rfl
                  refine pure_ (i := 2) (N := some 75) (v := ?_) (a' := ?_) (tf 3 20) rfl rfl (any_of HT_.out (by kernel_rfl)) (fun _ _ _ h => h) (Or.inl ⟨by rfl, ?_⟩) ?_ ?_
                  rotate_left
                  · intro w'
                    go_simp
                    with_reducible rfl
                  rotate_left
                  · simp only [Act.put, PU, i64_w, i32_w]
                    rfl
                  refine pure_ (i := 3) (N := some 76) (v := ?_) (a' := ?_) (tf 4 20) rfl rfl (any_of HT_.out (by kernel_rfl)) (fun _ _ _ h => h) (Or.inl ⟨by rfl, ?_⟩) ?_ ?_
                  rotate_left
                  · intro w'
                    go_simp
                    with_reducible rfl
                  rotate_left
                  · simp only [Act.put, PU, i64_w, i32_w]
                    rfl
                  refine pure_ (i := 4) (N := some 77) (v := ?_) (a' := ?_) (tf 5 20) rfl rfl (any_of HT_.out (by kernel_rfl)) (fun _ _ _ h => h) (Or.inl ⟨by rfl, ?_⟩) ?_ ?_
                  rotate_left
                  · intro w'
                    go_simp
                    with_reducible rfl
                  rotate_left
                  · simp only [Act.put, PU, i64_w, i32_w]
                    rfl
                  refine pure_ (i := 5) (N := some 78) (v := ?_) (a' := ?_) (tf 6 20) rfl rfl (any_of HT_.out (by kernel_rfl)) (fun _ _ _ h => h) (Or.inl ⟨by rfl, ?_⟩) ?_ ?_
                  rotate_left
                  · intro w'
                    go_simp
                    with_reducible rfl
                  rotate_left
                  · simp only [Act.put, PU, i64_w, i32_w]
                    rfl
                  refine pure_ (i := 6) (N := some 79) (v := undef) (a' := ?_) (tf 7 20) rfl rfl (any_of HT_.out (by kernel_rfl)) (fun _ _ _ h => h) (Or.inr ⟨by rfl, rfl⟩) ?_ ?_
                  rotate_left
                  · simp only [Act.put, PU, i64_w, i32_w]
                    rfl
                  refine pure_ (i := 7) (N := some 80) (v := undef) (a' := ?_) (tf 8 20) rfl rfl (any_of HT_.out (by kernel_rfl)) (fun _ _ _ h => h) (Or.inr ⟨by rfl, rfl⟩) ?_ ?_
                  rotate_left
                  · simp only [Act.put, PU, i64_w, i32_w]
                    rfl
                  refine pure_ (i := 8) (N := some 81) (v := undef) (a' := ?_) (tf 9 20) rfl rfl (any_of HT_.out (by kernel_rfl)) (fun _ _ _ h => h) (Or.inr ⟨by rfl, rfl⟩) ?_ ?_
                  rotate_left
                  · simp only [Act.put, PU, i64_w, i32_w]
                    rfl
                  refine pure_ (i := 9) (N := some 82) (v := undef) (a' := ?_) (tf 10 20) rfl rfl (any_of HT_.out (by kernel_rfl)) (fun _ _ _ h => h) (Or.inr ⟨by rfl, rfl⟩) ?_ ?_
                  rotate_left
                  · simp only [Act.put, PU, i64_w, i32_w]
                    rfl
                  refine pure_ (i := 10) (N := some 83) (v := undef) (a' := ?_) (tf 11 20) rfl rfl (any_of HT_.out (by kernel_rfl)) (fun _ _ _ h => h) (Or.inr ⟨by rfl, rfl⟩) ?_ ?_
                  rotate_left
                  · simp only [Act.put, PU, i64_w, i32_w]
                    rfl
                  refine pure_ (i := 11) (N := some 84) (v := undef) (a' := ?_) (tf 12 20) rfl rfl (any_of HT_.out (by kernel_rfl)) (fun _ _ _ h => h) (Or.inr ⟨by rfl, rfl⟩) ?_ ?_
                  rotate_left
                  · simp only [Act.put, PU, i64_w, i32_w]
                    rfl
                  refine pure_ (i := 12) (N := some 85) (v := undef) (a' := ?_) (tf 13 20) rfl rfl (any_of HT_.out (by kernel_rfl)) (fun _ _ _ h => h) (Or.inr ⟨by rfl, rfl⟩) ?_ ?_
                  rotate_left
                  · simp only [Act.put, PU, i64_w, i32_w]
                    rfl
                  refine pure_ (i := 13) (N := some 86) (v := undef) (a' := ?_) (tf 14 20) rfl rfl (any_of HT_.out (by kernel_rfl)) (fun _ _ _ h => h) (Or.inr ⟨by rfl, rfl⟩) ?_ ?_
                  rotate_left
                  · simp only [Act.put, PU, i64_w, i32_w]
                    rfl
                  refine pure_ (i := 14) (N := some 87) (v := undef) (a' := ?_) (tf 15 20) rfl rfl (any_of HT_.out (by kernel_rfl)) (fun _ _ _ h => h) (Or.inr ⟨by rfl, rfl⟩) ?_ ?_
                  rotate_left
                  · simp only [Act.put, PU, i64_w, i32_w]
                    rfl
                  refine pure_ (i := 15) (N := some 88) (v := undef) (a' := ?_) (tf 16 20) rfl rfl (any_of HT_.out (by kernel_rfl)) (fun _ _ _ h => h) (Or.inr ⟨by rfl, rfl⟩) ?_ ?_
                  rotate_left
                  · simp only [Act.put, PU, i64_w, i32_w]
                    rfl
                  refine pure_ (i := 16) (N := some 89) (v := undef) (a' := ?_) (tf 17 20) rfl rfl (any_of HT_.out (by kernel_rfl)) (fun _ _ _ h => h) (Or.inr ⟨by rfl, rfl⟩) ?_ ?_
                  rotate_left
                  · simp only [Act.put, PU, i64_w, i32_w]
                    rfl
                  refine pure_ (i := 17) (N := some 90) (v := undef) (a' := ?_) (tf 18 20) rfl rfl (any_of HT_.out (by kernel_rfl)) (fun _ _ _ h => h) (Or.inr ⟨by rfl, rfl⟩) ?_ ?_
                  rotate_left
                  · simp only [Act.put, PU, i64_w, i32_w]
                    rfl
                  refine pure_ (i := 18) (N := some 91) (v := undef) (a' := ?_) (tf 19 20) rfl rfl (any_of HT_.out (by kernel_rfl)) (fun _ _ _ h => h) (Or.inr ⟨by rfl, rfl⟩) ?_ ?_
                  rotate_left
                  · simp only [Act.put, PU, i64_w, i32_w]
                    rfl
                  refine pure_ (i := 19) (N := some 92) (v := ?_) (a' := ?_) (tf 20 20) rfl rfl (any_of HT_.out (by kernel_rfl)) (fun _ _ _ h => h) (Or.inl ⟨by rfl, ?_⟩) ?_ ?_
                  rotate_left
                  · intro w'
                    go_simp
                    with_reducible rfl
                  rotate_left
                  · simp only [Act.put, PU, i64_w, i32_w]
                    rfl
                  refine done_ (done_of HT_.out (by kernel_rfl)) ?_
                  try go_wp2
                  go_meet
                  case rel => exact ⟨_, (false), (by first | (rw [HR_.out]; done) | rfl | (rw [HR_.out]; rfl) | (simp [HR_.out]; done) | (simp; done) | (simp [*]; done)), H', ⟨by have := HJ2.out; have := HJ14.out; first | omega | exact Nat.le_refl _⟩, ⟨by (with_reducible repeat (first | apply Kd.V_alloc | apply Kd.V_drewN | apply Kd.V_drew)); exact Kd.V_mono HO_344001.out (fun _ hk => ⟨hk.2.1, ⟨hk.2.2.1, ⟨hk.2.2.2.1, hk.2.2.2.2⟩⟩⟩)⟩, ⟨by (with_reducible repeat (first | apply Kd.V_alloc | apply Kd.V_drewN | apply Kd.V_drew)); exact Kd.V_mono HO_359001.out (fun _ hk => ⟨hk.2.1, ⟨hk.2.2.1, ⟨hk.2.2.2.1, hk.2.2.2.2⟩⟩⟩)⟩, ⟨by (with_reducible repeat (first | refine blk_drewN ?_ _ | refine blk_drew ?_ | refine blk_alloc ?_ _)); exact BK331.out⟩, ⟨by (with_reducible repeat (first | refine blk_drewN ?_ _ | refine blk_drew ?_ | refine blk_alloc ?_ _)); exact BK343.out⟩, ⟨by (with_reducible repeat (first | refine blk_drewN ?_ _ | refine blk_drew ?_ | refine blk_alloc ?_ _)); exact BK358.out⟩, ⟨by (with_reducible repeat (first | refine blk_drewN ?_ _ | refine blk_drew ?_ | refine blk_alloc ?_ _)); exact BK359.out⟩, ⟨LG HB.out (G1 GE331.out (G1 GE343.out (G1 GE358.out (G1 GE359.out G0))))⟩⟩
              case rest =>
                clear HC67
                try clear p2
                try clear p3
                try clear q3
                try clear hx3
                try clear c6
                try clear p6
                try clear c7
                try clear p36
                try clear q36
                try clear hx36
                try clear p64
                try clear c66
                try clear c68
                try clear c68b0
                try clear c68b1
                try clear c69
                try clear c69b0
                try clear c69b1
                try clear c70
                try clear c70b0
                try clear c70b1
                try clear c71
                try clear c71b0
                try clear hx365_0
                try clear hx365_1
                try clear hx365_2
                try clear hx365_3
                try clear hx365_4
                try clear hx365_5
                try clear hx365_6
                try clear hx365_7
                try clear p365
                try clear q365
                obtain ⟨kq, x92_66, rfl, HA, HJ66, HO_344001, HO_359001, BK331, BK343, BK358, BK359, HB⟩ := hcut
                cases kq with
                | zero => exact absurd HA.out (by simp [hopperlaw14_FeedReads.j2])
                | succ kj66 =>
                  have H := HA.out
                  clear HA
                  simp only [hopperlaw14_FeedReads.j2] at H
                  by_cases c78 : x92_66 = true
                  · subst c78
                    have H1 : (some false) = some true := by rw [if_pos rfl] at H; exact H
                    clear H
                    have H := H1
                    clear H1
                    exact absurd H (by simp)
                  · replace c78 := Bool.eq_false_iff.mpr c78
                    subst c78
                    have H1 : ((feed_Tell.f kj66 t335 t336 t339 l1).bind fun bt366 => (if a0_2 < 0 then ((hopperlaw14_live.f kj66).bind fun t372 => (some t372)) else (if (bt366.2.1.length : Int) = (mx 0 (mn a0_0 (l1.length : Int))) then ((hopperlaw14_live.f kj66).bind fun t373 => (some t373)) else (some false)))) = some true := by rw [if_neg (show ¬ (false = true) by decide)] at H; exact H
                    clear H
                    have H := H1
                    clear H1
                    replace H := Option.bind_eq_some_iff.mp H
                    obtain ⟨⟨t366, t367, t370⟩, A790, H⟩ := H
                    try dsimp only at H
                    have A79 := Aside0.mk A790
                    clear A790
                    by_cases c80 : a0_2 < 0
                    · rw [if_pos c80] at H
                      have c80b0 : decide (a0_2 < 0) = true := decide_eq_true c80
                      clear c80
                      replace H := Option.bind_eq_some_iff.mp H
                      obtain ⟨t372, A810, H⟩ := H
                      try dsimp only at H
                      have A81 := Aside0.mk A810
                      clear A810
                      have HR_ := Aside0.mk (Option.some.inj H)
                      clear H
                      have hnb82 := NB343_331.out
                      have hnc82 := NB331_343.out
                      have hnb83 := NB343_358.out
                      have hnc83 := NB358_343.out
                      have hnb84 := NB343_359.out
                      have hnc84 := NB359_343.out
                      have hcz85_0 : wc.cell? ⟨gb343, 0, none⟩ = some (.int .i64 t335) := (blk_cell BK343.out 0).trans rfl
                      have hcz85_1 : wc.cell? ⟨gb343, 1, none⟩ = some (.slice Ao21 t336.length co21) := (blk_cell BK343.out 1).trans rfl
                      have hcz85_2 : wc.cell? ⟨gb343, 2, none⟩ = some (.int .i64 t339) := (blk_cell BK343.out 2).trans rfl
                      have hfz85_0 := blk_frozen BK343.out 0
                      have hfz85_1 := blk_frozen BK343.out 1
                      have hfz85_2 := blk_frozen BK343.out 2
                      go_wp2_with (first | ((with_reducible refine gate_callee (f := 19) rfl ?_); refine goesL_ (some 95) rfl rfl Try.func19 (by kernel_rfl) rfl #[.agg #[.int .i64 t335, .slice Ao21 t336.length co21, .int .i64 t339], .slice A1 l1.length c1] rfl (by (try simp only [List.map_toArray, List.map_cons, List.map_nil]); first | done | rfl | (simp only [List.length_drop, List.length_take]; rfl)) ?_; (with_reducible refine (feed_Tell.calls kj66 t335 _ _ t336 t339 _ _ l1 t366 t367 t370 _ ?side1 ?side2 ?side3 ?side4 A79.out).mono ?_); (case side1 => exact Kd.CA (Kd.V_reads' HO_344001.out).2.2); (case side2 => exact (Kd.V_reads' HO_344001.out).2.1); (case side3 => exact Kd.CA (Kd.C_below HR1.out HB.out)); (case side4 => exact HC1.out); rintro e w86 ⟨v368, rfl, ho0, hb⟩; refine ⟨_, rfl, ?_⟩; have HO369 := Aside0.mk (Kd.R_lower (Kd.R_newB ho0 (g := gb359) (o := .cells #[.int .i64 t349, .int .i64 t350, .int .i64 t351, .int .i64 t352, .int .i64 t353, .int .i64 t354, .string t355, .int .i64 t356] 36 (0, 0)) (BA BK359.out)) (below_size (LA HB.out))); replace BK331 := Aside0.mk (blk_below (BA BK331.out) hb); replace BK343 := Aside0.mk (blk_below (BA BK343.out) hb); replace BK358 := Aside0.mk (blk_below (BA BK358.out) hb); replace BK359 := Aside0.mk (blk_below (BA BK359.out) hb); replace HB := Aside0.mk (below_step (LA HB.out) hb); clear HO_344001; (try clear HO_359001); (try clear hb); (try clear hb2); (try clear hk); (try clear hi); (try clear ho0)) | ((with_reducible refine gate_dst (N := 11) rfl ?_); (try (refine gate_guard (by rfl) ?_; dsimp only)); refine box_event ?hg (N := 11) ?hd (cs := #[.int .i64 0, .slice none 0 0, .int .i64 0]) (t := 27) ?hr ?_; (case hd => rfl); (case hg => rfl); (case hr => first | (go_simp; done) | (go_simp; rfl)); intro gb371 hg w87 hbox hb; replace HO369 := Aside0.mk (Kd.R_below (Kd.RA HO369.out) hb); have BK371 := Aside0.mk (hbox); have GE371 := Aside0.mk (ge1 hg (LA HB.out)); replace HB := Aside0.mk (below_step (LA HB.out) hb); have NB331_371 := Aside0.mk ((by rw [hg]; exact Nat.ne_of_lt (blk_lt (g := gb331) (o := .cells #[.int .i64 a0_0, .slice A0_1 l0_1.length c0_1, .int .i64 a0_2] 24 (0, 0)) (BA BK331.out)) : gb331 ≠ gb371)); have NB371_331 := Aside0.mk ((by rw [hg]; exact Nat.ne_of_gt (blk_lt (g := gb331) (o := .cells #[.int .i64 a0_0, .slice A0_1 l0_1.length c0_1, .int .i64 a0_2] 24 (0, 0)) (BA BK331.out)) : gb371 ≠ gb331)); replace BK331 := Aside0.mk (blk_below (BA BK331.out) hb); have NB343_371 := Aside0.mk ((by rw [hg]; exact Nat.ne_of_lt (blk_lt (g := gb343) (o := .cells #[.int .i64 t335, .slice Ao21 t336.length co21, .int .i64 t339] 27 (0, 0)) (BA BK343.out)) : gb343 ≠ gb371)); have NB371_343 := Aside0.mk ((by rw [hg]; exact Nat.ne_of_gt (blk_lt (g := gb343) (o := .cells #[.int .i64 t335, .slice Ao21 t336.length co21, .int .i64 t339] 27 (0, 0)) (BA BK343.out)) : gb371 ≠ gb343)); have NB358_371 := Aside0.mk ((by rw [hg]; exact Nat.ne_of_lt (blk_lt (g := gb358) (o := .cells #[.int .i64 t344, .slice Ao31 t345.length co31, .int .i64 t348] 27 (0, 0)) (BA BK358.out)) : gb358 ≠ gb371)); have NB371_358 := Aside0.mk ((by rw [hg]; exact Nat.ne_of_gt (blk_lt (g := gb358) (o := .cells #[.int .i64 t344, .slice Ao31 t345.length co31, .int .i64 t348] 27 (0, 0)) (BA BK358.out)) : gb371 ≠ gb358)); have NB359_371 := Aside0.mk ((by rw [hg]; exact Nat.ne_of_lt (blk_lt (g := gb359) (o := .cells #[.int .i64 t349, .int .i64 t350, .int .i64 t351, .int .i64 t352, .int .i64 t353, .int .i64 t354, .string t355, .int .i64 t356] 36 (0, 0)) (BA BK359.out)) : gb359 ≠ gb371)); have NB371_359 := Aside0.mk ((by rw [hg]; exact Nat.ne_of_gt (blk_lt (g := gb359) (o := .cells #[.int .i64 t349, .int .i64 t350, .int .i64 t351, .int .i64 t352, .int .i64 t353, .int .i64 t354, .string t355, .int .i64 t356] 36 (0, 0)) (BA BK359.out)) : gb371 ≠ gb359)); clear BK343 BK358 BK359; (try clear HO_344001); (try clear HO_359001); clear hb hbox hg; have hnb88 := NB371_331.out; have hnc88 := NB331_371.out; have hnb89 := NB371_343.out; have hnc89 := NB343_371.out; have hnb90 := NB371_358.out; have hnc90 := NB358_371.out; have hnb91 := NB371_359.out; have hnc91 := NB359_371.out; obtain ⟨hcz92_0, hcz92_1, hcz92_2, hfz92_0, hfz92_1, hfz92_2⟩ := cz3 BK371.out; obtain ⟨Ao93, co93, eo93⟩ := Kd.R_slice HO369.out; subst eo93; have hnb94 := NB331_358.out; have hnc94 := NB358_331.out; have hnb95 := NB331_359.out; have hnc95 := NB359_331.out; obtain ⟨hcz96_0, hcz96_1, hcz96_2, hfz96_0, hfz96_1, hfz96_2⟩ := cz3 BK331.out) | (go_at_call 10; (with_reducible refine (hopperlaw14_live.calls kj66  t372 _ A81.out).mono ?_); rintro e w97 ⟨rfl, hb⟩; replace HB := Aside0.mk (below_step (LG HB.out (G1 GE371.out G0)) hb); (try clear HO_344001); (try clear HO_359001); (try clear HO369); (try clear BK331); (try clear BK343); (try clear BK358); (try clear BK359); (try clear BK371); (try clear hb); (try clear hb2); (try clear hk); (try clear hi)))
                      go_ret
                      exact ⟨by first | exact (congrArg (fun b => Ending.returned (.bool b)) HR_.out) | (rw [HR_.out]; done) | rfl | (rw [HR_.out]; rfl) | (simp [HR_.out]; done) | (simp [errW_none, errW_some] <;> rfl) | (simp [*, errW_none, errW_some] <;> rfl), LG HB.out (G1 GE331.out (G1 GE343.out (G1 GE358.out (G1 GE359.out (G1 GE371.out G0)))))⟩
                    · rw [if_neg c80] at H
                      have c80b0 : decide (a0_2 < 0) = false := decide_eq_false c80
                      clear c80
                      obtain ⟨ji98, hji98⟩ : ∃ j_ : Int, (mn a0_0 (l1.length : Int)) = j_ := ⟨_, rfl⟩
                      replace H : (if (t367.length : Int) = (mx 0 (ji98)) then ((hopperlaw14_live.f kj66).bind fun t373 => (some t373)) else (some false)) = some true := by first | (rw [hji98] at H; exact H) | (simp only [hji98] at H ⊢; exact H)
                      (try rw [hji98] at A79)
                      have hji98_ : (if (l1.length : Int) < a0_0 then (l1.length : Int) else a0_0) = ji98 := hji98
                      obtain ⟨ji99, hji99⟩ : ∃ j_ : Int, (mx 0 (ji98)) = j_ := ⟨_, rfl⟩
                      replace H : (if (t367.length : Int) = (ji99) then ((hopperlaw14_live.f kj66).bind fun t373 => (some t373)) else (some false)) = some true := by first | (rw [hji99] at H; exact H) | (simp only [hji99] at H ⊢; exact H)
                      (try rw [hji99] at A79)
                      have hji99_ : (if 0 < (ji98) then (ji98) else 0) = ji99 := hji99
                      by_cases c100 : (t367.length : Int) = (ji99)
                      rotate_left
                      · rw [if_neg c100] at H
                        have c100b0 : ((t367.length : Int) == (ji99)) = false := beq_eq_false_iff_ne.mpr c100
                        have c100b1 : ((t367.length : Int) != (ji99)) = true := bne_iff_ne.mpr c100
                        exact absurd H (by simp)
                      rw [if_pos c100] at H
                      have c100b0 : ((t367.length : Int) == (ji99)) = true := beq_iff_eq.mpr c100
                      have c100b1 : ((t367.length : Int) != (ji99)) = false := bne_eq_false_iff_eq.mpr c100
                      clear c100
                      replace H := Option.bind_eq_some_iff.mp H
                      obtain ⟨t373, A1010, H⟩ := H
                      try dsimp only at H
                      have A101 := Aside0.mk A1010
                      clear A1010
                      have HR_ := Aside0.mk (Option.some.inj H)
                      clear H
                      have hnb102 := NB343_331.out
                      have hnc102 := NB331_343.out
                      have hnb103 := NB343_358.out
                      have hnc103 := NB358_343.out
                      have hnb104 := NB343_359.out
                      have hnc104 := NB359_343.out
                      have hcz105_0 : wc.cell? ⟨gb343, 0, none⟩ = some (.int .i64 t335) := (blk_cell BK343.out 0).trans rfl
                      have hcz105_1 : wc.cell? ⟨gb343, 1, none⟩ = some (.slice Ao21 t336.length co21) := (blk_cell BK343.out 1).trans rfl
                      have hcz105_2 : wc.cell? ⟨gb343, 2, none⟩ = some (.int .i64 t339) := (blk_cell BK343.out 2).trans rfl
                      have hfz105_0 := blk_frozen BK343.out 0
                      have hfz105_1 := blk_frozen BK343.out 1
                      have hfz105_2 := blk_frozen BK343.out 2
                      go_wp2_with (first | ((with_reducible refine gate_callee (f := 19) rfl ?_); refine goesL_ (some 95) rfl rfl Try.func19 (by kernel_rfl) rfl #[.agg #[.int .i64 t335, .slice Ao21 t336.length co21, .int .i64 t339], .slice A1 l1.length c1] rfl (by (try simp only [List.map_toArray, List.map_cons, List.map_nil]); first | done | rfl | (simp only [List.length_drop, List.length_take]; rfl)) ?_; (with_reducible refine (feed_Tell.calls kj66 t335 _ _ t336 t339 _ _ l1 t366 t367 t370 _ ?side1 ?side2 ?side3 ?side4 A79.out).mono ?_); (case side1 => exact Kd.CA (Kd.V_reads' HO_344001.out).2.2); (case side2 => exact (Kd.V_reads' HO_344001.out).2.1); (case side3 => exact Kd.CA (Kd.C_below HR1.out HB.out)); (case side4 => exact HC1.out); rintro e w106 ⟨v368, rfl, ho0, hb⟩; refine ⟨_, rfl, ?_⟩; have HO369 := Aside0.mk (Kd.R_lower (Kd.R_newB ho0 (g := gb359) (o := .cells #[.int .i64 t349, .int .i64 t350, .int .i64 t351, .int .i64 t352, .int .i64 t353, .int .i64 t354, .string t355, .int .i64 t356] 36 (0, 0)) (BA BK359.out)) (below_size (LA HB.out))); replace BK331 := Aside0.mk (blk_below (BA BK331.out) hb); replace BK343 := Aside0.mk (blk_below (BA BK343.out) hb); replace BK358 := Aside0.mk (blk_below (BA BK358.out) hb); replace BK359 := Aside0.mk (blk_below (BA BK359.out) hb); replace HB := Aside0.mk (below_step (LA HB.out) hb); clear HO_344001; (try clear HO_359001); (try clear hb); (try clear hb2); (try clear hk); (try clear hi); (try clear ho0)) | ((with_reducible refine gate_dst (N := 11) rfl ?_); (try (refine gate_guard (by rfl) ?_; dsimp only)); refine box_event ?hg (N := 11) ?hd (cs := #[.int .i64 0, .slice none 0 0, .int .i64 0]) (t := 27) ?hr ?_; (case hd => rfl); (case hg => rfl); (case hr => first | (go_simp; done) | (go_simp; rfl)); intro gb371 hg w107 hbox hb; replace HO369 := Aside0.mk (Kd.R_below (Kd.RA HO369.out) hb); have BK371 := Aside0.mk (hbox); have GE371 := Aside0.mk (ge1 hg (LA HB.out)); replace HB := Aside0.mk (below_step (LA HB.out) hb); have NB331_371 := Aside0.mk ((by rw [hg]; exact Nat.ne_of_lt (blk_lt (g := gb331) (o := .cells #[.int .i64 a0_0, .slice A0_1 l0_1.length c0_1, .int .i64 a0_2] 24 (0, 0)) (BA BK331.out)) : gb331 ≠ gb371)); have NB371_331 := Aside0.mk ((by rw [hg]; exact Nat.ne_of_gt (blk_lt (g := gb331) (o := .cells #[.int .i64 a0_0, .slice A0_1 l0_1.length c0_1, .int .i64 a0_2] 24 (0, 0)) (BA BK331.out)) : gb371 ≠ gb331)); replace BK331 := Aside0.mk (blk_below (BA BK331.out) hb); have NB343_371 := Aside0.mk ((by rw [hg]; exact Nat.ne_of_lt (blk_lt (g := gb343) (o := .cells #[.int .i64 t335, .slice Ao21 t336.length co21, .int .i64 t339] 27 (0, 0)) (BA BK343.out)) : gb343 ≠ gb371)); have NB371_343 := Aside0.mk ((by rw [hg]; exact Nat.ne_of_gt (blk_lt (g := gb343) (o := .cells #[.int .i64 t335, .slice Ao21 t336.length co21, .int .i64 t339] 27 (0, 0)) (BA BK343.out)) : gb371 ≠ gb343)); have NB358_371 := Aside0.mk ((by rw [hg]; exact Nat.ne_of_lt (blk_lt (g := gb358) (o := .cells #[.int .i64 t344, .slice Ao31 t345.length co31, .int .i64 t348] 27 (0, 0)) (BA BK358.out)) : gb358 ≠ gb371)); have NB371_358 := Aside0.mk ((by rw [hg]; exact Nat.ne_of_gt (blk_lt (g := gb358) (o := .cells #[.int .i64 t344, .slice Ao31 t345.length co31, .int .i64 t348] 27 (0, 0)) (BA BK358.out)) : gb371 ≠ gb358)); have NB359_371 := Aside0.mk ((by rw [hg]; exact Nat.ne_of_lt (blk_lt (g := gb359) (o := .cells #[.int .i64 t349, .int .i64 t350, .int .i64 t351, .int .i64 t352, .int .i64 t353, .int .i64 t354, .string t355, .int .i64 t356] 36 (0, 0)) (BA BK359.out)) : gb359 ≠ gb371)); have NB371_359 := Aside0.mk ((by rw [hg]; exact Nat.ne_of_gt (blk_lt (g := gb359) (o := .cells #[.int .i64 t349, .int .i64 t350, .int .i64 t351, .int .i64 t352, .int .i64 t353, .int .i64 t354, .string t355, .int .i64 t356] 36 (0, 0)) (BA BK359.out)) : gb371 ≠ gb359)); clear BK343 BK358 BK359; (try clear HO_344001); (try clear HO_359001); clear hb hbox hg; have hnb108 := NB371_331.out; have hnc108 := NB331_371.out; have hnb109 := NB371_343.out; have hnc109 := NB343_371.out; have hnb110 := NB371_358.out; have hnc110 := NB358_371.out; have hnb111 := NB371_359.out; have hnc111 := NB359_371.out; obtain ⟨hcz112_0, hcz112_1, hcz112_2, hfz112_0, hfz112_1, hfz112_2⟩ := cz3 BK371.out; obtain ⟨Ao113, co113, eo113⟩ := Kd.R_slice HO369.out; subst eo113; have hnb114 := NB331_358.out; have hnc114 := NB358_331.out; have hnb115 := NB331_359.out; have hnc115 := NB359_331.out; obtain ⟨hcz116_0, hcz116_1, hcz116_2, hfz116_0, hfz116_1, hfz116_2⟩ := cz3 BK331.out) | (go_at_call 10; (with_reducible refine (hopperlaw14_live.calls kj66  t373 _ A101.out).mono ?_); rintro e w117 ⟨rfl, hb⟩; replace HB := Aside0.mk (below_step (LG HB.out (G1 GE371.out G0)) hb); (try clear HO_344001); (try clear HO_359001); (try clear HO369); (try clear BK331); (try clear BK343); (try clear BK358); (try clear BK359); (try clear BK371); (try clear hb); (try clear hb2); (try clear hk); (try clear hi)))
                      go_ret
                      exact ⟨by first | exact (congrArg (fun b => Ending.returned (.bool b)) HR_.out) | (rw [HR_.out]; done) | rfl | (rw [HR_.out]; rfl) | (simp [HR_.out]; done) | (simp [errW_none, errW_some] <;> rfl) | (simp only [← hji98, ← hji99]; first | rfl | (simp [errW_none, errW_some] <;> rfl)) | (simp [*, errW_none, errW_some] <;> rfl), LG HB.out (G1 GE331.out (G1 GE343.out (G1 GE358.out (G1 GE359.out (G1 GE371.out G0)))))⟩

-- GIVEN hopperlaw14_FeedReads

end Go.Proofs.Ythmnedlaecekkaa.PFeedReads
