/- What the functions that the law reaches answer, each as a plain Lean function, with a proof that the call in memory comes to that answer. Written by wip/tools/given.py of this session out of the print.py of the kit, with stand-ins for some functions. -/
import Derived.Test.YthmnedlaecekkaaPFeedLostx0
import Derived.Test.YthmnedlaecekkaaPFeedLostx2
import Derived.Test.YthmnedlaecekkaaPFeedLostx3
import Derived.Test.YthmnedlaecekkaaPFeedLostx5
import Derived.Test.YthmnedlaecekkaaPFeedLostx6
namespace Go.Proofs.Ythmnedlaecekkaa.PFeedLost
open Go.RowKit Go.Proofs.YthmnedlaecekkaaW.PrintWords Go.Proofs.YthmnedlaecekkaaW.PrintLast Go.Proofs.YthmnedlaecekkaaW.PrintMore
attribute [local go_sem] max2_int min2_int max_two min_two max_three min_three max_four min_four   -- for this text's walks alone
set_option linter.unusedVariables false
set_option linter.unusedSimpArgs false

/-! ### hopperlaw14_FeedLost: function 6 -/
mutual
def hopperlaw14_FeedLost.j0 : Nat → Int → List (S36) → Bool → Int → List (S36) → Int → Option (Bool)
  | 0, _, _, _, _, _, _ => none
  | k + 1, x0, x1, x22, x338000, x338001, x338002 => if x22 = true then ((hopperlaw14_live.f k).bind fun t339 => (some t339)) else ((feed_Tell.f k x338000 x338001 x338002 x1).bind fun bt340 => (if (bt340.2.1.length : Int) = (mn x0 (x1.length : Int)) then (if bt340.2.2 = (mx 0 (wrap64 ((x1.length : Int) - x0))) then (if 0 ≤ (mn x0 (x1.length : Int)) then (if (mn x0 (x1.length : Int)) ≤ (x1.length : Int) then ((hopperref13_Events.f k bt340.2.1 (x1.take ((mn x0 (x1.length : Int)) : Int).toNat)).bind fun t350 => (hopperlaw14_FeedLost.j1 k x0 x1 (!t350) bt340.1 bt340.2.1 bt340.2.2)) else (none)) else (none)) else (hopperlaw14_FeedLost.j1 k x0 x1 true bt340.1 bt340.2.1 bt340.2.2)) else (hopperlaw14_FeedLost.j1 k x0 x1 true bt340.1 bt340.2.1 bt340.2.2)))
def hopperlaw14_FeedLost.j1 : Nat → Int → List (S36) → Bool → Int → List (S36) → Int → Option (Bool)
  | 0, _, _, _, _, _, _ => none
  | k + 1, x0, x1, x56, x346000, x346001, x346002 => if x56 = true then (some false) else ((feed_All.f k x346000 x346001 x346002).bind fun bt351 => (if 0 ≤ (mn 1 (x1.length : Int)) then (if (mn 1 (x1.length : Int)) ≤ (x1.length : Int) then ((feed_Tell.f k bt351.1 bt351.2.1 bt351.2.2.1 (x1.take ((mn 1 (x1.length : Int)) : Int).toNat)).bind fun bt364 => (if (bt351.2.1.length : Int) = 0 then (if bt351.2.2.1 = 0 then (if (bt351.2.2.2.length : Int) = (wrap64 ((mn x0 (x1.length : Int)) + (mn 1 x346002))) then (if (bt364.2.1.length : Int) = (mn 1 (x1.length : Int)) then ((hopperlaw14_live.f k).bind fun t370 => (some t370)) else (some false)) else (some false)) else (some false)) else (some false))) else (none)) else (none)))
end
def hopperlaw14_FeedLost.f (k : Nat) (a0 : Int) (l1 : List (S36)) : Option (Bool) := (feed_New.f a0).bind fun bt331 => (if bt331.2.2.2 = 0 then ((hopperref14_Few.f k l1 60).bind fun t338 => (hopperlaw14_FeedLost.j0 k a0 l1 (!t338) bt331.1 bt331.2.1 bt331.2.2.1)) else (hopperlaw14_FeedLost.j0 k a0 l1 true bt331.1 bt331.2.1 bt331.2.2.1))
theorem hopperlaw14_FeedLost.mono_l : ∀ k, (∀ y0 y1 y2 y3 y4 y5, LeO (hopperlaw14_FeedLost.j0 k y0 y1 y2 y3 y4 y5) (hopperlaw14_FeedLost.j0 (k + 1) y0 y1 y2 y3 y4 y5)) ∧ (∀ y0 y1 y2 y3 y4 y5, LeO (hopperlaw14_FeedLost.j1 k y0 y1 y2 y3 y4 y5) (hopperlaw14_FeedLost.j1 (k + 1) y0 y1 y2 y3 y4 y5))
  | 0 => ⟨fun _ _ _ _ _ _ r h => by simp [hopperlaw14_FeedLost.j0] at h, fun _ _ _ _ _ _ r h => by simp [hopperlaw14_FeedLost.j1] at h⟩
  | k + 1 => by
    obtain ⟨ih0, ih1⟩ := hopperlaw14_FeedLost.mono_l k
    refine ⟨?_, ?_⟩
    · intro y0 y1 y2 y3 y4 y5
      unfold hopperlaw14_FeedLost.j0
      repeat' first
      | (with_reducible exact ih0 _ _ _ _ _ _)
      | (with_reducible exact ih1 _ _ _ _ _ _)
      | (with_reducible exact feed_All.mono _ _ _ _)
      | (with_reducible exact feed_Tell.mono _ _ _ _ _)
      | (with_reducible exact hopperlaw14_live.mono _)
      | (with_reducible exact hopperref13_Events.mono _ _ _)
      | (with_reducible exact hopperref14_Few.mono _ _ _)
      | (with_reducible exact LeO.refl _)
      | (with_reducible exact LeO.none _)
      | (with_reducible refine LeO.ite ?_ ?_)
      | (with_reducible refine LeO.bind ?_ (fun _ => ?_))
      | exact ih0 _ _ _ _ _ _
      | exact ih1 _ _ _ _ _ _
      | exact feed_All.mono _ _ _ _
      | exact feed_Tell.mono _ _ _ _ _
      | exact hopperlaw14_live.mono _
      | exact hopperref13_Events.mono _ _ _
      | exact hopperref14_Few.mono _ _ _
      | exact LeO.none _
      | refine LeO.ite ?_ ?_
      | refine LeO.bind ?_ (fun _ => ?_)
    · intro y0 y1 y2 y3 y4 y5
      unfold hopperlaw14_FeedLost.j1
      repeat' first
      | (with_reducible exact ih0 _ _ _ _ _ _)
      | (with_reducible exact ih1 _ _ _ _ _ _)
      | (with_reducible exact feed_All.mono _ _ _ _)
      | (with_reducible exact feed_Tell.mono _ _ _ _ _)
      | (with_reducible exact hopperlaw14_live.mono _)
      | (with_reducible exact hopperref13_Events.mono _ _ _)
      | (with_reducible exact hopperref14_Few.mono _ _ _)
      | (with_reducible exact LeO.refl _)
      | (with_reducible exact LeO.none _)
      | (with_reducible refine LeO.ite ?_ ?_)
      | (with_reducible refine LeO.bind ?_ (fun _ => ?_))
      | exact ih0 _ _ _ _ _ _
      | exact ih1 _ _ _ _ _ _
      | exact feed_All.mono _ _ _ _
      | exact feed_Tell.mono _ _ _ _ _
      | exact hopperlaw14_live.mono _
      | exact hopperref13_Events.mono _ _ _
      | exact hopperref14_Few.mono _ _ _
      | exact LeO.none _
      | refine LeO.ite ?_ ?_
      | refine LeO.bind ?_ (fun _ => ?_)
theorem hopperlaw14_FeedLost.mono : ∀ a0 a1 k, LeO (hopperlaw14_FeedLost.f k a0 a1) (hopperlaw14_FeedLost.f (k + 1) a0 a1) := by
  intro a0 a1 k
  obtain ⟨ih0, ih1⟩ := hopperlaw14_FeedLost.mono_l k
  unfold hopperlaw14_FeedLost.f
  repeat' first
      | (with_reducible exact ih0 _ _ _ _ _ _)
      | (with_reducible exact ih1 _ _ _ _ _ _)
      | (with_reducible exact feed_All.mono _ _ _ _)
      | (with_reducible exact feed_Tell.mono _ _ _ _ _)
      | (with_reducible exact hopperlaw14_live.mono _)
      | (with_reducible exact hopperref13_Events.mono _ _ _)
      | (with_reducible exact hopperref14_Few.mono _ _ _)
      | (with_reducible exact LeO.refl _)
      | (with_reducible exact LeO.none _)
      | (with_reducible refine LeO.ite ?_ ?_)
      | (with_reducible refine LeO.bind ?_ (fun _ => ?_))
      | exact ih0 _ _ _ _ _ _
      | exact ih1 _ _ _ _ _ _
      | exact feed_All.mono _ _ _ _
      | exact feed_Tell.mono _ _ _ _ _
      | exact hopperlaw14_live.mono _
      | exact hopperref13_Events.mono _ _ _
      | exact hopperref14_Few.mono _ _ _
      | exact LeO.none _
      | refine LeO.ite ?_ ?_
      | refine LeO.bind ?_ (fun _ => ?_)
def hopperlaw14_FeedLost.T5 : Bool × List (List Nat × List Nat) := (true, [([], []), ([0], [0]), ([1], [1]), ([], []), ([], []), ([4], [4]), ([3, 5], [3, 5]), ([2, 6], [2, 6]), ([7], [7]), ([8], [8]), ([9, 8], [8, 9]), ([8], [8]), ([11, 8], [8, 11]), ([8], [8]), ([12, 13, 8], [8, 12, 13]), ([14, 8], [8, 14]), ([10, 15, 8], [8, 10, 15]), ([8, 16], [8, 16]), ([17, 8], [17]), ([18], [18]), ([19, 18], [18, 19]), ([18], [18]), ([18], [18]), ([18], [18]), ([23, 18], [18, 23]), ([22, 24, 18], [18, 22, 24]), ([21, 25, 18], [18, 21, 25]), ([20, 26, 18, 18], [18, 20, 26]), ([27, 18], [18, 27]), ([18, 28], [18, 28])])
def hopperlaw14_FeedLost.B5 : List Nat := [0, 1, 3, 0, 0, 16, 56, 127, 255, 511, 1023, 511, 2559, 511, 14847, 31231, 65535, 131071, 262143, 524287, 1048575, 524287, 524287, 524287, 8912895, 29884415, 65535999, 134217727, 268435455, 536870911]
theorem hopperlaw14_FeedLost.tab5 : rtab .any (opsOf Try.f6 5) = hopperlaw14_FeedLost.T5 := by kernel_rfl
theorem hopperlaw14_FeedLost.bits5 : waitsOk hopperlaw14_FeedLost.T5.2 hopperlaw14_FeedLost.B5 = true := by kernel_rfl
def hopperlaw14_FeedLost.T8 : Bool × List (List Nat × List Nat) := (true, [([], []), ([], []), ([], []), ([2], [2]), ([3], [3]), ([1, 4], [1, 4]), ([0, 5], [0, 5]), ([], []), ([7, 6, 6, 0, 1, 2, 3, 4, 5, 6, 7], [6, 7])])
def hopperlaw14_FeedLost.B8 : List Nat := [0, 0, 0, 4, 12, 30, 63, 0, 255]
theorem hopperlaw14_FeedLost.tab8 : rtab .any (opsOf Try.f6 8) = hopperlaw14_FeedLost.T8 := by kernel_rfl
theorem hopperlaw14_FeedLost.bits8 : waitsOk hopperlaw14_FeedLost.T8.2 hopperlaw14_FeedLost.B8 = true := by kernel_rfl
set_option maxHeartbeats 60000000 in
set_option maxRecDepth 100000 in
theorem hopperlaw14_FeedLost.callsT (k : Nat) (a0 : Int) (A1 : Option Addr) (c1 : Nat) (l1 : List (S36)) (w : World) (hr1 : Kd.C k36 w A1 l1.length l1) (hc1 : l1.length ≤ c1) (h : hopperlaw14_FeedLost.f k a0 l1 = some true) :
    Calls Try.prog 6 #[.int .i64 a0, .slice A1 l1.length c1] w fun e w' => e = .returned (.bool true) ∧ Below w.heap.size w w' := by
  have hu27 := Try.underlying27
  have HR1 := Aside0.mk hr1
  have HC1 := Aside0.mk hc1
  clear hr1 hc1
  have HB := Aside0.mk (Below.refl w.heap.size w)
  have H : ((feed_New.f a0).bind fun bt331 => (if bt331.2.2.2 = 0 then ((hopperref14_Few.f k l1 60).bind fun t338 => (hopperlaw14_FeedLost.j0 k a0 l1 (!t338) bt331.1 bt331.2.1 bt331.2.2.1)) else (hopperlaw14_FeedLost.j0 k a0 l1 true bt331.1 bt331.2.1 bt331.2.2.1))) = some true := h
  clear h
  replace H := Option.bind_eq_some_iff.mp H
  obtain ⟨⟨t331, t332, t335, t336⟩, A30, H⟩ := H
  try dsimp only at H
  have A3 := Aside0.mk A30
  clear A30
  have HC4 := Aside0.mk H
  clear H
  go_enter Try.func6, Try.ntmps6
  go_upto_region 2 with (first | ((with_reducible refine gate_callee (f := 11) rfl ?_); refine goesL_ (some 13) rfl rfl Try.func11 (by kernel_rfl) rfl #[.int .i64 a0] rfl (by (try simp only [List.map_toArray, List.map_cons, List.map_nil]); first | done | rfl | (simp only [List.length_drop, List.length_take]; rfl)) ?_; (with_reducible refine (feed_New.calls a0 t331 t332 t335 t336 _ A3.out).mono ?_); rintro e w5 ⟨v333, rfl, ho0, hb⟩; refine ⟨_, rfl, ?_⟩; have HO334 := Aside0.mk (Kd.R_lower ho0 (below_size (LA HB.out))); replace HB := Aside0.mk (below_step (LA HB.out) hb); (try clear hb); (try clear hb2); (try clear hk); (try clear hi); (try clear ho0)) | ((with_reducible refine gate_dst (N := 5) rfl ?_); (try (refine gate_guard (by rfl) ?_; dsimp only)); refine box_event ?hg (N := 5) ?hd (cs := #[.int .i64 0, .slice none 0 0, .int .i64 0]) (t := 27) ?hr ?_; (case hd => rfl); (case hg => rfl); (case hr => first | (go_simp; done) | (go_simp; rfl)); intro gb337 hg w6 hbox hb; replace HO334 := Aside0.mk (Kd.R_below (Kd.RA HO334.out) hb); have BK337 := Aside0.mk (hbox); have GE337 := Aside0.mk (ge1 hg (LA HB.out)); replace HB := Aside0.mk (below_step (LA HB.out) hb); clear hb hbox hg; obtain ⟨hcz7_0, hcz7_1, hcz7_2, hfz7_0, hfz7_1, hfz7_2⟩ := cz3 BK337.out; obtain ⟨Ao8, co8, eo8⟩ := Kd.R_slice HO334.out; subst eo8))
  (try simp only [Act.put, PU])
  go_cut [22] (fun v22 wc => ∃ (kq : Nat) (x22_3 : Bool), v22 = .bool x22_3 ∧ Aside0 (hopperlaw14_FeedLost.j0 kq a0 l1 x22_3 t331 t332 t335 = some true) ∧ Aside0 (kq ≤ k) ∧ Aside0 (Kd.R k36 36 wc w.heap.size (fun _ => True) (.slice Ao8 t332.length co8) t332) ∧ Aside0 (wc.heap[gb337]? = some (.cells #[.int .i64 t331, (.slice Ao8 t332.length co8), .int .i64 t335] 27 (0, 0))) ∧ Aside0 (Below w.heap.size w wc))
  case first =>
    have H := HC4.out
    clear HC4
    by_cases c9 : t336 = 0
    · rw [if_pos c9] at H
      have c9b0 : (t336 == 0) = true := beq_iff_eq.mpr c9
      have c9b1 : (t336 != 0) = false := bne_eq_false_iff_eq.mpr c9
      clear c9
      (first | rw [c9b0] | (simp only [i64_w, i32_w]; rw [c9b0]) | skip)
      replace H := Option.bind_eq_some_iff.mp H
      obtain ⟨t338, A100, H⟩ := H
      try dsimp only at H
      have A10 := Aside0.mk A100
      clear A100
      have H' := Aside0.mk H
      clear H
      go_wp2_with (first | (go_at_call 9; (with_reducible refine (hopperref14_Few.calls k _ _ l1 60 t338 _ ?side1 ?side2 A10.out).mono ?_); (case side1 => exact Kd.C_below HR1.out (LG HB.out (G1 GE337.out G0))); (case side2 => exact HC1.out); rintro e w' ⟨rfl, ⟨nd, rfl⟩⟩))
      go_meet
      case rel => exact ⟨_, (!t338), (by first | (rw [HR_.out]; done) | rfl | (rw [HR_.out]; rfl) | (simp [HR_.out]; done) | (simp; done) | (simp [*]; done)), H', ⟨by first | omega | exact Nat.le_refl _⟩, ⟨by (with_reducible repeat (first | apply Kd.R_alloc | apply Kd.R_drewN | apply Kd.R_drew)); exact Kd.R_mono (Kd.R_mv (g := gb337) (Kd.R_types HO334.out BK337.out (by decide)) (fun _ hk => hk.2)) (fun _ hk => trivial)⟩, ⟨by exact BP BK337.out (by rfl)⟩, ⟨LG HB.out (G1 GE337.out G0)⟩⟩
    · rw [if_neg c9] at H
      have c9b0 : (t336 == 0) = false := beq_eq_false_iff_ne.mpr c9
      have c9b1 : (t336 != 0) = true := bne_iff_ne.mpr c9
      (first | rw [c9b0] | (simp only [i64_w, i32_w]; rw [c9b0]) | skip)
      have H' := Aside0.mk H
      clear H
      go_wp2
      go_meet
      case rel => exact ⟨_, (true), (by first | (rw [HR_.out]; done) | rfl | (rw [HR_.out]; rfl) | (simp [HR_.out]; done) | (simp; done) | (simp [*]; done)), H', ⟨by first | omega | exact Nat.le_refl _⟩, ⟨by (with_reducible repeat (first | apply Kd.R_alloc | apply Kd.R_drewN | apply Kd.R_drew)); exact Kd.R_mono (Kd.R_mv (g := gb337) (Kd.R_types HO334.out BK337.out (by decide)) (fun _ hk => hk.2)) (fun _ hk => trivial)⟩, ⟨by exact BP BK337.out (by rfl)⟩, ⟨LG HB.out (G1 GE337.out G0)⟩⟩
  case rest =>
    clear HC4
    try clear c1
    try clear p2
    try clear c6
    try clear c9
    try clear c9b0
    try clear c9b1
    try clear hcz7_0
    try clear hcz7_1
    try clear hcz7_2
    try clear hfz7_0
    try clear hfz7_1
    try clear hfz7_2
    obtain ⟨kq, x22_3, rfl, HA, HJ3, HO_338001, BK337, HB⟩ := hcut
    cases kq with
    | zero => exact absurd HA.out (by simp [hopperlaw14_FeedLost.j0])
    | succ kj3 =>
      have H := HA.out
      clear HA
      simp only [hopperlaw14_FeedLost.j0] at H
      by_cases c11 : x22_3 = true
      · subst c11
        have H1 : ((hopperlaw14_live.f kj3).bind fun t339 => (some t339)) = some true := by rw [if_pos rfl] at H; exact H
        clear H
        have H := H1
        clear H1
        replace H := Option.bind_eq_some_iff.mp H
        obtain ⟨t339, A120, H⟩ := H
        try dsimp only at H
        have A12 := Aside0.mk A120
        clear A120
        have HR_ := Aside0.mk (Option.some.inj H)
        clear H
        go_wp2_with (first | ((with_reducible refine gate_callee (f := 10) rfl ?_); refine goesL_ (some 23) rfl rfl Try.func10 (by kernel_rfl) rfl #[] rfl (by (try simp only [List.map_toArray, List.map_cons, List.map_nil]); first | done | rfl | (simp only [List.length_drop, List.length_take]; rfl)) ?_; (with_reducible refine (hopperlaw14_live.calls kj3  t339 _ A12.out).mono ?_); rintro e w13 ⟨rfl, hb⟩; refine ⟨_, rfl, ?_⟩; replace HB := Aside0.mk (below_step (LA HB.out) hb); (try clear HO_338001); (try clear BK337); (try clear hb); (try clear hb2); (try clear hk); (try clear hi)))
        go_ret
        exact ⟨by first | exact (congrArg (fun b => Ending.returned (.bool b)) HR_.out) | (rw [HR_.out]; done) | rfl | (rw [HR_.out]; rfl) | (simp [HR_.out]; done) | (simp [errW_none, errW_some] <;> rfl) | (simp [*, errW_none, errW_some] <;> rfl), LG HB.out (G1 GE337.out G0)⟩
      · replace c11 := Bool.eq_false_iff.mpr c11
        subst c11
        have H1 : ((feed_Tell.f kj3 t331 t332 t335 l1).bind fun bt340 => (if (bt340.2.1.length : Int) = (mn a0 (l1.length : Int)) then (if bt340.2.2 = (mx 0 (wrap64 ((l1.length : Int) - a0))) then (if 0 ≤ (mn a0 (l1.length : Int)) then (if (mn a0 (l1.length : Int)) ≤ (l1.length : Int) then ((hopperref13_Events.f kj3 bt340.2.1 (l1.take ((mn a0 (l1.length : Int)) : Int).toNat)).bind fun t350 => (hopperlaw14_FeedLost.j1 kj3 a0 l1 (!t350) bt340.1 bt340.2.1 bt340.2.2)) else (none)) else (none)) else (hopperlaw14_FeedLost.j1 kj3 a0 l1 true bt340.1 bt340.2.1 bt340.2.2)) else (hopperlaw14_FeedLost.j1 kj3 a0 l1 true bt340.1 bt340.2.1 bt340.2.2))) = some true := by rw [if_neg (show ¬ (false = true) by decide)] at H; exact H
        clear H
        have H := H1
        clear H1
        replace H := Option.bind_eq_some_iff.mp H
        obtain ⟨⟨t340, t341, t344⟩, A140, H⟩ := H
        try dsimp only at H
        have A14 := Aside0.mk A140
        clear A140
        have HC15 := Aside0.mk H
        clear H
        have hcz16_0 : wc.cell? ⟨gb337, 0, none⟩ = some (.int .i64 t331) := (blk_cell BK337.out 0).trans rfl
        have hcz16_1 : wc.cell? ⟨gb337, 1, none⟩ = some (.slice Ao8 t332.length co8) := (blk_cell BK337.out 1).trans rfl
        have hcz16_2 : wc.cell? ⟨gb337, 2, none⟩ = some (.int .i64 t335) := (blk_cell BK337.out 2).trans rfl
        have hfz16_0 := blk_frozen BK337.out 0
        have hfz16_1 := blk_frozen BK337.out 1
        have hfz16_2 := blk_frozen BK337.out 2
        go_upto_region 5 with (first | ((with_reducible refine gate_callee (f := 19) rfl ?_); refine goesL_ (some 26) rfl rfl Try.func19 (by kernel_rfl) rfl #[.agg #[.int .i64 t331, .slice Ao8 t332.length co8, .int .i64 t335], .slice A1 l1.length c1] rfl (by (try simp only [List.map_toArray, List.map_cons, List.map_nil]); first | done | rfl | (simp only [List.length_drop, List.length_take]; rfl)) ?_; (with_reducible refine (feed_Tell.calls kj3 t331 _ _ t332 t335 _ _ l1 t340 t341 t344 _ ?side1 ?side2 ?side3 ?side4 A14.out).mono ?_); (case side1 => exact Kd.CA (Kd.R_reads' HO_338001.out).2.2); (case side2 => exact (Kd.R_reads' HO_338001.out).2.1); (case side3 => exact Kd.CA (Kd.C_below HR1.out HB.out)); (case side4 => exact HC1.out); rintro e w17 ⟨v342, rfl, ho0, hb⟩; refine ⟨_, rfl, ?_⟩; have HO343 := Aside0.mk (Kd.R_lower (Kd.R_new' ho0 (Kd.R_lt (Kd.RA HO_338001.out))) (below_size (LG HB.out (G1 GE337.out G0)))); replace HO_338001 := Aside0.mk (Kd.R_elder' (Kd.RA HO_338001.out) (Kd.R_base ho0) hb); replace BK337 := Aside0.mk (blk_below (BA BK337.out) hb); replace HB := Aside0.mk (below_step (LG HB.out (G1 GE337.out G0)) hb); (try clear hb); (try clear hb2); (try clear hk); (try clear hi); (try clear ho0)) | ((with_reducible refine gate_dst (N := 7) rfl ?_); (try (refine gate_guard (by rfl) ?_; dsimp only)); refine box_event ?hg (N := 7) ?hd (cs := #[.int .i64 0, .slice none 0 0, .int .i64 0]) (t := 27) ?hr ?_; (case hd => rfl); (case hg => rfl); (case hr => first | (go_simp; done) | (go_simp; rfl)); intro gb345 hg w18 hbox hb; replace HO_338001 := Aside0.mk (Kd.R_below (Kd.RA HO_338001.out) hb); replace HO343 := Aside0.mk (Kd.R_below (Kd.RA HO343.out) hb); have BK345 := Aside0.mk (hbox); have GE345 := Aside0.mk (ge1 hg (LA HB.out)); replace HB := Aside0.mk (below_step (LA HB.out) hb); have NB337_345 := Aside0.mk ((by rw [hg]; exact Nat.ne_of_lt (blk_lt (g := gb337) (o := .cells #[.int .i64 t331, .slice Ao8 t332.length co8, .int .i64 t335] 27 (0, 0)) (BA BK337.out)) : gb337 ≠ gb345)); have NB345_337 := Aside0.mk ((by rw [hg]; exact Nat.ne_of_gt (blk_lt (g := gb337) (o := .cells #[.int .i64 t331, .slice Ao8 t332.length co8, .int .i64 t335] 27 (0, 0)) (BA BK337.out)) : gb345 ≠ gb337)); replace BK337 := Aside0.mk (blk_below (BA BK337.out) hb); clear hb hbox hg; have hnb19 := NB345_337.out; have hnc19 := NB337_345.out; obtain ⟨hcz20_0, hcz20_1, hcz20_2, hfz20_0, hfz20_1, hfz20_2⟩ := cz3 BK345.out; obtain ⟨Ao21, co21, eo21⟩ := Kd.R_slice HO343.out; subst eo21))
        (try simp only [Act.put, PU])
        go_cut [56] (fun v56 wc => ∃ (kq : Nat) (x56_14 : Bool), v56 = .bool x56_14 ∧ Aside0 (hopperlaw14_FeedLost.j1 kq a0 l1 x56_14 t340 t341 t344 = some true) ∧ Aside0 (kq ≤ kj3) ∧ Aside0 (Kd.R k36 36 wc w.heap.size (fun k_ => some k_ ≠ ((.slice Ao21 t341.length co21) : Value).ownBlock) (.slice Ao8 t332.length co8) t332) ∧ Aside0 (Kd.R k36 36 wc w.heap.size (fun k_ => some k_ ≠ ((.slice Ao8 t332.length co8) : Value).ownBlock) (.slice Ao21 t341.length co21) t341) ∧ Aside0 (wc.heap[gb337]? = some (.cells #[.int .i64 t331, (.slice Ao8 t332.length co8), .int .i64 t335] 27 (0, 0))) ∧ Aside0 (wc.heap[gb345]? = some (.cells #[.int .i64 t340, (.slice Ao21 t341.length co21), .int .i64 t344] 27 (0, 0))) ∧ Aside0 (Below w.heap.size w wc))
        case first =>
          have H := HC15.out
          clear HC15
          obtain ⟨ji22, hji22⟩ : ∃ j_ : Int, (mn a0 (l1.length : Int)) = j_ := ⟨_, rfl⟩
          replace H : (if (t341.length : Int) = (ji22) then (if t344 = (mx 0 (wrap64 ((l1.length : Int) - a0))) then (if 0 ≤ (ji22) then (if (ji22) ≤ (l1.length : Int) then ((hopperref13_Events.f kj3 t341 (l1.take ((ji22) : Int).toNat)).bind fun t350 => (hopperlaw14_FeedLost.j1 kj3 a0 l1 (!t350) t340 t341 t344)) else (none)) else (none)) else (hopperlaw14_FeedLost.j1 kj3 a0 l1 true t340 t341 t344)) else (hopperlaw14_FeedLost.j1 kj3 a0 l1 true t340 t341 t344)) = some true := by first | (rw [hji22] at H; exact H) | (simp only [hji22] at H ⊢; exact H)
          have hji22_ : (if (l1.length : Int) < a0 then (l1.length : Int) else a0) = ji22 := hji22
          by_cases c23 : (t341.length : Int) = (ji22)
          · rw [if_pos c23] at H
            have c23b0 : ((t341.length : Int) == (ji22)) = true := beq_iff_eq.mpr c23
            have c23b1 : ((t341.length : Int) != (ji22)) = false := bne_eq_false_iff_eq.mpr c23
            clear c23
            (first | rw [c23b0] | (simp only [i64_w, i32_w]; rw [c23b0]) | skip)
            obtain ⟨ji24, hji24⟩ : ∃ j_ : Int, (mx 0 (wrap64 ((l1.length : Int) - a0))) = j_ := ⟨_, rfl⟩
            replace H : (if t344 = (ji24) then (if 0 ≤ (ji22) then (if (ji22) ≤ (l1.length : Int) then ((hopperref13_Events.f kj3 t341 (l1.take ((ji22) : Int).toNat)).bind fun t350 => (hopperlaw14_FeedLost.j1 kj3 a0 l1 (!t350) t340 t341 t344)) else (none)) else (none)) else (hopperlaw14_FeedLost.j1 kj3 a0 l1 true t340 t341 t344)) = some true := by first | (rw [hji24] at H; exact H) | (simp only [hji24] at H ⊢; exact H)
            have hji24_ : (if 0 < (wrap64 ((l1.length : Int) - a0)) then (wrap64 ((l1.length : Int) - a0)) else 0) = ji24 := hji24
            by_cases c25 : t344 = (ji24)
            · rw [if_pos c25] at H
              have c25b0 : (t344 == (ji24)) = true := beq_iff_eq.mpr c25
              have c25b1 : (t344 != (ji24)) = false := bne_eq_false_iff_eq.mpr c25
              clear c25
              by_cases c27 : 0 ≤ (ji22)
              rotate_left
              · rw [if_neg c27] at H
                exact absurd H (by simp)
              rw [if_pos c27] at H
              have c27b0 := eq_true c27
              have c27b1 : decide (0 ≤ (ji22)) = true := decide_eq_true c27
              clear c27
              by_cases c28 : (ji22) ≤ (l1.length : Int)
              rotate_left
              · rw [if_neg c28] at H
                exact absurd H (by simp)
              rw [if_pos c28] at H
              have c28b0 := eq_true c28
              have c28b1 : decide ((ji22) ≤ (l1.length : Int)) = true := decide_eq_true c28
              clear c28
              obtain ⟨y346, hy346⟩ : ∃ y_ : List (S36), y_ = (l1.take ((ji22) : Int).toNat) := ⟨_, rfl⟩
              replace H : ((hopperref13_Events.f kj3 t341 y346).bind fun t350 => (hopperlaw14_FeedLost.j1 kj3 a0 l1 (!t350) t340 t341 t344)) = some true := by first | (rw [hy346]; with_reducible exact H) | (have H2_ := (Option.bind_some _ _).symm.trans H; rw [hy346]; with_reducible exact H2_) | (have H2_ := (Option.bind_some _ _).symm.trans H; with_reducible exact H2_) | with_reducible exact H | (rw [hy346]; exact H) | exact H
              have Ny346 := Aside0.mk hy346
              clear hy346
              replace H := Option.bind_eq_some_iff.mp H
              obtain ⟨t350, A290, H⟩ := H
              try dsimp only at H
              have A29 := Aside0.mk A290
              clear A290
              have H' := Aside0.mk H
              clear H
              try go_wp2
              have n0_ : Aside0 (Kd.R k36 36 (((w18.setCell ⟨gb345, 0, none⟩ (.int .i64 t340)).setCell ⟨gb345, 1, none⟩ (.slice Ao21 t341.length co21)).setCell ⟨gb345, 2, none⟩ (.int .i64 t344)) w.heap.size (fun k_ => some k_ ≠ (.slice Ao21 t341.length co21 : Value).ownBlock) (.slice Ao8 t332.length co8) t332) := ⟨by (with_reducible repeat (first | apply Kd.R_alloc | apply Kd.R_drewN | apply Kd.R_drew)); exact Kd.R_mono (Kd.R_mv (g := gb345) (Kd.R_types HO_338001.out BK345.out (by decide)) (fun _ hk => hk.2)) (fun _ hk => hk.1.2)⟩
              have n1_ : Aside0 (Kd.R k36 36 (((w18.setCell ⟨gb345, 0, none⟩ (.int .i64 t340)).setCell ⟨gb345, 1, none⟩ (.slice Ao21 t341.length co21)).setCell ⟨gb345, 2, none⟩ (.int .i64 t344)) w.heap.size (fun k_ => some k_ ≠ (.slice Ao8 t332.length co8 : Value).ownBlock) (.slice Ao21 t341.length co21) t341) := ⟨by (with_reducible repeat (first | apply Kd.R_alloc | apply Kd.R_drewN | apply Kd.R_drew)); exact Kd.R_mono (Kd.R_mv (g := gb345) (Kd.R_types HO343.out BK345.out (by decide)) (fun _ hk => hk.2)) (fun _ hk => hk.1.2)⟩
              have n2_ : Aside0 ((((w18.setCell ⟨gb345, 0, none⟩ (.int .i64 t340)).setCell ⟨gb345, 1, none⟩ (.slice Ao21 t341.length co21)).setCell ⟨gb345, 2, none⟩ (.int .i64 t344)).heap[gb337]? = some (.cells #[.int .i64 t331, .slice Ao8 t332.length co8, .int .i64 t335] 27 (0, 0))) := ⟨by exact BF BK337.out NB337_345.out⟩
              have n3_ : Aside0 ((((w18.setCell ⟨gb345, 0, none⟩ (.int .i64 t340)).setCell ⟨gb345, 1, none⟩ (.slice Ao21 t341.length co21)).setCell ⟨gb345, 2, none⟩ (.int .i64 t344)).heap[gb345]? = some (.cells #[.int .i64 t340, .slice Ao21 t341.length co21, .int .i64 t344] 27 (0, 0))) := ⟨by exact BP BK345.out (by rfl)⟩
              have n4_ : Aside0 (Below w.heap.size w (((w18.setCell ⟨gb345, 0, none⟩ (.int .i64 t340)).setCell ⟨gb345, 1, none⟩ (.slice Ao21 t341.length co21)).setCell ⟨gb345, 2, none⟩ (.int .i64 t344))) := ⟨LG HB.out (G1 GE337.out (G1 GE345.out G0))⟩
              (try clear HO_338001)
              (try clear HO343)
              (try clear BK337)
              (try clear BK345)
              (try clear HB)
              generalize (((w18.setCell ⟨gb345, 0, none⟩ (.int .i64 t340)).setCell ⟨gb345, 1, none⟩ (.slice Ao21 t341.length co21)).setCell ⟨gb345, 2, none⟩ (.int .i64 t344)) = w30 at n0_ n1_ n2_ n3_ n4_ ⊢
              have HO_338001 := n0_
              have HO343 := n1_
              have BK337 := n2_
              have BK345 := n3_
              have HB := n4_
              clear n0_ n1_ n2_ n3_ n4_
              have n0_ := Aside0.mk (Kd.R_drew HO_338001.out)
              have n1_ := Aside0.mk (Kd.R_drew HO343.out)
              have n2_ := Aside0.mk (blk_drew BK337.out)
              have n3_ := Aside0.mk (blk_drew BK345.out)
              have n4_ := Aside0.mk (below_drew1 HB.out)
              clear HO_338001
              clear HO343
              clear BK337
              clear BK345
              clear HB
              have HO_338001 := n0_
              have HO343 := n1_
              have BK337 := n2_
              have BK345 := n3_
              have HB := n4_
              clear n0_ n1_ n2_ n3_ n4_
              have q32 : ((ji22) : Int) ≤ ((l1.length : Int) : Int) := of_decide_eq_true (by first | (with_reducible assumption) | assumption)
              obtain ⟨i032, hi032, _, hsz32, _⟩ := info_parts info36
              have hroom32 : l1.length ≤ c1 := HC1.out
              have hC32 : Kd.C k36 _ A1 l1.length l1 := HR1.out
              have hcut32 := cut_to (P := Try.prog) 22 36 .i64 Try.underlying22 hi032 A1 l1.length c1 (ji22) (of_decide_eq_true (by first | (with_reducible assumption) | assumption)) q32 hroom32
              have hr32 := Kd.C_take (m := ((ji22) : Int).toNat) hC32 (by omega)
              have hy32 : y346.length = ((ji22) : Int).toNat := (by rw [Ny346.out, List.length_take]; omega)
              rw [← Ny346.out] at hr32
              rw [← hy32] at hcut32
              have HR349 := Aside0.mk hr32
              have HC349 := Aside0.mk (show y346.length ≤ c1 from by omega)
              clear hr32 hC32 hroom32 hi032 hsz32
              have KY32 := Aside0.mk hy32
              clear hy32
              replace q32 := eq_true q32
              refine start_ (n := 30) (S := fun w' => w'.cell? ⟨gb345, 0, none⟩ = some (.int .i64 t340) ∧ w'.cell? ⟨gb345, 1, none⟩ = some (.slice Ao21 t341.length co21) ∧ w'.cell? ⟨gb345, 2, none⟩ = some (.int .i64 t344)) (ds := []) (tf 0 30) (by kernel_rfl) rfl rfl ⟨(blk_cell BK345.out 0).trans rfl, (blk_cell BK345.out 1).trans rfl, (blk_cell BK345.out 2).trans rfl⟩ (fun hHeld => ?_); refine with_tabW hopperlaw14_FeedLost.tab5 hopperlaw14_FeedLost.bits5 (fun HT_ HW_ => ?_)
              generalize w30.drew = w31 at HO_338001 HO343 BK337 BK345 HB HR349 hHeld ⊢
              refine pure_ (i := 0) (N := some 27) (v := ?_) (a' := ?_) (tf 1 30) rfl rfl (any_of HT_.out (by kernel_rfl)) (fun _ _ _ h => h) (Or.inl ⟨by rfl, ?_⟩) ?_ ?_
              rotate_left
              · intro w'
                go_simp
                with_reducible rfl
              rotate_left
              · simp only [Act.put, PU, i64_w, i32_w]
                rfl
              refine pure_ (i := 3) (N := some 30) (v := ?_) (a' := ?_) #[true, false, false, true, false, false, false, false, false, false, false, false, false, false, false, false, false, false, false, false, false, false, false, false, false, false, false, false, false, false] rfl rfl (any_of HT_.out (by kernel_rfl)) (fun _ _ _ h => h) (Or.inl ⟨by rfl, ?_⟩) ?_ ?_
              rotate_left
              · intro w'
                go_simp
                with_reducible rfl
              rotate_left
              · simp only [Act.put, PU, i64_w, i32_w]
                rfl
              refine pure_ (i := 4) (N := some 31) (v := ?_) (a' := ?_) #[true, false, false, true, true, false, false, false, false, false, false, false, false, false, false, false, false, false, false, false, false, false, false, false, false, false, false, false, false, false] rfl rfl (any_of HT_.out (by kernel_rfl)) (fun _ _ _ h => h) (Or.inl ⟨by rfl, ?_⟩) ?_ ?_
              rotate_left
              · intro w'
                go_simp
                with_reducible rfl
              rotate_left
              · simp only [Act.put, PU, i64_w, i32_w]
                rfl
              refine pure_ (i := 5) (N := some 32) (v := ?_) (a' := ?_) #[true, false, false, true, true, true, false, false, false, false, false, false, false, false, false, false, false, false, false, false, false, false, false, false, false, false, false, false, false, false] rfl rfl (any_of HT_.out (by kernel_rfl)) (fun _ _ _ h => h) (Or.inl ⟨by rfl, ?_⟩) ?_ ?_
              rotate_left
              · intro w'
                go_simp
                with_reducible rfl
              rotate_left
              · simp only [Act.put, PU, i64_w, i32_w]
                rfl
              refine pure_ (i := 6) (N := some 33) (v := ?_) (a' := ?_) #[true, false, false, true, true, true, true, false, false, false, false, false, false, false, false, false, false, false, false, false, false, false, false, false, false, false, false, false, false, false] rfl rfl (any_of HT_.out (by kernel_rfl)) (fun _ _ _ h => h) (Or.inl ⟨by rfl, ?_⟩) ?_ ?_
              rotate_left
              · intro w'
                go_simp
                with_reducible rfl
              rotate_left
              · simp only [Act.put, PU, i64_w, i32_w]
                rfl
              refine take_ (i := 1) (N := some 28) (v := ?_) (a' := ?_) #[true, true, false, true, true, true, true, false, false, false, false, false, false, false, false, false, false, false, false, false, false, false, false, false, false, false, false, false, false, false] rfl rfl (take_ofW HT_.out HW_.out (by kernel_rfl)) (fun _ _ _ h => h) (Or.inl ⟨by rfl, ?_⟩) hHeld ?_ ?_
              rotate_left
              · rintro w' ⟨s0, s1, s2⟩
                go_simp
                with_reducible rfl
              rotate_left
              · simp only [Act.put, PU, i64_w, i32_w]
                rfl
              refine pure_ (i := 2) (N := some 29) (v := ?_) (a' := ?_) (tf 7 30) rfl rfl (any_of HT_.out (by kernel_rfl)) (fun _ _ _ h => h) (Or.inl ⟨by rfl, ?_⟩) ?_ ?_
              rotate_left
              · intro w'
                go_simp
                with_reducible rfl
              rotate_left
              · simp only [Act.put, PU, i64_w, i32_w]
                rfl
              refine pure_ (i := 7) (N := some 34) (v := ?_) (a' := ?_) (tf 8 30) rfl rfl (any_of HT_.out (by kernel_rfl)) (fun _ _ _ h => h) (Or.inl ⟨by rfl, ?_⟩) ?_ ?_
              rotate_left
              · intro w'
                go_simp
                with_reducible rfl
              rotate_left
              · simp only [Act.put, PU, i64_w, i32_w]
                rfl
              refine pure_ (i := 8) (N := some 35) (v := ?_) (a' := ?_) (tf 9 30) rfl rfl (any_of HT_.out (by kernel_rfl)) (fun _ _ _ h => h) (Or.inl ⟨by rfl, ?_⟩) ?_ ?_
              rotate_left
              · intro w'
                go_simp
                with_reducible rfl
              rotate_left
              · simp only [Act.put, PU, i64_w, i32_w]
                rfl
              refine pure_ (i := 9) (N := some 36) (v := ?_) (a' := ?_) (tf 10 30) rfl rfl (any_of HT_.out (by kernel_rfl)) (fun _ _ _ h => h) (Or.inl ⟨by rfl, ?_⟩) ?_ ?_
              rotate_left
              · intro w'
                go_simp
                with_reducible rfl
              rotate_left
              · simp only [Act.put, PU, i64_w, i32_w]
                rfl
              refine pure_ (i := 11) (N := some 38) (v := ?_) (a' := ?_) #[true, true, true, true, true, true, true, true, true, true, false, true, false, false, false, false, false, false, false, false, false, false, false, false, false, false, false, false, false, false] rfl rfl (any_of HT_.out (by kernel_rfl)) (fun _ _ _ h => h) (Or.inl ⟨by rfl, ?_⟩) ?_ ?_
              rotate_left
              · intro w'
                go_simp
                with_reducible rfl
              rotate_left
              · simp only [Act.put, PU, i64_w, i32_w]
                rfl
              refine pure_ (i := 12) (N := some 39) (v := ?_) (a' := ?_) #[true, true, true, true, true, true, true, true, true, true, false, true, true, false, false, false, false, false, false, false, false, false, false, false, false, false, false, false, false, false] rfl rfl (any_of HT_.out (by kernel_rfl)) (fun _ _ _ h => h) (Or.inl ⟨by rfl, ?_⟩) ?_ ?_
              rotate_left
              · intro w'
                go_simp
                with_reducible rfl
              rotate_left
              · simp only [Act.put, PU, i64_w, i32_w]
                rfl
              refine pure_ (i := 13) (N := some 40) (v := ?_) (a' := ?_) #[true, true, true, true, true, true, true, true, true, true, false, true, true, true, false, false, false, false, false, false, false, false, false, false, false, false, false, false, false, false] rfl rfl (any_of HT_.out (by kernel_rfl)) (fun _ _ _ h => h) (Or.inl ⟨by rfl, ?_⟩) ?_ ?_
              rotate_left
              · intro w'
                go_simp
                with_reducible rfl
              rotate_left
              · simp only [Act.put, PU, i64_w, i32_w]
                rfl
              refine pure_ (i := 14) (N := some 41) (v := ?_) (a' := ?_) #[true, true, true, true, true, true, true, true, true, true, false, true, true, true, true, false, false, false, false, false, false, false, false, false, false, false, false, false, false, false] rfl rfl (any_of HT_.out (by kernel_rfl)) (fun _ _ _ h => h) (Or.inl ⟨by rfl, ?_⟩) ?_ ?_
              rotate_left
              · intro w'
                go_simp
                with_reducible rfl
              rotate_left
              · simp only [Act.put, PU, i64_w, i32_w]
                rfl
              refine pure_ (i := 15) (N := some 42) (v := ?_) (a' := ?_) #[true, true, true, true, true, true, true, true, true, true, false, true, true, true, true, true, false, false, false, false, false, false, false, false, false, false, false, false, false, false] rfl rfl (any_of HT_.out (by kernel_rfl)) (fun _ _ _ h => h) (Or.inl ⟨by rfl, ?_⟩) ?_ ?_
              rotate_left
              · intro w'
                go_simp
                with_reducible rfl
              rotate_left
              · simp only [Act.put, PU, i64_w, i32_w]
                rfl
              refine take_ (i := 10) (N := some 37) (v := ?_) (a' := ?_) (tf 16 30) rfl rfl (take_ofW HT_.out HW_.out (by kernel_rfl)) (fun _ _ _ h => h) (Or.inl ⟨by rfl, ?_⟩) hHeld ?_ ?_
              rotate_left
              · rintro w' ⟨s0, s1, s2⟩
                go_simp
                with_reducible rfl
              rotate_left
              · simp only [Act.put, PU, i64_w, i32_w]
                rfl
              refine pure_ (i := 16) (N := some 43) (v := ?_) (a' := ?_) (tf 17 30) rfl rfl (any_of HT_.out (by kernel_rfl)) (fun _ _ _ h => h) (Or.inl ⟨by rfl, ?_⟩) ?_ ?_
              rotate_left
              · intro w'
                go_simp
                with_reducible rfl
              rotate_left
              · simp only [Act.put, PU, i64_w, i32_w]
                rfl
              refine pure_ (i := 17) (N := some 44) (v := ?_) (a' := ?_) (tf 18 30) rfl rfl (any_of HT_.out (by kernel_rfl)) (fun _ _ _ h => h) (Or.inl ⟨by rfl, ?_⟩) ?_ ?_
              rotate_left
              · intro w'
                go_simp
                with_reducible rfl
              rotate_left
              · simp only [Act.put, PU, i64_w, i32_w]
                rfl
              refine pure_ (i := 18) (N := some 45) (v := ?_) (a' := ?_) (tf 19 30) rfl rfl (any_of HT_.out (by kernel_rfl)) (fun _ _ _ h => h) (Or.inl ⟨by rfl, ?_⟩) ?_ ?_
              rotate_left
              · intro w'
                go_simp
                with_reducible rfl
              rotate_left
              · simp only [Act.put, PU, i64_w, i32_w]
                rfl
              refine pure_ (i := 19) (N := some 46) (v := ?_) (a' := ?_) (tf 20 30) rfl rfl (any_of HT_.out (by kernel_rfl)) (fun _ _ _ h => h) (Or.inl ⟨by rfl, ?_⟩) ?_ ?_
              rotate_left
              · intro w'
                go_simp
                with_reducible rfl
              rotate_left
              · simp only [Act.put, PU, i64_w, i32_w]
                rfl
              refine pure_ (i := 21) (N := some 48) (v := ?_) (a' := ?_) #[true, true, true, true, true, true, true, true, true, true, true, true, true, true, true, true, true, true, true, true, false, true, false, false, false, false, false, false, false, false] rfl rfl (any_of HT_.out (by kernel_rfl)) (fun _ _ _ h => h) (Or.inl ⟨by rfl, ?_⟩) ?_ ?_
              rotate_left
              · intro w'
                go_simp
                with_reducible rfl
              rotate_left
              · simp only [Act.put, PU, i64_w, i32_w]
                rfl
              refine pure_ (i := 22) (N := some 49) (v := ?_) (a' := ?_) #[true, true, true, true, true, true, true, true, true, true, true, true, true, true, true, true, true, true, true, true, false, true, true, false, false, false, false, false, false, false] rfl rfl (any_of HT_.out (by kernel_rfl)) (fun _ _ _ h => h) (Or.inl ⟨by rfl, ?_⟩) ?_ ?_
              rotate_left
              · intro w'
                go_simp
                with_reducible rfl
              rotate_left
              · simp only [Act.put, PU, i64_w, i32_w]
                rfl
              refine pure_ (i := 23) (N := some 50) (v := ?_) (a' := ?_) #[true, true, true, true, true, true, true, true, true, true, true, true, true, true, true, true, true, true, true, true, false, true, true, true, false, false, false, false, false, false] rfl rfl (any_of HT_.out (by kernel_rfl)) (fun _ _ _ h => h) (Or.inl ⟨by rfl, ?_⟩) ?_ ?_
              rotate_left
              · intro w'
                go_simp
                with_reducible rfl
              rotate_left
              · simp only [Act.put, PU, i64_w, i32_w]
                rfl
              refine pure_ (i := 24) (N := some 51) (v := ?_) (a' := ?_) #[true, true, true, true, true, true, true, true, true, true, true, true, true, true, true, true, true, true, true, true, false, true, true, true, true, false, false, false, false, false] rfl rfl (any_of HT_.out (by kernel_rfl)) (fun _ _ _ h => h) (Or.inl ⟨by rfl, ?_⟩) ?_ ?_
              rotate_left
              · intro w'
                go_simp
                with_reducible rfl
              rotate_left
              · simp only [Act.put, PU, i64_w, i32_w]
                rfl
              refine pure_ (i := 25) (N := some 52) (v := ?_) (a' := ?_) #[true, true, true, true, true, true, true, true, true, true, true, true, true, true, true, true, true, true, true, true, false, true, true, true, true, true, false, false, false, false] rfl rfl (any_of HT_.out (by kernel_rfl)) (fun _ _ _ h => h) (Or.inl ⟨by rfl, ?_⟩) ?_ ?_
              rotate_left
              · intro w'
                go_simp
                with_reducible rfl
              rotate_left
              · simp only [Act.put, PU, i64_w, i32_w]
                rfl
              refine pure_ (i := 26) (N := some 53) (v := ?_) (a' := ?_) #[true, true, true, true, true, true, true, true, true, true, true, true, true, true, true, true, true, true, true, true, false, true, true, true, true, true, true, false, false, false] rfl rfl (any_of HT_.out (by kernel_rfl)) (fun _ _ _ h => h) (Or.inl ⟨by rfl, ?_⟩) ?_ ?_
              rotate_left
              · intro w'
                go_simp
                with_reducible rfl
              rotate_left
              · simp only [Act.put, PU, i64_w, i32_w]
                rfl
              refine take_ (i := 20) (N := some 47) (v := ?_) (a' := ?_) (tf 27 30) rfl rfl (take_ofW HT_.out HW_.out (by kernel_rfl)) (fun _ _ _ h => h) (Or.inl ⟨by rfl, ?_⟩) hHeld ?_ ?_
              rotate_left
              · rintro w' ⟨s0, s1, s2⟩
                go_simp
                with_reducible rfl
              rotate_left
              · simp only [Act.put, PU, i64_w, i32_w]
                rfl
              refine one_ (i := 27) (N := some 54) (tf 28 30) rfl rfl (one_of HT_.out (by kernel_rfl)) (by decide) (fun K hK => ?_)
              refine goes_ Try.func18 (by kernel_rfl) rfl #[.slice Ao21 t341.length co21, .slice A1 y346.length c1] (by rfl) rfl rfl (by (try simp only [List.map_toArray, List.map_cons, List.map_nil]); first | done | rfl | (simp only [List.length_drop, List.length_take]; rfl)) ?_
              with_reducible refine (hopperref13_Events.calls kj3 _ _ t341 _ _ y346 t350 _ ?side1 ?side2 ?side3 ?side4 A29.out).mono ?_
              (case side1 => exact Kd.CA (Kd.R_reads' HO343.out).2.2)
              (case side2 => exact (Kd.R_reads' HO343.out).2.1)
              (case side3 => exact Kd.CA (Kd.C_below HR349.out HB.out))
              (case side4 => exact HC349.out)
              rintro e w' ⟨rfl, ⟨nd, rfl⟩⟩
              refine ⟨_, rfl, ?_⟩
              refine hK.out _ _ ⟨(blk_cell BK345.out 0).trans rfl, (blk_cell BK345.out 1).trans rfl, (blk_cell BK345.out 2).trans rfl⟩ (fun hHeld => ?_)
              clear hK K
              refine norm_ (a' := ?_) ?_ ?_
              rotate_left
              · show Act.put _ (some 54) _ = _
                simp only [Act.put, PU, i64_w, i32_w]
                rfl
              refine pure_ (i := 28) (N := some 55) (v := ?_) (a' := ?_) (tf 29 30) rfl rfl (any_of HT_.out (by kernel_rfl)) (fun _ _ _ h => h) (Or.inl ⟨by rfl, ?_⟩) ?_ ?_
              rotate_left
              · intro w'
                go_simp
                with_reducible rfl
              rotate_left
              · simp only [Act.put, PU, i64_w, i32_w]
                rfl
              refine pure_ (i := 29) (N := some 56) (v := ?_) (a' := ?_) (tf 30 30) rfl rfl (any_of HT_.out (by kernel_rfl)) (fun _ _ _ h => h) (Or.inl ⟨by rfl, ?_⟩) ?_ ?_
              rotate_left
              · intro w'
                go_simp
                with_reducible rfl
              rotate_left
              · simp only [Act.put, PU, i64_w, i32_w]
                rfl
              refine done_ (done_of HT_.out (by kernel_rfl)) ?_
              try go_wp2
              go_meet
              case rel => exact ⟨_, (!t350), (by first | (rw [HR_.out]; done) | rfl | (rw [HR_.out]; rfl) | (simp [HR_.out]; done) | (simp; done) | (simp [*]; done)), H', ⟨by have := HJ3.out; first | omega | exact Nat.le_refl _⟩, ⟨by (with_reducible repeat (first | apply Kd.R_alloc | apply Kd.R_drewN | apply Kd.R_drew)); exact HO_338001.out⟩, ⟨by (with_reducible repeat (first | apply Kd.R_alloc | apply Kd.R_drewN | apply Kd.R_drew)); exact HO343.out⟩, ⟨by (with_reducible repeat (first | refine blk_drewN ?_ _ | refine blk_drew ?_ | refine blk_alloc ?_ _)); exact BK337.out⟩, ⟨by (with_reducible repeat (first | refine blk_drewN ?_ _ | refine blk_drew ?_ | refine blk_alloc ?_ _)); exact BK345.out⟩, ⟨LG HB.out (G1 GE337.out (G1 GE345.out G0))⟩⟩
            · rw [if_neg c25] at H
              have c25b0 : (t344 == (ji24)) = false := beq_eq_false_iff_ne.mpr c25
              have c25b1 : (t344 != (ji24)) = true := bne_iff_ne.mpr c25
              have H' := Aside0.mk H
              clear H
              try go_wp2
              have n0_ : Aside0 (Kd.R k36 36 (((w18.setCell ⟨gb345, 0, none⟩ (.int .i64 t340)).setCell ⟨gb345, 1, none⟩ (.slice Ao21 t341.length co21)).setCell ⟨gb345, 2, none⟩ (.int .i64 t344)) w.heap.size (fun k_ => some k_ ≠ (.slice Ao21 t341.length co21 : Value).ownBlock) (.slice Ao8 t332.length co8) t332) := ⟨by (with_reducible repeat (first | apply Kd.R_alloc | apply Kd.R_drewN | apply Kd.R_drew)); exact Kd.R_mono (Kd.R_mv (g := gb345) (Kd.R_types HO_338001.out BK345.out (by decide)) (fun _ hk => hk.2)) (fun _ hk => hk.1.2)⟩
              have n1_ : Aside0 (Kd.R k36 36 (((w18.setCell ⟨gb345, 0, none⟩ (.int .i64 t340)).setCell ⟨gb345, 1, none⟩ (.slice Ao21 t341.length co21)).setCell ⟨gb345, 2, none⟩ (.int .i64 t344)) w.heap.size (fun k_ => some k_ ≠ (.slice Ao8 t332.length co8 : Value).ownBlock) (.slice Ao21 t341.length co21) t341) := ⟨by (with_reducible repeat (first | apply Kd.R_alloc | apply Kd.R_drewN | apply Kd.R_drew)); exact Kd.R_mono (Kd.R_mv (g := gb345) (Kd.R_types HO343.out BK345.out (by decide)) (fun _ hk => hk.2)) (fun _ hk => hk.1.2)⟩
              have n2_ : Aside0 ((((w18.setCell ⟨gb345, 0, none⟩ (.int .i64 t340)).setCell ⟨gb345, 1, none⟩ (.slice Ao21 t341.length co21)).setCell ⟨gb345, 2, none⟩ (.int .i64 t344)).heap[gb337]? = some (.cells #[.int .i64 t331, .slice Ao8 t332.length co8, .int .i64 t335] 27 (0, 0))) := ⟨by exact BF BK337.out NB337_345.out⟩
              have n3_ : Aside0 ((((w18.setCell ⟨gb345, 0, none⟩ (.int .i64 t340)).setCell ⟨gb345, 1, none⟩ (.slice Ao21 t341.length co21)).setCell ⟨gb345, 2, none⟩ (.int .i64 t344)).heap[gb345]? = some (.cells #[.int .i64 t340, .slice Ao21 t341.length co21, .int .i64 t344] 27 (0, 0))) := ⟨by exact BP BK345.out (by rfl)⟩
              have n4_ : Aside0 (Below w.heap.size w (((w18.setCell ⟨gb345, 0, none⟩ (.int .i64 t340)).setCell ⟨gb345, 1, none⟩ (.slice Ao21 t341.length co21)).setCell ⟨gb345, 2, none⟩ (.int .i64 t344))) := ⟨LG HB.out (G1 GE337.out (G1 GE345.out G0))⟩
              (try clear HO_338001)
              (try clear HO343)
              (try clear BK337)
              (try clear BK345)
              (try clear HB)
              generalize (((w18.setCell ⟨gb345, 0, none⟩ (.int .i64 t340)).setCell ⟨gb345, 1, none⟩ (.slice Ao21 t341.length co21)).setCell ⟨gb345, 2, none⟩ (.int .i64 t344)) = w33 at n0_ n1_ n2_ n3_ n4_ ⊢
              have HO_338001 := n0_
              have HO343 := n1_
              have BK337 := n2_
              have BK345 := n3_
              have HB := n4_
              clear n0_ n1_ n2_ n3_ n4_
              have n0_ := Aside0.mk (Kd.R_drew HO_338001.out)
              have n1_ := Aside0.mk (Kd.R_drew HO343.out)
              have n2_ := Aside0.mk (blk_drew BK337.out)
              have n3_ := Aside0.mk (blk_drew BK345.out)
              have n4_ := Aside0.mk (below_drew1 HB.out)
              clear HO_338001
              clear HO343
              clear BK337
              clear BK345
              clear HB
              have HO_338001 := n0_
              have HO343 := n1_
              have BK337 := n2_
              have BK345 := n3_
              have HB := n4_
              clear n0_ n1_ n2_ n3_ n4_
              refine start_ (n := 30) (S := fun w' => w'.cell? ⟨gb345, 0, none⟩ = some (.int .i64 t340) ∧ w'.cell? ⟨gb345, 1, none⟩ = some (.slice Ao21 t341.length co21) ∧ w'.cell? ⟨gb345, 2, none⟩ = some (.int .i64 t344)) (ds := []) (tf 0 30) (by kernel_rfl) rfl rfl ⟨(blk_cell BK345.out 0).trans rfl, (blk_cell BK345.out 1).trans rfl, (blk_cell BK345.out 2).trans rfl⟩ (fun hHeld => ?_); refine with_tabW hopperlaw14_FeedLost.tab5 hopperlaw14_FeedLost.bits5 (fun HT_ HW_ => ?_)
              generalize w33.drew = w34 at HO_338001 HO343 BK337 BK345 HB hHeld ⊢
              refine pure_ (i := 0) (N := some 27) (v := ?_) (a' := ?_) (tf 1 30) rfl rfl (any_of HT_.out (by kernel_rfl)) (fun _ _ _ h => h) (Or.inl ⟨by rfl, ?_⟩) ?_ ?_
              rotate_left
              · intro w'
                go_simp
                with_reducible rfl
              rotate_left
              · simp only [Act.put, PU, i64_w, i32_w]
                rfl
              refine pure_ (i := 3) (N := some 30) (v := ?_) (a' := ?_) #[true, false, false, true, false, false, false, false, false, false, false, false, false, false, false, false, false, false, false, false, false, false, false, false, false, false, false, false, false, false] rfl rfl (any_of HT_.out (by kernel_rfl)) (fun _ _ _ h => h) (Or.inl ⟨by rfl, ?_⟩) ?_ ?_
              rotate_left
              · intro w'
                go_simp
                with_reducible rfl
              rotate_left
              · simp only [Act.put, PU, i64_w, i32_w]
                rfl
              refine pure_ (i := 4) (N := some 31) (v := ?_) (a' := ?_) #[true, false, false, true, true, false, false, false, false, false, false, false, false, false, false, false, false, false, false, false, false, false, false, false, false, false, false, false, false, false] rfl rfl (any_of HT_.out (by kernel_rfl)) (fun _ _ _ h => h) (Or.inl ⟨by rfl, ?_⟩) ?_ ?_
              rotate_left
              · intro w'
                go_simp
                with_reducible rfl
              rotate_left
              · simp only [Act.put, PU, i64_w, i32_w]
                rfl
              refine pure_ (i := 5) (N := some 32) (v := ?_) (a' := ?_) #[true, false, false, true, true, true, false, false, false, false, false, false, false, false, false, false, false, false, false, false, false, false, false, false, false, false, false, false, false, false] rfl rfl (any_of HT_.out (by kernel_rfl)) (fun _ _ _ h => h) (Or.inl ⟨by rfl, ?_⟩) ?_ ?_
              rotate_left
              · intro w'
                go_simp
                with_reducible rfl
              rotate_left
              · simp only [Act.put, PU, i64_w, i32_w]
                rfl
              refine pure_ (i := 6) (N := some 33) (v := ?_) (a' := ?_) #[true, false, false, true, true, true, true, false, false, false, false, false, false, false, false, false, false, false, false, false, false, false, false, false, false, false, false, false, false, false] rfl rfl (any_of HT_.out (by kernel_rfl)) (fun _ _ _ h => h) (Or.inl ⟨by rfl, ?_⟩) ?_ ?_
              rotate_left
              · intro w'
                go_simp
                with_reducible rfl
              rotate_left
              · simp only [Act.put, PU, i64_w, i32_w]
                rfl
              refine take_ (i := 1) (N := some 28) (v := ?_) (a' := ?_) #[true, true, false, true, true, true, true, false, false, false, false, false, false, false, false, false, false, false, false, false, false, false, false, false, false, false, false, false, false, false] rfl rfl (take_ofW HT_.out HW_.out (by kernel_rfl)) (fun _ _ _ h => h) (Or.inl ⟨by rfl, ?_⟩) hHeld ?_ ?_
              rotate_left
              · rintro w' ⟨s0, s1, s2⟩
                go_simp
                with_reducible rfl
              rotate_left
              · simp only [Act.put, PU, i64_w, i32_w]
                rfl
              refine pure_ (i := 2) (N := some 29) (v := ?_) (a' := ?_) (tf 7 30) rfl rfl (any_of HT_.out (by kernel_rfl)) (fun _ _ _ h => h) (Or.inl ⟨by rfl, ?_⟩) ?_ ?_
              rotate_left
              · intro w'
                go_simp
                with_reducible rfl
              rotate_left
              · simp only [Act.put, PU, i64_w, i32_w]
                rfl
              refine pure_ (i := 7) (N := some 34) (v := ?_) (a' := ?_) (tf 8 30) rfl rfl (any_of HT_.out (by kernel_rfl)) (fun _ _ _ h => h) (Or.inl ⟨by rfl, ?_⟩) ?_ ?_
              rotate_left
              · intro w'
                go_simp
                with_reducible rfl
              rotate_left
              · simp only [Act.put, PU, i64_w, i32_w]
                rfl
              refine pure_ (i := 8) (N := some 35) (v := ?_) (a' := ?_) (tf 9 30) rfl rfl (any_of HT_.out (by kernel_rfl)) (fun _ _ _ h => h) (Or.inl ⟨by rfl, ?_⟩) ?_ ?_
              rotate_left
              · intro w'
                go_simp
                with_reducible rfl
              rotate_left
              · simp only [Act.put, PU, i64_w, i32_w]
                rfl
              refine pure_ (i := 9) (N := some 36) (v := ?_) (a' := ?_) (tf 10 30) rfl rfl (any_of HT_.out (by kernel_rfl)) (fun _ _ _ h => h) (Or.inl ⟨by rfl, ?_⟩) ?_ ?_
              rotate_left
              · intro w'
                go_simp
                with_reducible rfl
              rotate_left
              · simp only [Act.put, PU, i64_w, i32_w]
                rfl
              refine pure_ (i := 11) (N := some 38) (v := ?_) (a' := ?_) #[true, true, true, true, true, true, true, true, true, true, false, true, false, false, false, false, false, false, false, false, false, false, false, false, false, false, false, false, false, false] rfl rfl (any_of HT_.out (by kernel_rfl)) (fun _ _ _ h => h) (Or.inl ⟨by rfl, ?_⟩) ?_ ?_
              rotate_left
              · intro w'
                go_simp
                with_reducible rfl
              rotate_left
              · simp only [Act.put, PU, i64_w, i32_w]
                rfl
              refine pure_ (i := 12) (N := some 39) (v := ?_) (a' := ?_) #[true, true, true, true, true, true, true, true, true, true, false, true, true, false, false, false, false, false, false, false, false, false, false, false, false, false, false, false, false, false] rfl rfl (any_of HT_.out (by kernel_rfl)) (fun _ _ _ h => h) (Or.inl ⟨by rfl, ?_⟩) ?_ ?_
              rotate_left
              · intro w'
                go_simp
                with_reducible rfl
              rotate_left
              · simp only [Act.put, PU, i64_w, i32_w]
                rfl
              refine pure_ (i := 13) (N := some 40) (v := ?_) (a' := ?_) #[true, true, true, true, true, true, true, true, true, true, false, true, true, true, false, false, false, false, false, false, false, false, false, false, false, false, false, false, false, false] rfl rfl (any_of HT_.out (by kernel_rfl)) (fun _ _ _ h => h) (Or.inl ⟨by rfl, ?_⟩) ?_ ?_
              rotate_left
              · intro w'
                go_simp
                with_reducible rfl
              rotate_left
              · simp only [Act.put, PU, i64_w, i32_w]
                rfl
              refine pure_ (i := 14) (N := some 41) (v := ?_) (a' := ?_) #[true, true, true, true, true, true, true, true, true, true, false, true, true, true, true, false, false, false, false, false, false, false, false, false, false, false, false, false, false, false] rfl rfl (any_of HT_.out (by kernel_rfl)) (fun _ _ _ h => h) (Or.inl ⟨by rfl, ?_⟩) ?_ ?_
              rotate_left
              · intro w'
                go_simp
                with_reducible rfl
              rotate_left
              · simp only [Act.put, PU, i64_w, i32_w]
                rfl
              refine pure_ (i := 15) (N := some 42) (v := ?_) (a' := ?_) #[true, true, true, true, true, true, true, true, true, true, false, true, true, true, true, true, false, false, false, false, false, false, false, false, false, false, false, false, false, false] rfl rfl (any_of HT_.out (by kernel_rfl)) (fun _ _ _ h => h) (Or.inl ⟨by rfl, ?_⟩) ?_ ?_
              rotate_left
              · intro w'
                go_simp
                with_reducible rfl
              rotate_left
              · simp only [Act.put, PU, i64_w, i32_w]
                rfl
              refine take_ (i := 10) (N := some 37) (v := ?_) (a' := ?_) (tf 16 30) rfl rfl (take_ofW HT_.out HW_.out (by kernel_rfl)) (fun _ _ _ h => h) (Or.inl ⟨by rfl, ?_⟩) hHeld ?_ ?_
              rotate_left
              · rintro w' ⟨s0, s1, s2⟩
                go_simp
                with_reducible rfl
              rotate_left
              · simp only [Act.put, PU, i64_w, i32_w]
                rfl
              refine pure_ (i := 16) (N := some 43) (v := ?_) (a' := ?_) (tf 17 30) rfl rfl (any_of HT_.out (by kernel_rfl)) (fun _ _ _ h => h) (Or.inl ⟨by rfl, ?_⟩) ?_ ?_
              rotate_left
              · intro w'
                go_simp
                with_reducible rfl
              rotate_left
              · simp only [Act.put, PU, i64_w, i32_w]
                rfl
              refine pure_ (i := 17) (N := some 44) (v := ?_) (a' := ?_) (tf 18 30) rfl rfl (any_of HT_.out (by kernel_rfl)) (fun _ _ _ h => h) (Or.inl ⟨by rfl, ?_⟩) ?_ ?_
              rotate_left
              · intro w'
                go_simp
                with_reducible rfl
              rotate_left
              · simp only [Act.put, PU, i64_w, i32_w]
                rfl
              refine pure_ (i := 18) (N := some 45) (v := ?_) (a' := ?_) (tf 19 30) rfl rfl (any_of HT_.out (by kernel_rfl)) (fun _ _ _ h => h) (Or.inl ⟨by rfl, ?_⟩) ?_ ?_
              rotate_left
              · intro w'
                go_simp
                with_reducible rfl
              rotate_left
              · simp only [Act.put, PU, i64_w, i32_w]
                rfl
              refine pure_ (i := 19) (N := some 46) (v := undef) (a' := ?_) (tf 20 30) rfl rfl (any_of HT_.out (by kernel_rfl)) (fun _ _ _ h => h) (Or.inr ⟨by rfl, rfl⟩) ?_ ?_
              rotate_left
              · simp only [Act.put, PU, i64_w, i32_w]
                rfl
              refine pure_ (i := 20) (N := some 47) (v := undef) (a' := ?_) (tf 21 30) rfl rfl (any_of HT_.out (by kernel_rfl)) (fun _ _ _ h => h) (Or.inr ⟨by rfl, rfl⟩) ?_ ?_
              rotate_left
              · simp only [Act.put, PU, i64_w, i32_w]
                rfl
              refine pure_ (i := 21) (N := some 48) (v := undef) (a' := ?_) (tf 22 30) rfl rfl (any_of HT_.out (by kernel_rfl)) (fun _ _ _ h => h) (Or.inr ⟨by rfl, rfl⟩) ?_ ?_
              rotate_left
              · simp only [Act.put, PU, i64_w, i32_w]
                rfl
              refine pure_ (i := 22) (N := some 49) (v := undef) (a' := ?_) (tf 23 30) rfl rfl (any_of HT_.out (by kernel_rfl)) (fun _ _ _ h => h) (Or.inr ⟨by rfl, rfl⟩) ?_ ?_
              rotate_left
              · simp only [Act.put, PU, i64_w, i32_w]
                rfl
              refine pure_ (i := 23) (N := some 50) (v := undef) (a' := ?_) (tf 24 30) rfl rfl (any_of HT_.out (by kernel_rfl)) (fun _ _ _ h => h) (Or.inr ⟨by rfl, rfl⟩) ?_ ?_
              rotate_left
              · simp only [Act.put, PU, i64_w, i32_w]
                rfl
              refine pure_ (i := 24) (N := some 51) (v := undef) (a' := ?_) (tf 25 30) rfl rfl (any_of HT_.out (by kernel_rfl)) (fun _ _ _ h => h) (Or.inr ⟨by rfl, rfl⟩) ?_ ?_
              rotate_left
              · simp only [Act.put, PU, i64_w, i32_w]
                rfl
              refine pure_ (i := 25) (N := some 52) (v := undef) (a' := ?_) (tf 26 30) rfl rfl (any_of HT_.out (by kernel_rfl)) (fun _ _ _ h => h) (Or.inr ⟨by rfl, rfl⟩) ?_ ?_
              rotate_left
              · simp only [Act.put, PU, i64_w, i32_w]
                rfl
              refine pure_ (i := 26) (N := some 53) (v := undef) (a' := ?_) (tf 27 30) rfl rfl (any_of HT_.out (by kernel_rfl)) (fun _ _ _ h => h) (Or.inr ⟨by rfl, rfl⟩) ?_ ?_
              rotate_left
              · simp only [Act.put, PU, i64_w, i32_w]
                rfl
              refine pure_ (i := 27) (N := some 54) (v := undef) (a' := ?_) (tf 28 30) rfl rfl (any_of HT_.out (by kernel_rfl)) (fun _ _ _ h => h) (Or.inr ⟨by rfl, rfl⟩) ?_ ?_
              rotate_left
              · simp only [Act.put, PU, i64_w, i32_w]
                rfl
              refine pure_ (i := 28) (N := some 55) (v := undef) (a' := ?_) (tf 29 30) rfl rfl (any_of HT_.out (by kernel_rfl)) (fun _ _ _ h => h) (Or.inr ⟨by rfl, rfl⟩) ?_ ?_
              rotate_left
              · simp only [Act.put, PU, i64_w, i32_w]
                rfl
              refine pure_ (i := 29) (N := some 56) (v := ?_) (a' := ?_) (tf 30 30) rfl rfl (any_of HT_.out (by kernel_rfl)) (fun _ _ _ h => h) (Or.inl ⟨by rfl, ?_⟩) ?_ ?_
              rotate_left
              · intro w'
                go_simp
                with_reducible rfl
              rotate_left
              · simp only [Act.put, PU, i64_w, i32_w]
                rfl
              refine done_ (done_of HT_.out (by kernel_rfl)) ?_
              try go_wp2
              go_meet
              case rel => exact ⟨_, (true), (by first | (rw [HR_.out]; done) | rfl | (rw [HR_.out]; rfl) | (simp [HR_.out]; done) | (simp; done) | (simp [*]; done)), H', ⟨by have := HJ3.out; first | omega | exact Nat.le_refl _⟩, ⟨by (with_reducible repeat (first | apply Kd.R_alloc | apply Kd.R_drewN | apply Kd.R_drew)); exact HO_338001.out⟩, ⟨by (with_reducible repeat (first | apply Kd.R_alloc | apply Kd.R_drewN | apply Kd.R_drew)); exact HO343.out⟩, ⟨by (with_reducible repeat (first | refine blk_drewN ?_ _ | refine blk_drew ?_ | refine blk_alloc ?_ _)); exact BK337.out⟩, ⟨by (with_reducible repeat (first | refine blk_drewN ?_ _ | refine blk_drew ?_ | refine blk_alloc ?_ _)); exact BK345.out⟩, ⟨LG HB.out (G1 GE337.out (G1 GE345.out G0))⟩⟩
          · rw [if_neg c23] at H
            have c23b0 : ((t341.length : Int) == (ji22)) = false := beq_eq_false_iff_ne.mpr c23
            have c23b1 : ((t341.length : Int) != (ji22)) = true := bne_iff_ne.mpr c23
            (first | rw [c23b0] | (simp only [i64_w, i32_w]; rw [c23b0]) | skip)
            have H' := Aside0.mk H
            clear H
            try go_wp2
            have n0_ : Aside0 (Kd.R k36 36 (((w18.setCell ⟨gb345, 0, none⟩ (.int .i64 t340)).setCell ⟨gb345, 1, none⟩ (.slice Ao21 t341.length co21)).setCell ⟨gb345, 2, none⟩ (.int .i64 t344)) w.heap.size (fun k_ => some k_ ≠ (.slice Ao21 t341.length co21 : Value).ownBlock) (.slice Ao8 t332.length co8) t332) := ⟨by (with_reducible repeat (first | apply Kd.R_alloc | apply Kd.R_drewN | apply Kd.R_drew)); exact Kd.R_mono (Kd.R_mv (g := gb345) (Kd.R_types HO_338001.out BK345.out (by decide)) (fun _ hk => hk.2)) (fun _ hk => hk.1.2)⟩
            have n1_ : Aside0 (Kd.R k36 36 (((w18.setCell ⟨gb345, 0, none⟩ (.int .i64 t340)).setCell ⟨gb345, 1, none⟩ (.slice Ao21 t341.length co21)).setCell ⟨gb345, 2, none⟩ (.int .i64 t344)) w.heap.size (fun k_ => some k_ ≠ (.slice Ao8 t332.length co8 : Value).ownBlock) (.slice Ao21 t341.length co21) t341) := ⟨by (with_reducible repeat (first | apply Kd.R_alloc | apply Kd.R_drewN | apply Kd.R_drew)); exact Kd.R_mono (Kd.R_mv (g := gb345) (Kd.R_types HO343.out BK345.out (by decide)) (fun _ hk => hk.2)) (fun _ hk => hk.1.2)⟩
            have n2_ : Aside0 ((((w18.setCell ⟨gb345, 0, none⟩ (.int .i64 t340)).setCell ⟨gb345, 1, none⟩ (.slice Ao21 t341.length co21)).setCell ⟨gb345, 2, none⟩ (.int .i64 t344)).heap[gb337]? = some (.cells #[.int .i64 t331, .slice Ao8 t332.length co8, .int .i64 t335] 27 (0, 0))) := ⟨by exact BF BK337.out NB337_345.out⟩
            have n3_ : Aside0 ((((w18.setCell ⟨gb345, 0, none⟩ (.int .i64 t340)).setCell ⟨gb345, 1, none⟩ (.slice Ao21 t341.length co21)).setCell ⟨gb345, 2, none⟩ (.int .i64 t344)).heap[gb345]? = some (.cells #[.int .i64 t340, .slice Ao21 t341.length co21, .int .i64 t344] 27 (0, 0))) := ⟨by exact BP BK345.out (by rfl)⟩
            have n4_ : Aside0 (Below w.heap.size w (((w18.setCell ⟨gb345, 0, none⟩ (.int .i64 t340)).setCell ⟨gb345, 1, none⟩ (.slice Ao21 t341.length co21)).setCell ⟨gb345, 2, none⟩ (.int .i64 t344))) := ⟨LG HB.out (G1 GE337.out (G1 GE345.out G0))⟩
            (try clear HO_338001)
            (try clear HO343)
            (try clear BK337)
            (try clear BK345)
            (try clear HB)
            generalize (((w18.setCell ⟨gb345, 0, none⟩ (.int .i64 t340)).setCell ⟨gb345, 1, none⟩ (.slice Ao21 t341.length co21)).setCell ⟨gb345, 2, none⟩ (.int .i64 t344)) = w35 at n0_ n1_ n2_ n3_ n4_ ⊢
            have HO_338001 := n0_
            have HO343 := n1_
            have BK337 := n2_
            have BK345 := n3_
            have HB := n4_
            clear n0_ n1_ n2_ n3_ n4_
            have n0_ := Aside0.mk (Kd.R_drew HO_338001.out)
            have n1_ := Aside0.mk (Kd.R_drew HO343.out)
            have n2_ := Aside0.mk (blk_drew BK337.out)
            have n3_ := Aside0.mk (blk_drew BK345.out)
            have n4_ := Aside0.mk (below_drew1 HB.out)
            clear HO_338001
            clear HO343
            clear BK337
            clear BK345
            clear HB
            have HO_338001 := n0_
            have HO343 := n1_
            have BK337 := n2_
            have BK345 := n3_
            have HB := n4_
            clear n0_ n1_ n2_ n3_ n4_
            refine start_ (n := 30) (S := fun w' => w'.cell? ⟨gb345, 0, none⟩ = some (.int .i64 t340) ∧ w'.cell? ⟨gb345, 1, none⟩ = some (.slice Ao21 t341.length co21) ∧ w'.cell? ⟨gb345, 2, none⟩ = some (.int .i64 t344)) (ds := []) (tf 0 30) (by kernel_rfl) rfl rfl ⟨(blk_cell BK345.out 0).trans rfl, (blk_cell BK345.out 1).trans rfl, (blk_cell BK345.out 2).trans rfl⟩ (fun hHeld => ?_); refine with_tabW hopperlaw14_FeedLost.tab5 hopperlaw14_FeedLost.bits5 (fun HT_ HW_ => ?_)
            generalize w35.drew = w36 at HO_338001 HO343 BK337 BK345 HB hHeld ⊢
            refine pure_ (i := 0) (N := some 27) (v := ?_) (a' := ?_) (tf 1 30) rfl rfl (any_of HT_.out (by kernel_rfl)) (fun _ _ _ h => h) (Or.inl ⟨by rfl, ?_⟩) ?_ ?_
            rotate_left
            · intro w'
              go_simp
              with_reducible rfl
            rotate_left
            · simp only [Act.put, PU, i64_w, i32_w]
              rfl
            refine pure_ (i := 3) (N := some 30) (v := ?_) (a' := ?_) #[true, false, false, true, false, false, false, false, false, false, false, false, false, false, false, false, false, false, false, false, false, false, false, false, false, false, false, false, false, false] rfl rfl (any_of HT_.out (by kernel_rfl)) (fun _ _ _ h => h) (Or.inl ⟨by rfl, ?_⟩) ?_ ?_
            rotate_left
            · intro w'
              go_simp
              with_reducible rfl
            rotate_left
            · simp only [Act.put, PU, i64_w, i32_w]
              rfl
            refine pure_ (i := 4) (N := some 31) (v := ?_) (a' := ?_) #[true, false, false, true, true, false, false, false, false, false, false, false, false, false, false, false, false, false, false, false, false, false, false, false, false, false, false, false, false, false] rfl rfl (any_of HT_.out (by kernel_rfl)) (fun _ _ _ h => h) (Or.inl ⟨by rfl, ?_⟩) ?_ ?_
            rotate_left
            · intro w'
              go_simp
              with_reducible rfl
            rotate_left
            · simp only [Act.put, PU, i64_w, i32_w]
              rfl
            refine pure_ (i := 5) (N := some 32) (v := ?_) (a' := ?_) #[true, false, false, true, true, true, false, false, false, false, false, false, false, false, false, false, false, false, false, false, false, false, false, false, false, false, false, false, false, false] rfl rfl (any_of HT_.out (by kernel_rfl)) (fun _ _ _ h => h) (Or.inl ⟨by rfl, ?_⟩) ?_ ?_
            rotate_left
            · intro w'
              go_simp
              with_reducible rfl
            rotate_left
            · simp only [Act.put, PU, i64_w, i32_w]
              rfl
            refine pure_ (i := 6) (N := some 33) (v := ?_) (a' := ?_) #[true, false, false, true, true, true, true, false, false, false, false, false, false, false, false, false, false, false, false, false, false, false, false, false, false, false, false, false, false, false] rfl rfl (any_of HT_.out (by kernel_rfl)) (fun _ _ _ h => h) (Or.inl ⟨by rfl, ?_⟩) ?_ ?_
            rotate_left
            · intro w'
              go_simp
              with_reducible rfl
            rotate_left
            · simp only [Act.put, PU, i64_w, i32_w]
              rfl
            refine take_ (i := 1) (N := some 28) (v := ?_) (a' := ?_) #[true, true, false, true, true, true, true, false, false, false, false, false, false, false, false, false, false, false, false, false, false, false, false, false, false, false, false, false, false, false] rfl rfl (take_ofW HT_.out HW_.out (by kernel_rfl)) (fun _ _ _ h => h) (Or.inl ⟨by rfl, ?_⟩) hHeld ?_ ?_
            rotate_left
            · rintro w' ⟨s0, s1, s2⟩
              go_simp
              with_reducible rfl
            rotate_left
            · simp only [Act.put, PU, i64_w, i32_w]
              rfl
            refine pure_ (i := 2) (N := some 29) (v := ?_) (a' := ?_) (tf 7 30) rfl rfl (any_of HT_.out (by kernel_rfl)) (fun _ _ _ h => h) (Or.inl ⟨by rfl, ?_⟩) ?_ ?_
            rotate_left
            · intro w'
              go_simp
              with_reducible rfl
            rotate_left
            · simp only [Act.put, PU, i64_w, i32_w]
              rfl
            refine pure_ (i := 7) (N := some 34) (v := ?_) (a' := ?_) (tf 8 30) rfl rfl (any_of HT_.out (by kernel_rfl)) (fun _ _ _ h => h) (Or.inl ⟨by rfl, ?_⟩) ?_ ?_
            rotate_left
            · intro w'
              go_simp
              with_reducible rfl
            rotate_left
            · simp only [Act.put, PU, i64_w, i32_w]
              rfl
            refine pure_ (i := 8) (N := some 35) (v := ?_) (a' := ?_) (tf 9 30) rfl rfl (any_of HT_.out (by kernel_rfl)) (fun _ _ _ h => h) (Or.inl ⟨by rfl, ?_⟩) ?_ ?_
            rotate_left
            · intro w'
              go_simp
              with_reducible rfl
            rotate_left
            · simp only [Act.put, PU, i64_w, i32_w]
              rfl
            refine pure_ (i := 9) (N := some 36) (v := undef) (a' := ?_) (tf 10 30) rfl rfl (any_of HT_.out (by kernel_rfl)) (fun _ _ _ h => h) (Or.inr ⟨by rfl, rfl⟩) ?_ ?_
            rotate_left
            · simp only [Act.put, PU, i64_w, i32_w]
              rfl
            refine pure_ (i := 10) (N := some 37) (v := undef) (a' := ?_) (tf 11 30) rfl rfl (any_of HT_.out (by kernel_rfl)) (fun _ _ _ h => h) (Or.inr ⟨by rfl, rfl⟩) ?_ ?_
            rotate_left
            · simp only [Act.put, PU, i64_w, i32_w]
              rfl
            refine pure_ (i := 11) (N := some 38) (v := undef) (a' := ?_) (tf 12 30) rfl rfl (any_of HT_.out (by kernel_rfl)) (fun _ _ _ h => h) (Or.inr ⟨by rfl, rfl⟩) ?_ ?_
            rotate_left
            · simp only [Act.put, PU, i64_w, i32_w]
              rfl
            refine pure_ (i := 12) (N := some 39) (v := undef) (a' := ?_) (tf 13 30) rfl rfl (any_of HT_.out (by kernel_rfl)) (fun _ _ _ h => h) (Or.inr ⟨by rfl, rfl⟩) ?_ ?_
            rotate_left
            · simp only [Act.put, PU, i64_w, i32_w]
              rfl
            refine pure_ (i := 13) (N := some 40) (v := undef) (a' := ?_) (tf 14 30) rfl rfl (any_of HT_.out (by kernel_rfl)) (fun _ _ _ h => h) (Or.inr ⟨by rfl, rfl⟩) ?_ ?_
            rotate_left
            · simp only [Act.put, PU, i64_w, i32_w]
              rfl
            refine pure_ (i := 14) (N := some 41) (v := undef) (a' := ?_) (tf 15 30) rfl rfl (any_of HT_.out (by kernel_rfl)) (fun _ _ _ h => h) (Or.inr ⟨by rfl, rfl⟩) ?_ ?_
            rotate_left
            · simp only [Act.put, PU, i64_w, i32_w]
              rfl
            refine pure_ (i := 15) (N := some 42) (v := undef) (a' := ?_) (tf 16 30) rfl rfl (any_of HT_.out (by kernel_rfl)) (fun _ _ _ h => h) (Or.inr ⟨by rfl, rfl⟩) ?_ ?_
            rotate_left
            · simp only [Act.put, PU, i64_w, i32_w]
              rfl
            refine pure_ (i := 16) (N := some 43) (v := undef) (a' := ?_) (tf 17 30) rfl rfl (any_of HT_.out (by kernel_rfl)) (fun _ _ _ h => h) (Or.inr ⟨by rfl, rfl⟩) ?_ ?_
            rotate_left
            · simp only [Act.put, PU, i64_w, i32_w]
              rfl
            refine pure_ (i := 17) (N := some 44) (v := ?_) (a' := ?_) (tf 18 30) rfl rfl (any_of HT_.out (by kernel_rfl)) (fun _ _ _ h => h) (Or.inl ⟨by rfl, ?_⟩) ?_ ?_
            rotate_left
            · intro w'
              go_simp
              with_reducible rfl
            rotate_left
            · simp only [Act.put, PU, i64_w, i32_w]
              rfl
            refine pure_ (i := 18) (N := some 45) (v := ?_) (a' := ?_) (tf 19 30) rfl rfl (any_of HT_.out (by kernel_rfl)) (fun _ _ _ h => h) (Or.inl ⟨by rfl, ?_⟩) ?_ ?_
            rotate_left
            · intro w'
              go_simp
              with_reducible rfl
            rotate_left
            · simp only [Act.put, PU, i64_w, i32_w]
              rfl
            refine pure_ (i := 19) (N := some 46) (v := undef) (a' := ?_) (tf 20 30) rfl rfl (any_of HT_.out (by kernel_rfl)) (fun _ _ _ h => h) (Or.inr ⟨by rfl, rfl⟩) ?_ ?_
            rotate_left
            · simp only [Act.put, PU, i64_w, i32_w]
              rfl
            refine pure_ (i := 20) (N := some 47) (v := undef) (a' := ?_) (tf 21 30) rfl rfl (any_of HT_.out (by kernel_rfl)) (fun _ _ _ h => h) (Or.inr ⟨by rfl, rfl⟩) ?_ ?_
            rotate_left
            · simp only [Act.put, PU, i64_w, i32_w]
              rfl
            refine pure_ (i := 21) (N := some 48) (v := undef) (a' := ?_) (tf 22 30) rfl rfl (any_of HT_.out (by kernel_rfl)) (fun _ _ _ h => h) (Or.inr ⟨by rfl, rfl⟩) ?_ ?_
            rotate_left
            · simp only [Act.put, PU, i64_w, i32_w]
              rfl
            refine pure_ (i := 22) (N := some 49) (v := undef) (a' := ?_) (tf 23 30) rfl rfl (any_of HT_.out (by kernel_rfl)) (fun _ _ _ h => h) (Or.inr ⟨by rfl, rfl⟩) ?_ ?_
            rotate_left
            · simp only [Act.put, PU, i64_w, i32_w]
              rfl
            refine pure_ (i := 23) (N := some 50) (v := undef) (a' := ?_) (tf 24 30) rfl rfl (any_of HT_.out (by kernel_rfl)) (fun _ _ _ h => h) (Or.inr ⟨by rfl, rfl⟩) ?_ ?_
            rotate_left
            · simp only [Act.put, PU, i64_w, i32_w]
              rfl
            refine pure_ (i := 24) (N := some 51) (v := undef) (a' := ?_) (tf 25 30) rfl rfl (any_of HT_.out (by kernel_rfl)) (fun _ _ _ h => h) (Or.inr ⟨by rfl, rfl⟩) ?_ ?_
            rotate_left
            · simp only [Act.put, PU, i64_w, i32_w]
              rfl
            refine pure_ (i := 25) (N := some 52) (v := undef) (a' := ?_) (tf 26 30) rfl rfl (any_of HT_.out (by kernel_rfl)) (fun _ _ _ h => h) (Or.inr ⟨by rfl, rfl⟩) ?_ ?_
            rotate_left
            · simp only [Act.put, PU, i64_w, i32_w]
              rfl
            refine pure_ (i := 26) (N := some 53) (v := undef) (a' := ?_) (tf 27 30) rfl rfl (any_of HT_.out (by kernel_rfl)) (fun _ _ _ h => h) (Or.inr ⟨by rfl, rfl⟩) ?_ ?_
            rotate_left
            · simp only [Act.put, PU, i64_w, i32_w]
              rfl
            refine pure_ (i := 27) (N := some 54) (v := undef) (a' := ?_) (tf 28 30) rfl rfl (any_of HT_.out (by kernel_rfl)) (fun _ _ _ h => h) (Or.inr ⟨by rfl, rfl⟩) ?_ ?_
            rotate_left
            · simp only [Act.put, PU, i64_w, i32_w]
              rfl
            refine pure_ (i := 28) (N := some 55) (v := undef) (a' := ?_) (tf 29 30) rfl rfl (any_of HT_.out (by kernel_rfl)) (fun _ _ _ h => h) (Or.inr ⟨by rfl, rfl⟩) ?_ ?_
            rotate_left
            · simp only [Act.put, PU, i64_w, i32_w]
              rfl
            refine pure_ (i := 29) (N := some 56) (v := ?_) (a' := ?_) (tf 30 30) rfl rfl (any_of HT_.out (by kernel_rfl)) (fun _ _ _ h => h) (Or.inl ⟨by rfl, ?_⟩) ?_ ?_
            rotate_left
            · intro w'
              go_simp
              with_reducible rfl
            rotate_left
            · simp only [Act.put, PU, i64_w, i32_w]
              rfl
            refine done_ (done_of HT_.out (by kernel_rfl)) ?_
            try go_wp2
            go_meet
            case rel => exact ⟨_, (true), (by first | (rw [HR_.out]; done) | rfl | (rw [HR_.out]; rfl) | (simp [HR_.out]; done) | (simp; done) | (simp [*]; done)), H', ⟨by have := HJ3.out; first | omega | exact Nat.le_refl _⟩, ⟨by (with_reducible repeat (first | apply Kd.R_alloc | apply Kd.R_drewN | apply Kd.R_drew)); exact HO_338001.out⟩, ⟨by (with_reducible repeat (first | apply Kd.R_alloc | apply Kd.R_drewN | apply Kd.R_drew)); exact HO343.out⟩, ⟨by (with_reducible repeat (first | refine blk_drewN ?_ _ | refine blk_drew ?_ | refine blk_alloc ?_ _)); exact BK337.out⟩, ⟨by (with_reducible repeat (first | refine blk_drewN ?_ _ | refine blk_drew ?_ | refine blk_alloc ?_ _)); exact BK345.out⟩, ⟨LG HB.out (G1 GE337.out (G1 GE345.out G0))⟩⟩
        case rest =>
          clear HC15
          try clear c1
          try clear c2
          try clear p2
          try clear c18
          try clear c23
          try clear c23b0
          try clear c23b1
          try clear c25
          try clear c25b0
          try clear c25b1
          try clear c27
          try clear c28
          obtain ⟨kq, x56_14, rfl, HA, HJ14, HO_338001, HO_346001, BK337, BK345, HB⟩ := hcut
          cases kq with
          | zero => exact absurd HA.out (by simp [hopperlaw14_FeedLost.j1])
          | succ kj14 =>
            have H := HA.out
            clear HA
            simp only [hopperlaw14_FeedLost.j1] at H
            by_cases c37 : x56_14 = true
            · subst c37
              have H1 : (some false) = some true := by rw [if_pos rfl] at H; exact H
              clear H
              have H := H1
              clear H1
              exact absurd H (by simp)
            · replace c37 := Bool.eq_false_iff.mpr c37
              subst c37
              have H1 : ((feed_All.f kj14 t340 t341 t344).bind fun bt351 => (if 0 ≤ (mn 1 (l1.length : Int)) then (if (mn 1 (l1.length : Int)) ≤ (l1.length : Int) then ((feed_Tell.f kj14 bt351.1 bt351.2.1 bt351.2.2.1 (l1.take ((mn 1 (l1.length : Int)) : Int).toNat)).bind fun bt364 => (if (bt351.2.1.length : Int) = 0 then (if bt351.2.2.1 = 0 then (if (bt351.2.2.2.length : Int) = (wrap64 ((mn a0 (l1.length : Int)) + (mn 1 t344))) then (if (bt364.2.1.length : Int) = (mn 1 (l1.length : Int)) then ((hopperlaw14_live.f kj14).bind fun t370 => (some t370)) else (some false)) else (some false)) else (some false)) else (some false))) else (none)) else (none))) = some true := by rw [if_neg (show ¬ (false = true) by decide)] at H; exact H
              clear H
              have H := H1
              clear H1
              replace H := Option.bind_eq_some_iff.mp H
              obtain ⟨⟨t351, t352, t355, t356⟩, A380, H⟩ := H
              try dsimp only at H
              have A38 := Aside0.mk A380
              clear A380
              obtain ⟨ji39, hji39⟩ : ∃ j_ : Int, (mn 1 (l1.length : Int)) = j_ := ⟨_, rfl⟩
              replace H : (if 0 ≤ (ji39) then (if (ji39) ≤ (l1.length : Int) then ((feed_Tell.f kj14 t351 t352 t355 (l1.take ((ji39) : Int).toNat)).bind fun bt364 => (if (t352.length : Int) = 0 then (if t355 = 0 then (if (t356.length : Int) = (wrap64 ((mn a0 (l1.length : Int)) + (mn 1 t344))) then (if (bt364.2.1.length : Int) = (ji39) then ((hopperlaw14_live.f kj14).bind fun t370 => (some t370)) else (some false)) else (some false)) else (some false)) else (some false))) else (none)) else (none)) = some true := by first | (rw [hji39] at H; exact H) | (simp only [hji39] at H ⊢; exact H)
              (try rw [hji39] at A38)
              have hji39_ : (if (l1.length : Int) < 1 then (l1.length : Int) else 1) = ji39 := hji39
              by_cases c40 : 0 ≤ (ji39)
              rotate_left
              · rw [if_neg c40] at H
                exact absurd H (by simp)
              rw [if_pos c40] at H
              have c40b0 := eq_true c40
              have c40b1 : decide (0 ≤ (ji39)) = true := decide_eq_true c40
              clear c40
              by_cases c41 : (ji39) ≤ (l1.length : Int)
              rotate_left
              · rw [if_neg c41] at H
                exact absurd H (by simp)
              rw [if_pos c41] at H
              have c41b0 := eq_true c41
              have c41b1 : decide ((ji39) ≤ (l1.length : Int)) = true := decide_eq_true c41
              clear c41
              obtain ⟨y360, hy360⟩ : ∃ y_ : List (S36), y_ = (l1.take ((ji39) : Int).toNat) := ⟨_, rfl⟩
              replace H : ((feed_Tell.f kj14 t351 t352 t355 y360).bind fun bt364 => (if (t352.length : Int) = 0 then (if t355 = 0 then (if (t356.length : Int) = (wrap64 ((mn a0 (l1.length : Int)) + (mn 1 t344))) then (if (bt364.2.1.length : Int) = (ji39) then ((hopperlaw14_live.f kj14).bind fun t370 => (some t370)) else (some false)) else (some false)) else (some false)) else (some false))) = some true := by first | (rw [hy360]; with_reducible exact H) | (have H2_ := (Option.bind_some _ _).symm.trans H; rw [hy360]; with_reducible exact H2_) | (have H2_ := (Option.bind_some _ _).symm.trans H; with_reducible exact H2_) | with_reducible exact H | (rw [hy360]; exact H) | exact H
              have Ny360 := Aside0.mk hy360
              clear hy360
              replace H := Option.bind_eq_some_iff.mp H
              obtain ⟨⟨t364, t365, t368⟩, A420, H⟩ := H
              try dsimp only at H
              have A42 := Aside0.mk A420
              clear A420
              by_cases c43 : (t352.length : Int) = 0
              rotate_left
              · rw [if_neg c43] at H
                have c43b0 : ((t352.length : Int) == 0) = false := beq_eq_false_iff_ne.mpr c43
                have c43b1 : ((t352.length : Int) != 0) = true := bne_iff_ne.mpr c43
                have c43b2 : ¬ (t352 = []) := fun h_ => c43 (by rw [h_]; rfl)
                exact absurd H (by simp)
              rw [if_pos c43] at H
              have c43b0 : ((t352.length : Int) == 0) = true := beq_iff_eq.mpr c43
              have c43b1 : ((t352.length : Int) != 0) = false := bne_eq_false_iff_eq.mpr c43
              clear c43
              by_cases c44 : t355 = 0
              rotate_left
              · rw [if_neg c44] at H
                have c44b0 : (t355 == 0) = false := beq_eq_false_iff_ne.mpr c44
                have c44b1 : (t355 != 0) = true := bne_iff_ne.mpr c44
                exact absurd H (by simp)
              rw [if_pos c44] at H
              have c44b0 : (t355 == 0) = true := beq_iff_eq.mpr c44
              have c44b1 : (t355 != 0) = false := bne_eq_false_iff_eq.mpr c44
              clear c44
              obtain ⟨ji45, hji45⟩ : ∃ j_ : Int, (mn a0 (l1.length : Int)) = j_ := ⟨_, rfl⟩
              replace H : (if (t356.length : Int) = (wrap64 ((ji45) + (mn 1 t344))) then (if (t365.length : Int) = (ji39) then ((hopperlaw14_live.f kj14).bind fun t370 => (some t370)) else (some false)) else (some false)) = some true := by first | (rw [hji45] at H; exact H) | (simp only [hji45] at H ⊢; exact H)
              (try rw [hji45] at A38)
              (try rw [hji45] at A42)
              have hji45_ : (if (l1.length : Int) < a0 then (l1.length : Int) else a0) = ji45 := hji45
              obtain ⟨ji46, hji46⟩ : ∃ j_ : Int, (mn 1 t344) = j_ := ⟨_, rfl⟩
              replace H : (if (t356.length : Int) = (wrap64 ((ji45) + (ji46))) then (if (t365.length : Int) = (ji39) then ((hopperlaw14_live.f kj14).bind fun t370 => (some t370)) else (some false)) else (some false)) = some true := by first | (rw [hji46] at H; exact H) | (simp only [hji46] at H ⊢; exact H)
              (try rw [hji46] at A38)
              (try rw [hji46] at A42)
              have hji46_ : (if t344 < 1 then t344 else 1) = ji46 := hji46
              by_cases c47 : (t356.length : Int) = (wrap64 ((ji45) + (ji46)))
              rotate_left
              · rw [if_neg c47] at H
                have c47b0 : ((t356.length : Int) == (wrap64 ((ji45) + (ji46)))) = false := beq_eq_false_iff_ne.mpr c47
                have c47b1 : ((t356.length : Int) != (wrap64 ((ji45) + (ji46)))) = true := bne_iff_ne.mpr c47
                exact absurd H (by simp)
              rw [if_pos c47] at H
              have c47b0 : ((t356.length : Int) == (wrap64 ((ji45) + (ji46)))) = true := beq_iff_eq.mpr c47
              have c47b1 : ((t356.length : Int) != (wrap64 ((ji45) + (ji46)))) = false := bne_eq_false_iff_eq.mpr c47
              clear c47
              by_cases c49 : (t365.length : Int) = (ji39)
              rotate_left
              · rw [if_neg c49] at H
                have c49b0 : ((t365.length : Int) == (ji39)) = false := beq_eq_false_iff_ne.mpr c49
                have c49b1 : ((t365.length : Int) != (ji39)) = true := bne_iff_ne.mpr c49
                exact absurd H (by simp)
              rw [if_pos c49] at H
              have c49b0 : ((t365.length : Int) == (ji39)) = true := beq_iff_eq.mpr c49
              have c49b1 : ((t365.length : Int) != (ji39)) = false := bne_eq_false_iff_eq.mpr c49
              clear c49
              replace H := Option.bind_eq_some_iff.mp H
              obtain ⟨t370, A500, H⟩ := H
              try dsimp only at H
              have A50 := Aside0.mk A500
              clear A500
              have HR_ := Aside0.mk (Option.some.inj H)
              clear H
              have hnb51 := NB345_337.out
              have hnc51 := NB337_345.out
              have hcz52_0 : wc.cell? ⟨gb345, 0, none⟩ = some (.int .i64 t340) := (blk_cell BK345.out 0).trans rfl
              have hcz52_1 : wc.cell? ⟨gb345, 1, none⟩ = some (.slice Ao21 t341.length co21) := (blk_cell BK345.out 1).trans rfl
              have hcz52_2 : wc.cell? ⟨gb345, 2, none⟩ = some (.int .i64 t344) := (blk_cell BK345.out 2).trans rfl
              have hfz52_0 := blk_frozen BK345.out 0
              have hfz52_1 := blk_frozen BK345.out 1
              have hfz52_2 := blk_frozen BK345.out 2
              try go_wp2_with (first | ((with_reducible refine gate_callee (f := 15) rfl ?_); refine goesL_ (some 59) rfl rfl Try.func15 (by kernel_rfl) rfl #[.agg #[.int .i64 t340, .slice Ao21 t341.length co21, .int .i64 t344]] rfl (by (try simp only [List.map_toArray, List.map_cons, List.map_nil]); first | done | rfl | (simp only [List.length_drop, List.length_take]; rfl)) ?_; (with_reducible refine (feed_All.calls kj14 t340 (fun k_ => some k_ = (.slice Ao21 t341.length co21 : Value).ownBlock) _ _ t341 t344 t351 t352 t355 t356 _ ?side1 A38.out).mono ?_); (case side1 => exact Kd.R_V (Kd.R_tight rfl (Kd.R_types (Kd.R_types (HO_346001.out) BK337.out (by decide)) BK345.out (by decide)))); rintro e w53 ⟨v353, v357, rfl, ho0, ho1, hb⟩; refine ⟨_, rfl, ?_⟩; have HO354 := Aside0.mk (Kd.V_lower (Kd.V_mono (ok' := fun k_ => some k_ ≠ (v357 : Value).ownBlock ∧ some k_ ≠ (.slice Ao8 t332.length co8 : Value).ownBlock ∧ k_ ≠ gb337 ∧ k_ ≠ gb345) ho0 (fun k_ hk_ => ⟨hk_.2, Or.elim hk_.1 (fun hs_ => ((Kd.R_types (Kd.R_types (HO_346001.out) BK337.out (by decide)) BK345.out (by decide)).1 k_ hs_.symm).1.1) (fun hn_ => (Kd.fresh' (Kd.R_lt (Kd.RA HO_338001.out)) k_ hn_)), Or.elim hk_.1 (fun hs_ => ((Kd.R_types (Kd.R_types (HO_346001.out) BK337.out (by decide)) BK345.out (by decide)).1 k_ hs_.symm).1.2) (fun hn_ => (Kd.freshB (g := gb337) (o := .cells #[.int .i64 t331, .slice Ao8 t332.length co8, .int .i64 t335] 27 (0, 0)) (BA BK337.out) k_ hn_)), Or.elim hk_.1 (fun hs_ => ((Kd.R_types (Kd.R_types (HO_346001.out) BK337.out (by decide)) BK345.out (by decide)).1 k_ hs_.symm).2) (fun hn_ => (Kd.freshB (g := gb345) (o := .cells #[.int .i64 t340, .slice Ao21 t341.length co21, .int .i64 t344] 27 (0, 0)) (BA BK345.out) k_ hn_))⟩)) (below_size (LG HB.out (G1 GE337.out (G1 GE345.out G0))))); have HO358 := Aside0.mk (Kd.R_lower (Kd.R_new' (Kd.R_new' (Kd.R_mono (ok' := fun k_ => True) ho1 (fun _ hk_ => trivial)) (Kd.R_lt (Kd.RA HO_338001.out))) (Kd.R_lt (Kd.RA HO_346001.out))) (below_size (LG HB.out (G1 GE337.out (G1 GE345.out G0))))); replace HO_338001 := Aside0.mk (Kd.R_elder' (Kd.RA HO_338001.out) (Kd.R_base ho1) hb); replace HO_346001 := Aside0.mk (Kd.R_elder' (Kd.RA HO_346001.out) (Kd.R_base ho1) hb); replace BK337 := Aside0.mk (blk_below (BA BK337.out) hb); replace BK345 := Aside0.mk (blk_below (BA BK345.out) hb); replace HB := Aside0.mk (below_step (LG HB.out (G1 GE337.out (G1 GE345.out G0))) hb); (try clear hb); (try clear hb2); (try clear hk); (try clear hi); (try clear ho0); (try clear ho1)) | ((with_reducible refine gate_dst (N := 8) rfl ?_); (try (refine gate_guard (by rfl) ?_; dsimp only)); refine box_event ?hg (N := 8) ?hd (cs := #[.int .i64 0, .slice none 0 0, .int .i64 0]) (t := 27) ?hr ?_; (case hd => rfl); (case hg => rfl); (case hr => first | (go_simp; done) | (go_simp; rfl)); intro gb359 hg w54 hbox hb; replace HO_338001 := Aside0.mk (Kd.R_below (Kd.RA HO_338001.out) hb); replace HO_346001 := Aside0.mk (Kd.R_below (Kd.RA HO_346001.out) hb); replace HO354 := Aside0.mk (Kd.V_below (Kd.V_elderB (Kd.VA HO354.out) gb359 (Nat.le_of_eq hg.symm)) hb); replace HO358 := Aside0.mk (Kd.R_below (Kd.RA HO358.out) hb); have BK359 := Aside0.mk (hbox); have GE359 := Aside0.mk (ge1 hg (LA HB.out)); replace HB := Aside0.mk (below_step (LA HB.out) hb); have NB337_359 := Aside0.mk ((by rw [hg]; exact Nat.ne_of_lt (blk_lt (g := gb337) (o := .cells #[.int .i64 t331, .slice Ao8 t332.length co8, .int .i64 t335] 27 (0, 0)) (BA BK337.out)) : gb337 ≠ gb359)); have NB359_337 := Aside0.mk ((by rw [hg]; exact Nat.ne_of_gt (blk_lt (g := gb337) (o := .cells #[.int .i64 t331, .slice Ao8 t332.length co8, .int .i64 t335] 27 (0, 0)) (BA BK337.out)) : gb359 ≠ gb337)); replace BK337 := Aside0.mk (blk_below (BA BK337.out) hb); have NB345_359 := Aside0.mk ((by rw [hg]; exact Nat.ne_of_lt (blk_lt (g := gb345) (o := .cells #[.int .i64 t340, .slice Ao21 t341.length co21, .int .i64 t344] 27 (0, 0)) (BA BK345.out)) : gb345 ≠ gb359)); have NB359_345 := Aside0.mk ((by rw [hg]; exact Nat.ne_of_gt (blk_lt (g := gb345) (o := .cells #[.int .i64 t340, .slice Ao21 t341.length co21, .int .i64 t344] 27 (0, 0)) (BA BK345.out)) : gb359 ≠ gb345)); replace BK345 := Aside0.mk (blk_below (BA BK345.out) hb); clear hb hbox hg; have hnb55 := NB359_337.out; have hnc55 := NB337_359.out; have hnb56 := NB359_345.out; have hnc56 := NB345_359.out; obtain ⟨hcz57_0, hcz57_1, hcz57_2, hfz57_0, hfz57_1, hfz57_2⟩ := cz3 BK359.out; obtain ⟨Ao58, co58, eo58⟩ := Kd.V_slice HO354.out; subst eo58))
              have n0_ : Aside0 (Kd.R k36 36 (((w54.setCell ⟨gb359, 0, none⟩ (.int .i64 t351)).setCell ⟨gb359, 1, none⟩ (.slice Ao58 t352.length co58)).setCell ⟨gb359, 2, none⟩ (.int .i64 t355)) w.heap.size (fun k_ => some k_ ≠ (.slice Ao21 t341.length co21 : Value).ownBlock ∧ some k_ ≠ (v357 : Value).ownBlock) (.slice Ao8 t332.length co8) t332) := ⟨by (with_reducible repeat (first | apply Kd.R_alloc | apply Kd.R_drewN | apply Kd.R_drew)); exact Kd.R_mono (Kd.R_mv (g := gb359) (Kd.R_types HO_338001.out BK359.out (by decide)) (fun _ hk => hk.2)) (fun _ hk => ⟨hk.1.1, hk.1.2⟩)⟩
              have n1_ : Aside0 (Kd.R k36 36 (((w54.setCell ⟨gb359, 0, none⟩ (.int .i64 t351)).setCell ⟨gb359, 1, none⟩ (.slice Ao58 t352.length co58)).setCell ⟨gb359, 2, none⟩ (.int .i64 t355)) w.heap.size (fun k_ => some k_ ≠ (.slice Ao8 t332.length co8 : Value).ownBlock ∧ some k_ ≠ (v357 : Value).ownBlock) (.slice Ao21 t341.length co21) t341) := ⟨by (with_reducible repeat (first | apply Kd.R_alloc | apply Kd.R_drewN | apply Kd.R_drew)); exact Kd.R_mono (Kd.R_mv (g := gb359) (Kd.R_types HO_346001.out BK359.out (by decide)) (fun _ hk => hk.2)) (fun _ hk => ⟨hk.1.1, hk.1.2⟩)⟩
              have n2_ : Aside0 (Kd.V k36 36 (((w54.setCell ⟨gb359, 0, none⟩ (.int .i64 t351)).setCell ⟨gb359, 1, none⟩ (.slice Ao58 t352.length co58)).setCell ⟨gb359, 2, none⟩ (.int .i64 t355)) w.heap.size (fun k_ => some k_ ≠ (.slice Ao8 t332.length co8 : Value).ownBlock ∧ some k_ ≠ (v357 : Value).ownBlock ∧ k_ ≠ gb337 ∧ k_ ≠ gb345 ∧ k_ ≠ gb359) (.slice Ao58 t352.length co58) t352) := ⟨by (with_reducible repeat (first | apply Kd.V_alloc | apply Kd.V_drewN | apply Kd.V_drew)); exact Kd.V_mono (Kd.V_mv (g := gb359) (Kd.V_mono HO354.out (fun k_ hk => (⟨hk, hk.2⟩ : _ ∧ k_ ≠ gb359))) (fun _ hk => hk.2)) (fun _ hk => ⟨hk.1.1.2.1, ⟨hk.1.1.1, ⟨hk.1.1.2.2.1, ⟨hk.1.1.2.2.2, hk.1.2⟩⟩⟩⟩)⟩
              have n3_ : Aside0 (Kd.R k36 36 (((w54.setCell ⟨gb359, 0, none⟩ (.int .i64 t351)).setCell ⟨gb359, 1, none⟩ (.slice Ao58 t352.length co58)).setCell ⟨gb359, 2, none⟩ (.int .i64 t355)) w.heap.size (fun k_ => some k_ ≠ (.slice Ao8 t332.length co8 : Value).ownBlock ∧ some k_ ≠ (.slice Ao21 t341.length co21 : Value).ownBlock) v357 t356) := ⟨by (with_reducible repeat (first | apply Kd.R_alloc | apply Kd.R_drewN | apply Kd.R_drew)); exact Kd.R_mono (Kd.R_mv (g := gb359) (Kd.R_types HO358.out BK359.out (by decide)) (fun _ hk => hk.2)) (fun _ hk => ⟨hk.1.1.2, hk.1.2⟩)⟩
              have n4_ : Aside0 ((((w54.setCell ⟨gb359, 0, none⟩ (.int .i64 t351)).setCell ⟨gb359, 1, none⟩ (.slice Ao58 t352.length co58)).setCell ⟨gb359, 2, none⟩ (.int .i64 t355)).heap[gb337]? = some (.cells #[.int .i64 t331, .slice Ao8 t332.length co8, .int .i64 t335] 27 (0, 0))) := ⟨by exact BF BK337.out NB337_359.out⟩
              have n5_ : Aside0 ((((w54.setCell ⟨gb359, 0, none⟩ (.int .i64 t351)).setCell ⟨gb359, 1, none⟩ (.slice Ao58 t352.length co58)).setCell ⟨gb359, 2, none⟩ (.int .i64 t355)).heap[gb345]? = some (.cells #[.int .i64 t340, .slice Ao21 t341.length co21, .int .i64 t344] 27 (0, 0))) := ⟨by exact BF BK345.out NB345_359.out⟩
              have n6_ : Aside0 ((((w54.setCell ⟨gb359, 0, none⟩ (.int .i64 t351)).setCell ⟨gb359, 1, none⟩ (.slice Ao58 t352.length co58)).setCell ⟨gb359, 2, none⟩ (.int .i64 t355)).heap[gb359]? = some (.cells #[.int .i64 t351, .slice Ao58 t352.length co58, .int .i64 t355] 27 (0, 0))) := ⟨by exact BP BK359.out (by rfl)⟩
              have n7_ : Aside0 (Below w.heap.size w (((w54.setCell ⟨gb359, 0, none⟩ (.int .i64 t351)).setCell ⟨gb359, 1, none⟩ (.slice Ao58 t352.length co58)).setCell ⟨gb359, 2, none⟩ (.int .i64 t355))) := ⟨LG HB.out (G1 GE337.out (G1 GE345.out (G1 GE359.out G0)))⟩
              (try clear HO_338001)
              (try clear HO_346001)
              (try clear HO354)
              (try clear HO358)
              (try clear BK337)
              (try clear BK345)
              (try clear BK359)
              (try clear HB)
              generalize (((w54.setCell ⟨gb359, 0, none⟩ (.int .i64 t351)).setCell ⟨gb359, 1, none⟩ (.slice Ao58 t352.length co58)).setCell ⟨gb359, 2, none⟩ (.int .i64 t355)) = w59 at n0_ n1_ n2_ n3_ n4_ n5_ n6_ n7_ ⊢
              have HO_338001 := n0_
              have HO_346001 := n1_
              have HO354 := n2_
              have HO358 := n3_
              have BK337 := n4_
              have BK345 := n5_
              have BK359 := n6_
              have HB := n7_
              clear n0_ n1_ n2_ n3_ n4_ n5_ n6_ n7_
              have n0_ := Aside0.mk (Kd.R_drew HO_338001.out)
              have n1_ := Aside0.mk (Kd.R_drew HO_346001.out)
              have n2_ := Aside0.mk (Kd.V_drew HO354.out)
              have n3_ := Aside0.mk (Kd.R_drew HO358.out)
              have n4_ := Aside0.mk (blk_drew BK337.out)
              have n5_ := Aside0.mk (blk_drew BK345.out)
              have n6_ := Aside0.mk (blk_drew BK359.out)
              have n7_ := Aside0.mk (below_drew1 HB.out)
              clear HO_338001
              clear HO_346001
              clear HO354
              clear HO358
              clear BK337
              clear BK345
              clear BK359
              clear HB
              have HO_338001 := n0_
              have HO_346001 := n1_
              have HO354 := n2_
              have HO358 := n3_
              have BK337 := n4_
              have BK345 := n5_
              have BK359 := n6_
              have HB := n7_
              clear n0_ n1_ n2_ n3_ n4_ n5_ n6_ n7_
              have q61 : ((ji39) : Int) ≤ ((l1.length : Int) : Int) := of_decide_eq_true (by first | (with_reducible assumption) | assumption)
              obtain ⟨i061, hi061, _, hsz61, _⟩ := info_parts info36
              have hroom61 : l1.length ≤ c1 := HC1.out
              have hC61 : Kd.C k36 _ A1 l1.length l1 := HR1.out
              have hcut61 := cut_to (P := Try.prog) 22 36 .i64 Try.underlying22 hi061 A1 l1.length c1 (ji39) (of_decide_eq_true (by first | (with_reducible assumption) | assumption)) q61 hroom61
              have hr61 := Kd.C_take (m := ((ji39) : Int).toNat) hC61 (by omega)
              have hy61 : y360.length = ((ji39) : Int).toNat := (by rw [Ny360.out, List.length_take]; omega)
              rw [← Ny360.out] at hr61
              rw [← hy61] at hcut61
              have HR363 := Aside0.mk hr61
              have HC363 := Aside0.mk (show y360.length ≤ c1 from by omega)
              clear hr61 hC61 hroom61 hi061 hsz61
              have KY61 := Aside0.mk hy61
              clear hy61
              replace q61 := eq_true q61
              refine start_ (n := 9) (S := fun w' => w'.cell? ⟨gb359, 0, none⟩ = some (.int .i64 t351) ∧ w'.cell? ⟨gb359, 1, none⟩ = some (.slice Ao58 t352.length co58) ∧ w'.cell? ⟨gb359, 2, none⟩ = some (.int .i64 t355)) (ds := []) (tf 0 9) (by kernel_rfl) rfl rfl ⟨(blk_cell BK359.out 0).trans rfl, (blk_cell BK359.out 1).trans rfl, (blk_cell BK359.out 2).trans rfl⟩ (fun hHeld => ?_); refine with_tabW hopperlaw14_FeedLost.tab8 hopperlaw14_FeedLost.bits8 (fun HT_ HW_ => ?_)
              generalize w59.drew = w60 at HO_338001 HO_346001 HO354 HO358 BK337 BK345 BK359 HB HR363 hHeld ⊢
              refine pure_ (i := 1) (N := some 63) (v := ?_) (a' := ?_) #[false, true, false, false, false, false, false, false, false] rfl rfl (any_of HT_.out (by kernel_rfl)) (fun _ _ _ h => h) (Or.inl ⟨by rfl, ?_⟩) ?_ ?_
              rotate_left
              · intro w'
                go_simp
                with_reducible rfl
              rotate_left
              · simp only [Act.put, PU, i64_w, i32_w]
                rfl
              refine pure_ (i := 2) (N := some 64) (v := ?_) (a' := ?_) #[false, true, true, false, false, false, false, false, false] rfl rfl (any_of HT_.out (by kernel_rfl)) (fun _ _ _ h => h) (Or.inl ⟨by rfl, ?_⟩) ?_ ?_
              rotate_left
              · intro w'
                go_simp
                with_reducible rfl
              rotate_left
              · simp only [Act.put, PU, i64_w, i32_w]
                rfl
              refine pure_ (i := 3) (N := some 65) (v := ?_) (a' := ?_) #[false, true, true, true, false, false, false, false, false] rfl rfl (any_of HT_.out (by kernel_rfl)) (fun _ _ _ h => h) (Or.inl ⟨by rfl, ?_⟩) ?_ ?_
              rotate_left
              · intro w'
                go_simp
                with_reducible rfl
              rotate_left
              · simp only [Act.put, PU, i64_w, i32_w]
                rfl
              refine pure_ (i := 4) (N := some 66) (v := ?_) (a' := ?_) #[false, true, true, true, true, false, false, false, false] rfl rfl (any_of HT_.out (by kernel_rfl)) (fun _ _ _ h => h) (Or.inl ⟨by rfl, ?_⟩) ?_ ?_
              rotate_left
              · intro w'
                go_simp
                with_reducible rfl
              rotate_left
              · simp only [Act.put, PU, i64_w, i32_w]
                rfl
              refine pure_ (i := 5) (N := some 67) (v := ?_) (a' := ?_) #[false, true, true, true, true, true, false, false, false] rfl rfl (any_of HT_.out (by kernel_rfl)) (fun _ _ _ h => h) (Or.inl ⟨by rfl, ?_⟩) ?_ ?_
              rotate_left
              · intro w'
                go_simp
                with_reducible rfl
              rotate_left
              · simp only [Act.put, PU, i64_w, i32_w]
                rfl
              refine take_ (i := 0) (N := some 62) (v := ?_) (a' := ?_) (tf 6 9) rfl rfl (take_ofW HT_.out HW_.out (by kernel_rfl)) (fun _ _ _ h => h) (Or.inl ⟨by rfl, ?_⟩) hHeld ?_ ?_
              rotate_left
              · rintro w' ⟨s0, s1, s2⟩
                go_simp
                with_reducible rfl
              rotate_left
              · simp only [Act.put, PU, i64_w, i32_w]
                rfl
              refine join_ (σ := Value × Nat) 1 (tf 8 9) (fun s_ => [(68, .agg #[.int .i64 t364, s_.1, .int .i64 t368]), (10, .pointer (some ⟨s_.2, 0, none⟩))]) (fun s_ w' => (w'.cell? ⟨gb359, 0, none⟩ = some (.int .i64 t351) ∧ w'.cell? ⟨gb359, 1, none⟩ = some (.slice Ao58 t352.length co58) ∧ w'.cell? ⟨gb359, 2, none⟩ = some (.int .i64 t355)) ∧ (Kd.V k36 36 w' w.heap.size (fun k_ => some k_ ≠ (v357 : Value).ownBlock ∧ some k_ ≠ (s_.1 : Value).ownBlock ∧ some k_ ≠ (.slice Ao8 t332.length co8 : Value).ownBlock ∧ k_ ≠ gb337 ∧ k_ ≠ gb345 ∧ k_ ≠ gb359 ∧ k_ ≠ s_.2) (.slice Ao58 t352.length co58) t352) ∧ (Kd.R k36 36 w' w.heap.size (fun k_ => some k_ ≠ (s_.1 : Value).ownBlock ∧ some k_ ≠ (.slice Ao8 t332.length co8 : Value).ownBlock ∧ some k_ ≠ (.slice Ao21 t341.length co21 : Value).ownBlock) v357 t356) ∧ (Kd.R k36 36 w' w.heap.size (fun k_ => some k_ ≠ (v357 : Value).ownBlock ∧ some k_ ≠ (.slice Ao8 t332.length co8 : Value).ownBlock ∧ some k_ ≠ (.slice Ao21 t341.length co21 : Value).ownBlock) s_.1 t365) ∧ (Kd.R k36 36 w' w.heap.size (fun k_ => some k_ ≠ (v357 : Value).ownBlock ∧ some k_ ≠ (s_.1 : Value).ownBlock ∧ some k_ ≠ (.slice Ao21 t341.length co21 : Value).ownBlock) (.slice Ao8 t332.length co8) t332) ∧ (Kd.R k36 36 w' w.heap.size (fun k_ => some k_ ≠ (v357 : Value).ownBlock ∧ some k_ ≠ (s_.1 : Value).ownBlock ∧ some k_ ≠ (.slice Ao8 t332.length co8 : Value).ownBlock) (.slice Ao21 t341.length co21) t341) ∧ (w'.heap[gb337]? = some (.cells #[.int .i64 t331, .slice Ao8 t332.length co8, .int .i64 t335] 27 (0, 0))) ∧ (w'.heap[gb345]? = some (.cells #[.int .i64 t340, .slice Ao21 t341.length co21, .int .i64 t344] 27 (0, 0))) ∧ (w'.heap[gb359]? = some (.cells #[.int .i64 t351, .slice Ao58 t352.length co58, .int .i64 t355] 27 (0, 0))) ∧ (w'.heap[s_.2]? = some (.cells #[.int .i64 0, .slice none 0 0, .int .i64 0] 27 (0, 0))) ∧ (w.heap.size ≤ s_.2) ∧ (w.heap.size ≤ s_.2) ∧ (gb337 ≠ s_.2) ∧ (s_.2 ≠ gb337) ∧ (gb345 ≠ s_.2) ∧ (s_.2 ≠ gb345) ∧ (gb359 ≠ s_.2) ∧ (s_.2 ≠ gb359) ∧ (Below w.heap.size w w')) ?_ ?_
              rotate_left
              · intro hCont
                refine two_ (i := 6) (j := 7) (Ni := some 68) (Nj := some 10) (tf 7 9) #[true, true, true, true, true, true, false, true, false] rfl rfl rfl rfl (two_of HT_.out (by kernel_rfl)) (by decide) (by decide) (fun K hK => ?_) (fun K hK => ?_)
                · skip
                  refine goes_ Try.func19 (by kernel_rfl) rfl #[.agg #[.int .i64 t351, .slice Ao58 t352.length co58, .int .i64 t355], .slice A1 y360.length c1] (by rfl) rfl rfl (by (try simp only [List.map_toArray, List.map_cons, List.map_nil]); first | done | rfl | (simp only [List.length_drop, List.length_take]; rfl)) ?_
                  with_reducible refine (feed_Tell.calls kj14 t351 _ _ t352 t355 _ _ y360 t364 t365 t368 _ ?side1 ?side2 ?side3 ?side4 A42.out).mono ?_
                  (case side1 => exact Kd.CA (Kd.V_reads' HO354.out).2.2)
                  (case side2 => exact (Kd.V_reads' HO354.out).2.1)
                  (case side3 => exact Kd.CA (Kd.C_below HR363.out HB.out))
                  (case side4 => exact HC363.out)
                  rintro e w62 ⟨v366, rfl, ho0, hb⟩
                  refine ⟨_, rfl, ?_⟩
                  have n0_ := Aside0.mk (Kd.R_elder' (Kd.RA HO_338001.out) (Kd.R_base ho0) hb)
                  have n1_ := Aside0.mk (Kd.R_elder' (Kd.RA HO_346001.out) (Kd.R_base ho0) hb)
                  have n2_ := Aside0.mk (Kd.V_elder' (Kd.VA HO354.out) (Kd.R_base ho0) hb)
                  have n3_ := Aside0.mk (Kd.R_elder' (Kd.RA HO358.out) (Kd.R_base ho0) hb)
                  have n4_ := Aside0.mk (Kd.R_lower (Kd.R_new' (Kd.R_new' (Kd.R_new' ho0 (Kd.R_lt (Kd.RA HO_338001.out))) (Kd.R_lt (Kd.RA HO_346001.out))) (Kd.R_lt (Kd.RA HO358.out))) (below_size (LG HB.out (G1 GE337.out (G1 GE345.out (G1 GE359.out G0))))))
                  have n5_ := Aside0.mk (blk_below (BA BK337.out) hb)
                  have n6_ := Aside0.mk (blk_below (BA BK345.out) hb)
                  have n7_ := Aside0.mk (blk_below (BA BK359.out) hb)
                  have n8_ := Aside0.mk (below_step (LG HB.out (G1 GE337.out (G1 GE345.out (G1 GE359.out G0)))) hb)
                  clear HO_338001
                  clear HO_346001
                  clear HO354
                  clear HO358
                  clear BK337
                  clear BK345
                  clear BK359
                  clear HB
                  have HO_338001 := n0_
                  have HO_346001 := n1_
                  have HO354 := n2_
                  have HO358 := n3_
                  have HO367 := n4_
                  have BK337 := n5_
                  have BK345 := n6_
                  have BK359 := n7_
                  have HB := n8_
                  clear n0_ n1_ n2_ n3_ n4_ n5_ n6_ n7_ n8_
                  (try clear hb)
                  (try clear hb2)
                  (try clear hk)
                  (try clear hi)
                  (try clear ho0)
                  refine hK.out _ _ ⟨(blk_cell BK359.out 0).trans rfl, (blk_cell BK359.out 1).trans rfl, (blk_cell BK359.out 2).trans rfl⟩ (fun hHeld => ?_)
                  clear hK K
                  refine norm_ (a' := ?_) ?_ ?_
                  rotate_left
                  · show Act.put _ (some 68) _ = _
                    simp only [Act.put, PU, i64_w, i32_w]
                    rfl
                  refine one_ (i := 7) (N := some 10) (tf 8 9) rfl rfl (one_of HT_.out (by kernel_rfl)) (by decide) (fun K hK => ?_)
                  refine box_step ?hg (N := 10) ?hd (cs := #[.int .i64 0, .slice none 0 0, .int .i64 0]) (t := 27) ?hr ?_; (case hd => rfl); (case hg => rfl); (case hr => first | (go_simp; done) | (go_simp; rfl))
                  intro gb369 hg w63 hbox hb
                  have n0_ := Aside0.mk (Kd.R_below (Kd.RA HO_338001.out) hb)
                  have n1_ := Aside0.mk (Kd.R_below (Kd.RA HO_346001.out) hb)
                  have n2_ := Aside0.mk (Kd.V_below (Kd.V_elderB (Kd.VA HO354.out) gb369 (Nat.le_of_eq hg.symm)) hb)
                  have n3_ := Aside0.mk (Kd.R_below (Kd.RA HO358.out) hb)
                  have n4_ := Aside0.mk (Kd.R_below (Kd.RA HO367.out) hb)
                  have n5_ := Aside0.mk (blk_below (BA BK337.out) hb)
                  have n6_ := Aside0.mk (blk_below (BA BK345.out) hb)
                  have n7_ := Aside0.mk (blk_below (BA BK359.out) hb)
                  have n8_ := Aside0.mk (below_step (LG HB.out (G1 GE337.out (G1 GE345.out (G1 GE359.out G0)))) hb)
                  have n9_ := Aside0.mk (hbox)
                  have n10_ := Aside0.mk (ge1 hg (LG HB.out (G1 GE337.out (G1 GE345.out (G1 GE359.out G0)))))
                  have n11_ := Aside0.mk (ge1 hg (LG HB.out (G1 GE337.out (G1 GE345.out (G1 GE359.out G0)))))
                  have n12_ := Aside0.mk ((by rw [hg]; exact Nat.ne_of_lt (blk_lt (g := gb337) (o := .cells #[.int .i64 t331, .slice Ao8 t332.length co8, .int .i64 t335] 27 (0, 0)) (BA BK337.out)) : gb337 ≠ gb369))
                  have n13_ := Aside0.mk ((by rw [hg]; exact Nat.ne_of_gt (blk_lt (g := gb337) (o := .cells #[.int .i64 t331, .slice Ao8 t332.length co8, .int .i64 t335] 27 (0, 0)) (BA BK337.out)) : gb369 ≠ gb337))
                  have n14_ := Aside0.mk ((by rw [hg]; exact Nat.ne_of_lt (blk_lt (g := gb345) (o := .cells #[.int .i64 t340, .slice Ao21 t341.length co21, .int .i64 t344] 27 (0, 0)) (BA BK345.out)) : gb345 ≠ gb369))
                  have n15_ := Aside0.mk ((by rw [hg]; exact Nat.ne_of_gt (blk_lt (g := gb345) (o := .cells #[.int .i64 t340, .slice Ao21 t341.length co21, .int .i64 t344] 27 (0, 0)) (BA BK345.out)) : gb369 ≠ gb345))
                  have n16_ := Aside0.mk ((by rw [hg]; exact Nat.ne_of_lt (blk_lt (g := gb359) (o := .cells #[.int .i64 t351, .slice Ao58 t352.length co58, .int .i64 t355] 27 (0, 0)) (BA BK359.out)) : gb359 ≠ gb369))
                  have n17_ := Aside0.mk ((by rw [hg]; exact Nat.ne_of_gt (blk_lt (g := gb359) (o := .cells #[.int .i64 t351, .slice Ao58 t352.length co58, .int .i64 t355] 27 (0, 0)) (BA BK359.out)) : gb369 ≠ gb359))
                  clear HO_338001
                  clear HO_346001
                  clear HO354
                  clear HO358
                  clear HO367
                  clear BK337
                  clear BK345
                  clear BK359
                  clear HB
                  have HO_338001 := n0_
                  have HO_346001 := n1_
                  have HO354 := n2_
                  have HO358 := n3_
                  have HO367 := n4_
                  have BK337 := n5_
                  have BK345 := n6_
                  have BK359 := n7_
                  have HB := n8_
                  have BK369 := n9_
                  have GW369 := n10_
                  have GE369 := n11_
                  have NB337_369 := n12_
                  have NB369_337 := n13_
                  have NB345_369 := n14_
                  have NB369_345 := n15_
                  have NB359_369 := n16_
                  have NB369_359 := n17_
                  clear n0_ n1_ n2_ n3_ n4_ n5_ n6_ n7_ n8_ n9_ n10_ n11_ n12_ n13_ n14_ n15_ n16_ n17_
                  clear hb hbox hg
                  refine hK.out _ _ ⟨(blk_cell BK359.out 0).trans rfl, (blk_cell BK359.out 1).trans rfl, (blk_cell BK359.out 2).trans rfl⟩ (fun hHeld => ?_)
                  clear hK K
                  refine norm_ (a' := ?_) ?_ ?_
                  rotate_left
                  · show Act.put _ (some 10) _ = _
                    simp only [Act.put, PU, i64_w, i32_w]
                    rfl
                  exact norm_ (by simp only [putAll, Act.put, PU]) (hCont (v366, gb369) _ ⟨hHeld, (Kd.VA (Kd.V_mono HO354.out (fun _ hk => ⟨hk.1.1.2.1, ⟨hk.1.2, ⟨hk.1.1.1, ⟨hk.1.1.2.2.1, ⟨hk.1.1.2.2.2.1, ⟨hk.1.1.2.2.2.2, hk.2⟩⟩⟩⟩⟩⟩))), (Kd.RA (Kd.R_mono HO358.out (fun _ hk => ⟨hk.2, ⟨hk.1.1, hk.1.2⟩⟩))), (Kd.RA (Kd.R_mono HO367.out (fun _ hk => ⟨hk.2, ⟨hk.1.1.2, hk.1.2⟩⟩))), (Kd.RA (Kd.R_mono HO_338001.out (fun _ hk => ⟨hk.1.2, ⟨hk.2, hk.1.1⟩⟩))), (Kd.RA (Kd.R_mono HO_346001.out (fun _ hk => ⟨hk.1.2, ⟨hk.2, hk.1.1⟩⟩))), (BA BK337.out), (BA BK345.out), (BA BK359.out), (BA BK369.out), GW369.out, GE369.out, NB337_369.out, NB369_337.out, NB345_369.out, NB369_345.out, NB359_369.out, NB369_359.out, (LG HB.out (G1 GE337.out (G1 GE345.out (G1 GE359.out (G1 GE369.out G0)))))⟩)
                · skip
                  refine box_step ?hg (N := 10) ?hd (cs := #[.int .i64 0, .slice none 0 0, .int .i64 0]) (t := 27) ?hr ?_; (case hd => rfl); (case hg => rfl); (case hr => first | (go_simp; done) | (go_simp; rfl))
                  intro gb369 hg w62 hbox hb
                  have n0_ := Aside0.mk (Kd.R_below (Kd.RA HO_338001.out) hb)
                  have n1_ := Aside0.mk (Kd.R_below (Kd.RA HO_346001.out) hb)
                  have n2_ := Aside0.mk (Kd.V_below (Kd.V_elderB (Kd.VA HO354.out) gb369 (Nat.le_of_eq hg.symm)) hb)
                  have n3_ := Aside0.mk (Kd.R_below (Kd.RA HO358.out) hb)
                  have n4_ := Aside0.mk (blk_below (BA BK337.out) hb)
                  have n5_ := Aside0.mk (blk_below (BA BK345.out) hb)
                  have n6_ := Aside0.mk (blk_below (BA BK359.out) hb)
                  have n7_ := Aside0.mk (below_step (LG HB.out (G1 GE337.out (G1 GE345.out (G1 GE359.out G0)))) hb)
                  have n8_ := Aside0.mk (hbox)
                  have n9_ := Aside0.mk (ge1 hg (LG HB.out (G1 GE337.out (G1 GE345.out (G1 GE359.out G0)))))
                  have n10_ := Aside0.mk (ge1 hg (LG HB.out (G1 GE337.out (G1 GE345.out (G1 GE359.out G0)))))
                  have n11_ := Aside0.mk ((by rw [hg]; exact Nat.ne_of_lt (blk_lt (g := gb337) (o := .cells #[.int .i64 t331, .slice Ao8 t332.length co8, .int .i64 t335] 27 (0, 0)) (BA BK337.out)) : gb337 ≠ gb369))
                  have n12_ := Aside0.mk ((by rw [hg]; exact Nat.ne_of_gt (blk_lt (g := gb337) (o := .cells #[.int .i64 t331, .slice Ao8 t332.length co8, .int .i64 t335] 27 (0, 0)) (BA BK337.out)) : gb369 ≠ gb337))
                  have n13_ := Aside0.mk ((by rw [hg]; exact Nat.ne_of_lt (blk_lt (g := gb345) (o := .cells #[.int .i64 t340, .slice Ao21 t341.length co21, .int .i64 t344] 27 (0, 0)) (BA BK345.out)) : gb345 ≠ gb369))
                  have n14_ := Aside0.mk ((by rw [hg]; exact Nat.ne_of_gt (blk_lt (g := gb345) (o := .cells #[.int .i64 t340, .slice Ao21 t341.length co21, .int .i64 t344] 27 (0, 0)) (BA BK345.out)) : gb369 ≠ gb345))
                  have n15_ := Aside0.mk ((by rw [hg]; exact Nat.ne_of_lt (blk_lt (g := gb359) (o := .cells #[.int .i64 t351, .slice Ao58 t352.length co58, .int .i64 t355] 27 (0, 0)) (BA BK359.out)) : gb359 ≠ gb369))
                  have n16_ := Aside0.mk ((by rw [hg]; exact Nat.ne_of_gt (blk_lt (g := gb359) (o := .cells #[.int .i64 t351, .slice Ao58 t352.length co58, .int .i64 t355] 27 (0, 0)) (BA BK359.out)) : gb369 ≠ gb359))
                  clear HO_338001
                  clear HO_346001
                  clear HO354
                  clear HO358
                  clear BK337
                  clear BK345
                  clear BK359
                  clear HB
                  have HO_338001 := n0_
                  have HO_346001 := n1_
                  have HO354 := n2_
                  have HO358 := n3_
                  have BK337 := n4_
                  have BK345 := n5_
                  have BK359 := n6_
                  have HB := n7_
                  have BK369 := n8_
                  have GW369 := n9_
                  have GE369 := n10_
                  have NB337_369 := n11_
                  have NB369_337 := n12_
                  have NB345_369 := n13_
                  have NB369_345 := n14_
                  have NB359_369 := n15_
                  have NB369_359 := n16_
                  clear n0_ n1_ n2_ n3_ n4_ n5_ n6_ n7_ n8_ n9_ n10_ n11_ n12_ n13_ n14_ n15_ n16_
                  clear hb hbox hg
                  refine hK.out _ _ ⟨(blk_cell BK359.out 0).trans rfl, (blk_cell BK359.out 1).trans rfl, (blk_cell BK359.out 2).trans rfl⟩ (fun hHeld => ?_)
                  clear hK K
                  refine norm_ (a' := ?_) ?_ ?_
                  rotate_left
                  · show Act.put _ (some 10) _ = _
                    simp only [Act.put, PU, i64_w, i32_w]
                    rfl
                  refine one_ (i := 6) (N := some 68) (tf 8 9) rfl rfl (one_of HT_.out (by kernel_rfl)) (by decide) (fun K hK => ?_)
                  refine goes_ Try.func19 (by kernel_rfl) rfl #[.agg #[.int .i64 t351, .slice Ao58 t352.length co58, .int .i64 t355], .slice A1 y360.length c1] (by rfl) rfl rfl (by (try simp only [List.map_toArray, List.map_cons, List.map_nil]); first | done | rfl | (simp only [List.length_drop, List.length_take]; rfl)) ?_
                  with_reducible refine (feed_Tell.calls kj14 t351 _ _ t352 t355 _ _ y360 t364 t365 t368 _ ?side1 ?side2 ?side3 ?side4 A42.out).mono ?_
                  (case side1 => exact Kd.CA (Kd.V_reads' HO354.out).2.2)
                  (case side2 => exact (Kd.V_reads' HO354.out).2.1)
                  (case side3 => exact Kd.CA (Kd.C_below HR363.out HB.out))
                  (case side4 => exact HC363.out)
                  rintro e w63 ⟨v366, rfl, ho0, hb⟩
                  refine ⟨_, rfl, ?_⟩
                  have n0_ := Aside0.mk (Kd.R_elder' (Kd.RA HO_338001.out) (Kd.R_base ho0) hb)
                  have n1_ := Aside0.mk (Kd.R_elder' (Kd.RA HO_346001.out) (Kd.R_base ho0) hb)
                  have n2_ := Aside0.mk (Kd.V_elder' (Kd.VA HO354.out) (Kd.R_base ho0) hb)
                  have n3_ := Aside0.mk (Kd.R_elder' (Kd.RA HO358.out) (Kd.R_base ho0) hb)
                  have n4_ := Aside0.mk (Kd.R_lower (Kd.R_new' (Kd.R_new' (Kd.R_new' ho0 (Kd.R_lt (Kd.RA HO_338001.out))) (Kd.R_lt (Kd.RA HO_346001.out))) (Kd.R_lt (Kd.RA HO358.out))) (below_size (LG HB.out (G1 GE337.out (G1 GE345.out (G1 GE359.out (G1 GE369.out G0)))))))
                  have n5_ := Aside0.mk (blk_below (BA BK337.out) hb)
                  have n6_ := Aside0.mk (blk_below (BA BK345.out) hb)
                  have n7_ := Aside0.mk (blk_below (BA BK359.out) hb)
                  have n8_ := Aside0.mk (blk_below (BA BK369.out) hb)
                  have n9_ := Aside0.mk (below_step (LG HB.out (G1 GE337.out (G1 GE345.out (G1 GE359.out (G1 GE369.out G0))))) hb)
                  clear HO_338001
                  clear HO_346001
                  clear HO354
                  clear HO358
                  clear BK337
                  clear BK345
                  clear BK359
                  clear BK369
                  clear HB
                  have HO_338001 := n0_
                  have HO_346001 := n1_
                  have HO354 := n2_
                  have HO358 := n3_
                  have HO367 := n4_
                  have BK337 := n5_
                  have BK345 := n6_
                  have BK359 := n7_
                  have BK369 := n8_
                  have HB := n9_
                  clear n0_ n1_ n2_ n3_ n4_ n5_ n6_ n7_ n8_ n9_
                  (try clear hb)
                  (try clear hb2)
                  (try clear hk)
                  (try clear hi)
                  (try clear ho0)
                  refine hK.out _ _ ⟨(blk_cell BK359.out 0).trans rfl, (blk_cell BK359.out 1).trans rfl, (blk_cell BK359.out 2).trans rfl⟩ (fun hHeld => ?_)
                  clear hK K
                  refine norm_ (a' := ?_) ?_ ?_
                  rotate_left
                  · show Act.put _ (some 68) _ = _
                    simp only [Act.put, PU, i64_w, i32_w]
                    rfl
                  exact norm_ (by simp only [putAll, Act.put, PU]) (hCont (v366, gb369) _ ⟨hHeld, (Kd.VA (Kd.V_mono HO354.out (fun _ hk => ⟨hk.1.1.2.1, ⟨hk.2, ⟨hk.1.1.1, ⟨hk.1.1.2.2.1, ⟨hk.1.1.2.2.2.1, ⟨hk.1.1.2.2.2.2, hk.1.2⟩⟩⟩⟩⟩⟩))), (Kd.RA (Kd.R_mono HO358.out (fun _ hk => ⟨hk.2, ⟨hk.1.1, hk.1.2⟩⟩))), (Kd.RA (Kd.R_mono HO367.out (fun _ hk => ⟨hk.2, ⟨hk.1.1.2, hk.1.2⟩⟩))), (Kd.RA (Kd.R_mono HO_338001.out (fun _ hk => ⟨hk.1.2, ⟨hk.2, hk.1.1⟩⟩))), (Kd.RA (Kd.R_mono HO_346001.out (fun _ hk => ⟨hk.1.2, ⟨hk.2, hk.1.1⟩⟩))), (BA BK337.out), (BA BK345.out), (BA BK359.out), (BA BK369.out), GW369.out, GE369.out, NB337_369.out, NB369_337.out, NB345_369.out, NB369_345.out, NB359_369.out, NB369_359.out, (LG HB.out (G1 GE337.out (G1 GE345.out (G1 GE359.out (G1 GE369.out G0)))))⟩)
              rintro ⟨v366, gb369⟩ w64 ⟨hS_, h0_, h1_, h2_, h3_, h4_, h5_, h6_, h7_, h8_, h9_, h10_, h11_, h12_, h13_, h14_, h15_, h16_, h17_⟩
              have n0_ : Aside0 (Kd.V k36 36 w64 w.heap.size (fun k_ => some k_ ≠ (v357 : Value).ownBlock ∧ some k_ ≠ (v366 : Value).ownBlock ∧ some k_ ≠ (.slice Ao8 t332.length co8 : Value).ownBlock ∧ k_ ≠ gb337 ∧ k_ ≠ gb345 ∧ k_ ≠ gb359 ∧ k_ ≠ gb369) (.slice Ao58 t352.length co58) t352) := ⟨h0_⟩
              have n1_ : Aside0 (Kd.R k36 36 w64 w.heap.size (fun k_ => some k_ ≠ (v366 : Value).ownBlock ∧ some k_ ≠ (.slice Ao8 t332.length co8 : Value).ownBlock ∧ some k_ ≠ (.slice Ao21 t341.length co21 : Value).ownBlock) v357 t356) := ⟨h1_⟩
              have n2_ : Aside0 (Kd.R k36 36 w64 w.heap.size (fun k_ => some k_ ≠ (v357 : Value).ownBlock ∧ some k_ ≠ (.slice Ao8 t332.length co8 : Value).ownBlock ∧ some k_ ≠ (.slice Ao21 t341.length co21 : Value).ownBlock) v366 t365) := ⟨h2_⟩
              have n3_ : Aside0 (Kd.R k36 36 w64 w.heap.size (fun k_ => some k_ ≠ (v357 : Value).ownBlock ∧ some k_ ≠ (v366 : Value).ownBlock ∧ some k_ ≠ (.slice Ao21 t341.length co21 : Value).ownBlock) (.slice Ao8 t332.length co8) t332) := ⟨h3_⟩
              have n4_ : Aside0 (Kd.R k36 36 w64 w.heap.size (fun k_ => some k_ ≠ (v357 : Value).ownBlock ∧ some k_ ≠ (v366 : Value).ownBlock ∧ some k_ ≠ (.slice Ao8 t332.length co8 : Value).ownBlock) (.slice Ao21 t341.length co21) t341) := ⟨h4_⟩
              have n5_ : Aside0 (w64.heap[gb337]? = some (.cells #[.int .i64 t331, .slice Ao8 t332.length co8, .int .i64 t335] 27 (0, 0))) := ⟨h5_⟩
              have n6_ : Aside0 (w64.heap[gb345]? = some (.cells #[.int .i64 t340, .slice Ao21 t341.length co21, .int .i64 t344] 27 (0, 0))) := ⟨h6_⟩
              have n7_ : Aside0 (w64.heap[gb359]? = some (.cells #[.int .i64 t351, .slice Ao58 t352.length co58, .int .i64 t355] 27 (0, 0))) := ⟨h7_⟩
              have n8_ : Aside0 (w64.heap[gb369]? = some (.cells #[.int .i64 0, .slice none 0 0, .int .i64 0] 27 (0, 0))) := ⟨h8_⟩
              have n9_ : Aside0 (w.heap.size ≤ gb369) := ⟨h9_⟩
              have n10_ : Aside0 (w.heap.size ≤ gb369) := ⟨h10_⟩
              have n11_ : Aside0 (gb337 ≠ gb369) := ⟨h11_⟩
              have n12_ : Aside0 (gb369 ≠ gb337) := ⟨h12_⟩
              have n13_ : Aside0 (gb345 ≠ gb369) := ⟨h13_⟩
              have n14_ : Aside0 (gb369 ≠ gb345) := ⟨h14_⟩
              have n15_ : Aside0 (gb359 ≠ gb369) := ⟨h15_⟩
              have n16_ : Aside0 (gb369 ≠ gb359) := ⟨h16_⟩
              have n17_ : Aside0 (Below w.heap.size w w64) := ⟨h17_⟩
              clear HO_338001
              clear HO_346001
              clear HO354
              clear HO358
              clear BK337
              clear BK345
              clear BK359
              clear HB
              clear h0_ h1_ h2_ h3_ h4_ h5_ h6_ h7_ h8_ h9_ h10_ h11_ h12_ h13_ h14_ h15_ h16_ h17_
              have HO354 := n0_
              have HO358 := n1_
              have HO367 := n2_
              have HO_338001 := n3_
              have HO_346001 := n4_
              have BK337 := n5_
              have BK345 := n6_
              have BK359 := n7_
              have BK369 := n8_
              have GW369 := n9_
              have GE369 := n10_
              have NB337_369 := n11_
              have NB369_337 := n12_
              have NB345_369 := n13_
              have NB369_345 := n14_
              have NB359_369 := n15_
              have NB369_359 := n16_
              have HB := n17_
              clear n0_ n1_ n2_ n3_ n4_ n5_ n6_ n7_ n8_ n9_ n10_ n11_ n12_ n13_ n14_ n15_ n16_ n17_
              have hHeld : w64.cell? ⟨gb359, 0, none⟩ = some (.int .i64 t351) ∧ w64.cell? ⟨gb359, 1, none⟩ = some (.slice Ao58 t352.length co58) ∧ w64.cell? ⟨gb359, 2, none⟩ = some (.int .i64 t355) := hS_
              obtain ⟨Ao66, co66, eo66⟩ := Kd.R_slice HO367.out
              (first | subst eo66 | (injection eo66 with f1_ f2_ f3_; have f4_ := f1_.symm; have f5_ := f3_.symm; clear f1_ f2_ f3_; subst f4_; subst f5_))
              refine norm_ (a' := ?_) ?_ ?_
              rotate_left
              · simp only [putAll, Act.put, PU]
                rfl
              refine one_ (i := 8) (N := none) (tf 9 9) rfl rfl (one_of HT_.out (by kernel_rfl)) (by decide) (fun K hK => ?_)
              have hs65 : w64.cell? ⟨gb369, 0, none⟩ = some (.int .i64 0) := (blk_cell BK369.out 0).trans rfl
              have hfs65 := blk_frozen BK369.out 0
              have hns65_0 := NB337_369.out
              have hns65_1 := NB345_369.out
              have hns65_2 := NB359_369.out
              have hms65_0 := NB369_337.out
              have hms65_1 := NB369_345.out
              have hms65_2 := NB369_359.out
              have hs67 : w64.cell? ⟨gb369, 1, none⟩ = some (.slice none 0 0) := (blk_cell BK369.out 1).trans rfl
              have hfs67 := blk_frozen BK369.out 1
              have hns67_0 := NB337_369.out
              have hns67_1 := NB345_369.out
              have hns67_2 := NB359_369.out
              have hms67_0 := NB369_337.out
              have hms67_1 := NB369_345.out
              have hms67_2 := NB369_359.out
              have hs68 : w64.cell? ⟨gb369, 2, none⟩ = some (.int .i64 0) := (blk_cell BK369.out 2).trans rfl
              have hfs68 := blk_frozen BK369.out 2
              have hns68_0 := NB337_369.out
              have hns68_1 := NB345_369.out
              have hns68_2 := NB359_369.out
              have hms68_0 := NB369_337.out
              have hms68_1 := NB369_345.out
              have hms68_2 := NB369_359.out
              refine skip_ (w1 := ?_) (by rfl) rfl ?_ ?_
              rotate_left
              · go_simp
                rfl
              refine hK.out _ _ ⟨((cell_far (p := ⟨gb369, _, none⟩) NB359_369.out _).trans (((cell_far (p := ⟨gb369, _, none⟩) NB359_369.out _).trans (((cell_far (p := ⟨gb369, _, none⟩) NB359_369.out _).trans (hHeld.1)))))), ((cell_far (p := ⟨gb369, _, none⟩) NB359_369.out _).trans (((cell_far (p := ⟨gb369, _, none⟩) NB359_369.out _).trans (((cell_far (p := ⟨gb369, _, none⟩) NB359_369.out _).trans (hHeld.2.1)))))), ((cell_far (p := ⟨gb369, _, none⟩) NB359_369.out _).trans (((cell_far (p := ⟨gb369, _, none⟩) NB359_369.out _).trans (((cell_far (p := ⟨gb369, _, none⟩) NB359_369.out _).trans (hHeld.2.2))))))⟩ (fun hHeld => ?_)
              clear hK K
              refine done_ (done_of HT_.out (by kernel_rfl)) ?_
              have hnb69 := NB359_369.out
              have hnc69 := NB369_359.out
              have hcz70_0 : w64.cell? ⟨gb359, 0, none⟩ = some (.int .i64 t351) := (blk_cell BK359.out 0).trans rfl
              have hcz70_1 : w64.cell? ⟨gb359, 1, none⟩ = some (.slice Ao58 t352.length co58) := (blk_cell BK359.out 1).trans rfl
              have hcz70_2 : w64.cell? ⟨gb359, 2, none⟩ = some (.int .i64 t355) := (blk_cell BK359.out 2).trans rfl
              have hfz70_0 := blk_frozen BK359.out 0
              have hfz70_1 := blk_frozen BK359.out 1
              have hfz70_2 := blk_frozen BK359.out 2
              obtain ⟨Ao71, co71, eo71⟩ := Kd.R_slice HO358.out
              subst eo71
              have hnb72 := NB345_369.out
              have hnc72 := NB369_345.out
              have hcz73_0 : w64.cell? ⟨gb345, 0, none⟩ = some (.int .i64 t340) := (blk_cell BK345.out 0).trans rfl
              have hcz73_1 : w64.cell? ⟨gb345, 1, none⟩ = some (.slice Ao21 t341.length co21) := (blk_cell BK345.out 1).trans rfl
              have hcz73_2 : w64.cell? ⟨gb345, 2, none⟩ = some (.int .i64 t344) := (blk_cell BK345.out 2).trans rfl
              have hfz73_0 := blk_frozen BK345.out 0
              have hfz73_1 := blk_frozen BK345.out 1
              have hfz73_2 := blk_frozen BK345.out 2
              have hnb74 := NB369_337.out
              have hnc74 := NB337_369.out
              have hcz75_0 : w64.cell? ⟨gb369, 0, none⟩ = some (.int .i64 0) := (blk_cell BK369.out 0).trans rfl
              have hcz75_1 : w64.cell? ⟨gb369, 1, none⟩ = some (.slice none 0 0) := (blk_cell BK369.out 1).trans rfl
              have hcz75_2 : w64.cell? ⟨gb369, 2, none⟩ = some (.int .i64 0) := (blk_cell BK369.out 2).trans rfl
              have hfz75_0 := blk_frozen BK369.out 0
              have hfz75_1 := blk_frozen BK369.out 1
              have hfz75_2 := blk_frozen BK369.out 2
              try go_wp2_with (first | (go_at_call 10; (with_reducible refine (hopperlaw14_live.calls kj14  t370 _ A50.out).mono ?_); rintro e w76 ⟨rfl, hb⟩; replace HB := Aside0.mk (below_step (LG HB.out (G1 GE369.out G0)) hb); (try clear HO_338001); (try clear HO_346001); (try clear HO354); (try clear HO358); (try clear HO367); (try clear BK337); (try clear BK345); (try clear BK359); (try clear BK369); (try clear hb); (try clear hb2); (try clear hk); (try clear hi)))
              go_ret
              exact ⟨by first | exact (congrArg (fun b => Ending.returned (.bool b)) HR_.out) | (rw [HR_.out]; done) | rfl | (rw [HR_.out]; rfl) | (simp [HR_.out]; done) | (simp [errW_none, errW_some] <;> rfl) | (simp only [← hji39, ← hji45, ← hji46]; first | rfl | (simp [errW_none, errW_some] <;> rfl)) | (simp [*, errW_none, errW_some] <;> rfl), LG HB.out (G1 GE337.out (G1 GE345.out (G1 GE359.out (G1 GE369.out G0))))⟩

-- GIVEN hopperlaw14_FeedLost

end Go.Proofs.Ythmnedlaecekkaa.PFeedLost
