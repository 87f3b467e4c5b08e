/- What the functions that the law reaches answer, each as a plain Lean function, with a proof that the call in memory comes to that answer. Written by wip/tools/given.py of this session out of the print.py of the kit, with stand-ins for some functions. -/
import Derived.Test.YthmnedlaecekkaaPFeedAtOncex0
import Derived.Test.YthmnedlaecekkaaPFeedAtOncex2
import Derived.Test.YthmnedlaecekkaaPFeedAtOncex3
import Derived.Test.YthmnedlaecekkaaPFeedAtOncex5
import Derived.Test.YthmnedlaecekkaaPFeedAtOncex6
namespace Go.Proofs.Ythmnedlaecekkaa.PFeedAtOnce
open Go.RowKit Go.Proofs.YthmnedlaecekkaaW.PrintWords Go.Proofs.YthmnedlaecekkaaW.PrintLast Go.Proofs.YthmnedlaecekkaaW.PrintMore
attribute [local go_sem] max2_int min2_int max_two min_two max_three min_three max_four min_four   -- for this text's walks alone
set_option linter.unusedVariables false
set_option linter.unusedSimpArgs false

/-! ### hopperlaw14_FeedAtOnce: function 5 -/
def hopperlaw14_FeedAtOnce.j0 : Nat → List (S36) → Int → Bool → Int → List (S36) → Int → Option (Bool)
  | 0, _, _, _, _, _, _ => none
  | k + 1, x1, x2, x27, x335000, x335001, x335002 => if x27 = true then ((hopperlaw14_live.f k).bind fun t337 => (some t337)) else ((feed_Tell.f k x335000 x335001 x335002 x1).bind fun bt338 => (if 0 ≤ x2 then (if x2 ≤ (x1.length : Int) then ((feed_Tell.f k x335000 x335001 x335002 (x1.take (x2 : Int).toNat)).bind fun bt348 => ((feed_Tell.f k bt348.1 bt348.2.1 bt348.2.2 (x1.drop (x2 : Int).toNat)).bind fun bt357 => ((hopperref14_Same.f k bt338.1 bt338.2.1 bt338.2.2 bt357.1 bt357.2.1 bt357.2.2).bind fun t363 => (if t363 = true then (if (bt338.2.1.length : Int) ≥ (x335001.length : Int) then ((hopperlaw14_live.f k).bind fun t364 => (some t364)) else (some false)) else (some false))))) else (none)) else (none)))
def hopperlaw14_FeedAtOnce.f (k : Nat) (a0_0 : Int) (l0_1 : List (S36)) (a0_2 : Int) (l1 : List (S36)) (a2 : Int) : Option (Bool) := (hopperref14_Few.f k l0_1 60).bind fun t335 => (if t335 = true then ((hopperref14_Few.f k l1 60).bind fun t336 => (if t336 = true then (if a2 < 0 then (hopperlaw14_FeedAtOnce.j0 k l1 a2 true a0_0 l0_1 a0_2) else (hopperlaw14_FeedAtOnce.j0 k l1 a2 (decide (a2 > (l1.length : Int))) a0_0 l0_1 a0_2)) else (hopperlaw14_FeedAtOnce.j0 k l1 a2 true a0_0 l0_1 a0_2))) else (hopperlaw14_FeedAtOnce.j0 k l1 a2 true a0_0 l0_1 a0_2))
theorem hopperlaw14_FeedAtOnce.mono_l : ∀ k, (∀ y0 y1 y2 y3 y4 y5, LeO (hopperlaw14_FeedAtOnce.j0 k y0 y1 y2 y3 y4 y5) (hopperlaw14_FeedAtOnce.j0 (k + 1) y0 y1 y2 y3 y4 y5))
  | 0 => fun _ _ _ _ _ _ r h => by simp [hopperlaw14_FeedAtOnce.j0] at h
  | k + 1 => by
    have ih0 := hopperlaw14_FeedAtOnce.mono_l k
    · intro y0 y1 y2 y3 y4 y5
      unfold hopperlaw14_FeedAtOnce.j0
      repeat' first
      | (with_reducible exact ih0 _ _ _ _ _ _)
      | (with_reducible exact feed_Tell.mono _ _ _ _ _)
      | (with_reducible exact hopperlaw14_live.mono _)
      | (with_reducible exact hopperref14_Few.mono _ _ _)
      | (with_reducible exact hopperref14_Same.mono _ _ _ _ _ _ _)
      | (with_reducible exact LeO.refl _)
      | (with_reducible exact LeO.none _)
      | (with_reducible refine LeO.ite ?_ ?_)
      | (with_reducible refine LeO.bind ?_ (fun _ => ?_))
      | exact ih0 _ _ _ _ _ _
      | exact feed_Tell.mono _ _ _ _ _
      | exact hopperlaw14_live.mono _
      | exact hopperref14_Few.mono _ _ _
      | exact hopperref14_Same.mono _ _ _ _ _ _ _
      | exact LeO.none _
      | refine LeO.ite ?_ ?_
      | refine LeO.bind ?_ (fun _ => ?_)
theorem hopperlaw14_FeedAtOnce.mono : ∀ a0 a1 a2 a3 a4 k, LeO (hopperlaw14_FeedAtOnce.f k a0 a1 a2 a3 a4) (hopperlaw14_FeedAtOnce.f (k + 1) a0 a1 a2 a3 a4) := by
  intro a0 a1 a2 a3 a4 k
  have ih0 := hopperlaw14_FeedAtOnce.mono_l k
  unfold hopperlaw14_FeedAtOnce.f
  repeat' first
      | (with_reducible exact ih0 _ _ _ _ _ _)
      | (with_reducible exact feed_Tell.mono _ _ _ _ _)
      | (with_reducible exact hopperlaw14_live.mono _)
      | (with_reducible exact hopperref14_Few.mono _ _ _)
      | (with_reducible exact hopperref14_Same.mono _ _ _ _ _ _ _)
      | (with_reducible exact LeO.refl _)
      | (with_reducible exact LeO.none _)
      | (with_reducible refine LeO.ite ?_ ?_)
      | (with_reducible refine LeO.bind ?_ (fun _ => ?_))
      | exact ih0 _ _ _ _ _ _
      | exact feed_Tell.mono _ _ _ _ _
      | exact hopperlaw14_live.mono _
      | exact hopperref14_Few.mono _ _ _
      | exact hopperref14_Same.mono _ _ _ _ _ _ _
      | exact LeO.none _
      | refine LeO.ite ?_ ?_
      | refine LeO.bind ?_ (fun _ => ?_)
def hopperlaw14_FeedAtOnce.T4 : Bool × List (List Nat × List Nat) := (true, [([], []), ([], []), ([], []), ([1, 2], [1, 2]), ([0, 3], [0, 3]), ([], []), ([], []), ([5, 6], [5, 6]), ([4, 7, 4], [4, 7]), ([], []), ([9, 8, 8, 0, 1, 2, 3, 4, 5, 6, 7, 8, 9], [8, 9])])
def hopperlaw14_FeedAtOnce.B4 : List Nat := [0, 0, 0, 6, 15, 0, 0, 96, 255, 0, 1023]
theorem hopperlaw14_FeedAtOnce.tab4 : rtab .any (opsOf Try.f5 4) = hopperlaw14_FeedAtOnce.T4 := by kernel_rfl
theorem hopperlaw14_FeedAtOnce.bits4 : waitsOk hopperlaw14_FeedAtOnce.T4.2 hopperlaw14_FeedAtOnce.B4 = true := by kernel_rfl
set_option maxHeartbeats 60000000 in
set_option maxRecDepth 100000 in
theorem hopperlaw14_FeedAtOnce.callsT (k : Nat) (a0_0 : Int) (A0_1 : Option Addr) (c0_1 : Nat) (l0_1 : List (S36)) (a0_2 : Int) (A1 : Option Addr) (c1 : Nat) (l1 : List (S36)) (a2 : Int) (w : World) (hr0_1 : Kd.C k36 w A0_1 l0_1.length l0_1) (hc0_1 : l0_1.length ≤ c0_1) (hr1 : Kd.C k36 w A1 l1.length l1) (hc1 : l1.length ≤ c1) (h : hopperlaw14_FeedAtOnce.f k a0_0 l0_1 a0_2 l1 a2 = some true) :
    Calls Try.prog 5 #[.agg #[.int .i64 a0_0, .slice A0_1 l0_1.length c0_1, .int .i64 a0_2], .slice A1 l1.length c1, .int .i64 a2] w fun e w' => e = .returned (.bool true) ∧ Below w.heap.size w w' := by
  have hu24 := Try.underlying24
  have hu27 := Try.underlying27
  have HR0_1 := Aside0.mk hr0_1
  have HC0_1 := Aside0.mk hc0_1
  clear hr0_1 hc0_1
  have HR1 := Aside0.mk hr1
  have HC1 := Aside0.mk hc1
  clear hr1 hc1
  have HB := Aside0.mk (Below.refl w.heap.size w)
  have H : ((hopperref14_Few.f k l0_1 60).bind fun t335 => (if t335 = true then ((hopperref14_Few.f k l1 60).bind fun t336 => (if t336 = true then (if a2 < 0 then (hopperlaw14_FeedAtOnce.j0 k l1 a2 true a0_0 l0_1 a0_2) else (hopperlaw14_FeedAtOnce.j0 k l1 a2 (decide (a2 > (l1.length : Int))) a0_0 l0_1 a0_2)) else (hopperlaw14_FeedAtOnce.j0 k l1 a2 true a0_0 l0_1 a0_2))) else (hopperlaw14_FeedAtOnce.j0 k l1 a2 true a0_0 l0_1 a0_2))) = some true := h
  clear h
  have HC4 := Aside0.mk H
  clear H
  go_enter Try.func5, Try.ntmps5
  go_upto_region 1 with (first | ((with_reducible refine gate_dst (N := 3) rfl ?_); (try (refine gate_guard (by rfl) ?_; dsimp only)); refine box_event ?hg (N := 3) ?hd (cs := #[.int .i64 a0_0, .slice A0_1 l0_1.length c0_1, .int .i64 a0_2]) (t := 24) ?hr ?_; (case hd => rfl); (case hg => rfl); (case hr => first | (go_simp; done) | (go_simp; rfl)); intro gb334 hg w5 hbox hb; have BK334 := Aside0.mk (hbox); have GE334 := Aside0.mk (ge1 hg (LA HB.out)); replace HB := Aside0.mk (below_step (LA HB.out) hb); clear hb hbox hg))
  (try simp only [Act.put, PU])
  go_cut [27] (fun v27 wc => ∃ (kq : Nat) (x27_3 : Bool), v27 = .bool x27_3 ∧ Aside0 (hopperlaw14_FeedAtOnce.j0 kq l1 a2 x27_3 a0_0 l0_1 a0_2 = some true) ∧ Aside0 (kq ≤ k) ∧ Aside0 (wc.heap[gb334]? = some (.cells #[.int .i64 a0_0, (.slice A0_1 l0_1.length c0_1), .int .i64 a0_2] 24 (0, 0))) ∧ Aside0 (Below w.heap.size w wc))
  case first =>
    have H := HC4.out
    clear HC4
    replace H := Option.bind_eq_some_iff.mp H
    obtain ⟨t335, A60, H⟩ := H
    try dsimp only at H
    have A6 := Aside0.mk A60
    clear A60
    by_cases c7 : t335 = true
    · subst c7
      have H1 : ((hopperref14_Few.f k l1 60).bind fun t336 => (if t336 = true then (if a2 < 0 then (hopperlaw14_FeedAtOnce.j0 k l1 a2 true a0_0 l0_1 a0_2) else (hopperlaw14_FeedAtOnce.j0 k l1 a2 (decide (a2 > (l1.length : Int))) a0_0 l0_1 a0_2)) else (hopperlaw14_FeedAtOnce.j0 k l1 a2 true a0_0 l0_1 a0_2))) = some true := by rw [if_pos rfl] at H; exact H
      clear H
      have H := H1
      clear H1
      replace H := Option.bind_eq_some_iff.mp H
      obtain ⟨t336, A80, H⟩ := H
      try dsimp only at H
      have A8 := Aside0.mk A80
      clear A80
      by_cases c9 : t336 = true
      · subst c9
        have H1 : (if a2 < 0 then (hopperlaw14_FeedAtOnce.j0 k l1 a2 true a0_0 l0_1 a0_2) else (hopperlaw14_FeedAtOnce.j0 k l1 a2 (decide (a2 > (l1.length : Int))) a0_0 l0_1 a0_2)) = some true := by rw [if_pos rfl] at H; exact H
        clear H
        have H := H1
        clear H1
        by_cases c10 : a2 < 0
        · rw [if_pos c10] at H
          have c10b0 : decide (a2 < 0) = true := decide_eq_true c10
          clear c10
          (first | rw [c10b0] | (simp only [i64_w, i32_w]; rw [c10b0]) | skip)
          have H' := Aside0.mk H
          clear H
          have hcz11_0 : w5.cell? ⟨gb334, 0, none⟩ = some (.int .i64 a0_0) := (blk_cell BK334.out 0).trans rfl
          have hcz11_1 : w5.cell? ⟨gb334, 1, none⟩ = some (.slice A0_1 l0_1.length c0_1) := (blk_cell BK334.out 1).trans rfl
          have hcz11_2 : w5.cell? ⟨gb334, 2, none⟩ = some (.int .i64 a0_2) := (blk_cell BK334.out 2).trans rfl
          have hfz11_0 := blk_frozen BK334.out 0
          have hfz11_1 := blk_frozen BK334.out 1
          have hfz11_2 := blk_frozen BK334.out 2
          go_wp2_with (first | ((with_reducible refine gate_callee (f := 9) rfl ?_); refine goesL_ (some 11) rfl rfl Try.func9 (by kernel_rfl) rfl #[.slice A0_1 l0_1.length c0_1, .int .i64 60] rfl (by (try simp only [List.map_toArray, List.map_cons, List.map_nil]); first | done | rfl | (simp only [List.length_drop, List.length_take]; rfl)) ?_; (with_reducible refine (hopperref14_Few.calls k _ _ l0_1 60 true _ ?side1 ?side2 A6.out).mono ?_); (case side1 => exact Kd.CA (Kd.C_below HR0_1.out HB.out)); (case side2 => exact HC0_1.out); rintro e w' ⟨rfl, ⟨nd, rfl⟩⟩; refine ⟨_, rfl, ?_⟩) | (go_at_call 9; (with_reducible refine (hopperref14_Few.calls k _ _ l1 60 true _ ?side1 ?side2 A8.out).mono ?_); (case side1 => exact (Kd.C_below HR1.out (LA HB.out))); (case side2 => exact HC1.out); rintro e w' ⟨rfl, ⟨nd, rfl⟩⟩))
          go_meet
          case rel => exact ⟨_, (true), (by first | (rw [HR_.out]; done) | rfl | (rw [HR_.out]; rfl) | (simp [HR_.out]; done) | (simp; done) | (simp [*]; done)), H', ⟨by first | omega | exact Nat.le_refl _⟩, ⟨by (with_reducible repeat (first | refine blk_drewN ?_ _ | refine blk_drew ?_ | refine blk_alloc ?_ _)); exact BK334.out⟩, ⟨LG HB.out (G1 GE334.out G0)⟩⟩
        · rw [if_neg c10] at H
          have c10b0 : decide (a2 < 0) = false := decide_eq_false c10
          clear c10
          (first | rw [c10b0] | (simp only [i64_w, i32_w]; rw [c10b0]) | skip)
          have H' := Aside0.mk H
          clear H
          have hcz12_0 : w5.cell? ⟨gb334, 0, none⟩ = some (.int .i64 a0_0) := (blk_cell BK334.out 0).trans rfl
          have hcz12_1 : w5.cell? ⟨gb334, 1, none⟩ = some (.slice A0_1 l0_1.length c0_1) := (blk_cell BK334.out 1).trans rfl
          have hcz12_2 : w5.cell? ⟨gb334, 2, none⟩ = some (.int .i64 a0_2) := (blk_cell BK334.out 2).trans rfl
          have hfz12_0 := blk_frozen BK334.out 0
          have hfz12_1 := blk_frozen BK334.out 1
          have hfz12_2 := blk_frozen BK334.out 2
          go_wp2_with (first | ((with_reducible refine gate_callee (f := 9) rfl ?_); refine goesL_ (some 11) rfl rfl Try.func9 (by kernel_rfl) rfl #[.slice A0_1 l0_1.length c0_1, .int .i64 60] rfl (by (try simp only [List.map_toArray, List.map_cons, List.map_nil]); first | done | rfl | (simp only [List.length_drop, List.length_take]; rfl)) ?_; (with_reducible refine (hopperref14_Few.calls k _ _ l0_1 60 true _ ?side1 ?side2 A6.out).mono ?_); (case side1 => exact Kd.CA (Kd.C_below HR0_1.out HB.out)); (case side2 => exact HC0_1.out); rintro e w' ⟨rfl, ⟨nd, rfl⟩⟩; refine ⟨_, rfl, ?_⟩) | (go_at_call 9; (with_reducible refine (hopperref14_Few.calls k _ _ l1 60 true _ ?side1 ?side2 A8.out).mono ?_); (case side1 => exact (Kd.C_below HR1.out (LA HB.out))); (case side2 => exact HC1.out); rintro e w' ⟨rfl, ⟨nd, rfl⟩⟩))
          go_meet
          case rel => exact ⟨_, (decide (a2 > (l1.length : Int))), (by first | (rw [HR_.out]; done) | rfl | (rw [HR_.out]; rfl) | (simp [HR_.out]; done) | (simp; done) | (simp [*]; done)), H', ⟨by first | omega | exact Nat.le_refl _⟩, ⟨by (with_reducible repeat (first | refine blk_drewN ?_ _ | refine blk_drew ?_ | refine blk_alloc ?_ _)); exact BK334.out⟩, ⟨LG HB.out (G1 GE334.out G0)⟩⟩
      · replace c9 := Bool.eq_false_iff.mpr c9
        subst c9
        have H1 : (hopperlaw14_FeedAtOnce.j0 k l1 a2 true a0_0 l0_1 a0_2) = some true := by rw [if_neg (show ¬ (false = true) by decide)] at H; exact H
        clear H
        have H := H1
        clear H1
        have H' := Aside0.mk H
        clear H
        have hcz13_0 : w5.cell? ⟨gb334, 0, none⟩ = some (.int .i64 a0_0) := (blk_cell BK334.out 0).trans rfl
        have hcz13_1 : w5.cell? ⟨gb334, 1, none⟩ = some (.slice A0_1 l0_1.length c0_1) := (blk_cell BK334.out 1).trans rfl
        have hcz13_2 : w5.cell? ⟨gb334, 2, none⟩ = some (.int .i64 a0_2) := (blk_cell BK334.out 2).trans rfl
        have hfz13_0 := blk_frozen BK334.out 0
        have hfz13_1 := blk_frozen BK334.out 1
        have hfz13_2 := blk_frozen BK334.out 2
        go_wp2_with (first | ((with_reducible refine gate_callee (f := 9) rfl ?_); refine goesL_ (some 11) rfl rfl Try.func9 (by kernel_rfl) rfl #[.slice A0_1 l0_1.length c0_1, .int .i64 60] rfl (by (try simp only [List.map_toArray, List.map_cons, List.map_nil]); first | done | rfl | (simp only [List.length_drop, List.length_take]; rfl)) ?_; (with_reducible refine (hopperref14_Few.calls k _ _ l0_1 60 true _ ?side1 ?side2 A6.out).mono ?_); (case side1 => exact Kd.CA (Kd.C_below HR0_1.out HB.out)); (case side2 => exact HC0_1.out); rintro e w' ⟨rfl, ⟨nd, rfl⟩⟩; refine ⟨_, rfl, ?_⟩) | (go_at_call 9; (with_reducible refine (hopperref14_Few.calls k _ _ l1 60 false _ ?side1 ?side2 A8.out).mono ?_); (case side1 => exact (Kd.C_below HR1.out (LA HB.out))); (case side2 => exact HC1.out); rintro e w' ⟨rfl, ⟨nd, rfl⟩⟩))
        go_meet
        case rel => exact ⟨_, (true), (by first | (rw [HR_.out]; done) | rfl | (rw [HR_.out]; rfl) | (simp [HR_.out]; done) | (simp; done) | (simp [*]; done)), H', ⟨by first | omega | exact Nat.le_refl _⟩, ⟨by (with_reducible repeat (first | refine blk_drewN ?_ _ | refine blk_drew ?_ | refine blk_alloc ?_ _)); exact BK334.out⟩, ⟨LG HB.out (G1 GE334.out G0)⟩⟩
    · replace c7 := Bool.eq_false_iff.mpr c7
      subst c7
      have H1 : (hopperlaw14_FeedAtOnce.j0 k l1 a2 true a0_0 l0_1 a0_2) = some true := by rw [if_neg (show ¬ (false = true) by decide)] at H; exact H
      clear H
      have H := H1
      clear H1
      have H' := Aside0.mk H
      clear H
      have hcz14_0 : w5.cell? ⟨gb334, 0, none⟩ = some (.int .i64 a0_0) := (blk_cell BK334.out 0).trans rfl
      have hcz14_1 : w5.cell? ⟨gb334, 1, none⟩ = some (.slice A0_1 l0_1.length c0_1) := (blk_cell BK334.out 1).trans rfl
      have hcz14_2 : w5.cell? ⟨gb334, 2, none⟩ = some (.int .i64 a0_2) := (blk_cell BK334.out 2).trans rfl
      have hfz14_0 := blk_frozen BK334.out 0
      have hfz14_1 := blk_frozen BK334.out 1
      have hfz14_2 := blk_frozen BK334.out 2
      go_wp2_with (first | ((with_reducible refine gate_callee (f := 9) rfl ?_); refine goesL_ (some 11) rfl rfl Try.func9 (by kernel_rfl) rfl #[.slice A0_1 l0_1.length c0_1, .int .i64 60] rfl (by (try simp only [List.map_toArray, List.map_cons, List.map_nil]); first | done | rfl | (simp only [List.length_drop, List.length_take]; rfl)) ?_; (with_reducible refine (hopperref14_Few.calls k _ _ l0_1 60 false _ ?side1 ?side2 A6.out).mono ?_); (case side1 => exact Kd.CA (Kd.C_below HR0_1.out HB.out)); (case side2 => exact HC0_1.out); rintro e w' ⟨rfl, ⟨nd, rfl⟩⟩; refine ⟨_, rfl, ?_⟩))
      go_meet
      case rel => exact ⟨_, (true), (by first | (rw [HR_.out]; done) | rfl | (rw [HR_.out]; rfl) | (simp [HR_.out]; done) | (simp; done) | (simp [*]; done)), H', ⟨by first | omega | exact Nat.le_refl _⟩, ⟨by (with_reducible repeat (first | refine blk_drewN ?_ _ | refine blk_drew ?_ | refine blk_alloc ?_ _)); exact BK334.out⟩, ⟨LG HB.out (G1 GE334.out G0)⟩⟩
  case rest =>
    clear HC4
    try clear c1
    try clear p2
    try clear c5
    try clear c7
    try clear c9
    try clear c10
    try clear c10b0
    try clear hcz11_0
    try clear hcz11_1
    try clear hcz11_2
    try clear hcz12_0
    try clear hcz12_1
    try clear hcz12_2
    try clear hcz13_0
    try clear hcz13_1
    try clear hcz13_2
    try clear hcz14_0
    try clear hcz14_1
    try clear hcz14_2
    try clear hfz11_0
    try clear hfz11_1
    try clear hfz11_2
    try clear hfz12_0
    try clear hfz12_1
    try clear hfz12_2
    try clear hfz13_0
    try clear hfz13_1
    try clear hfz13_2
    try clear hfz14_0
    try clear hfz14_1
    try clear hfz14_2
    obtain ⟨kq, x27_3, rfl, HA, HJ3, BK334, HB⟩ := hcut
    cases kq with
    | zero => exact absurd HA.out (by simp [hopperlaw14_FeedAtOnce.j0])
    | succ kj3 =>
      have H := HA.out
      clear HA
      simp only [hopperlaw14_FeedAtOnce.j0] at H
      by_cases c15 : x27_3 = true
      · subst c15
        have H1 : ((hopperlaw14_live.f kj3).bind fun t337 => (some t337)) = some true := by rw [if_pos rfl] at H; exact H
        clear H
        have H := H1
        clear H1
        replace H := Option.bind_eq_some_iff.mp H
        obtain ⟨t337, A160, H⟩ := H
        try dsimp only at H
        have A16 := Aside0.mk A160
        clear A160
        have HR_ := Aside0.mk (Option.some.inj H)
        clear H
        go_wp2_with (first | ((with_reducible refine gate_callee (f := 10) rfl ?_); refine goesL_ (some 28) rfl rfl Try.func10 (by kernel_rfl) rfl #[] rfl (by (try simp only [List.map_toArray, List.map_cons, List.map_nil]); first | done | rfl | (simp only [List.length_drop, List.length_take]; rfl)) ?_; (with_reducible refine (hopperlaw14_live.calls kj3  t337 _ A16.out).mono ?_); rintro e w17 ⟨rfl, hb⟩; refine ⟨_, rfl, ?_⟩; replace HB := Aside0.mk (below_step (LA HB.out) hb); (try clear BK334); (try clear hb); (try clear hb2); (try clear hk); (try clear hi)))
        go_ret
        exact ⟨by first | exact (congrArg (fun b => Ending.returned (.bool b)) HR_.out) | (rw [HR_.out]; done) | rfl | (rw [HR_.out]; rfl) | (simp [HR_.out]; done) | (simp [errW_none, errW_some] <;> rfl) | (simp [*, errW_none, errW_some] <;> rfl), LG HB.out (G1 GE334.out G0)⟩
      · replace c15 := Bool.eq_false_iff.mpr c15
        subst c15
        have H1 : ((feed_Tell.f kj3 a0_0 l0_1 a0_2 l1).bind fun bt338 => (if 0 ≤ a2 then (if a2 ≤ (l1.length : Int) then ((feed_Tell.f kj3 a0_0 l0_1 a0_2 (l1.take (a2 : Int).toNat)).bind fun bt348 => ((feed_Tell.f kj3 bt348.1 bt348.2.1 bt348.2.2 (l1.drop (a2 : Int).toNat)).bind fun bt357 => ((hopperref14_Same.f kj3 bt338.1 bt338.2.1 bt338.2.2 bt357.1 bt357.2.1 bt357.2.2).bind fun t363 => (if t363 = true then (if (bt338.2.1.length : Int) ≥ (l0_1.length : Int) then ((hopperlaw14_live.f kj3).bind fun t364 => (some t364)) else (some false)) else (some false))))) else (none)) else (none))) = some true := by rw [if_neg (show ¬ (false = true) by decide)] at H; exact H
        clear H
        have H := H1
        clear H1
        replace H := Option.bind_eq_some_iff.mp H
        obtain ⟨⟨t338, t339, t342⟩, A180, H⟩ := H
        try dsimp only at H
        have A18 := Aside0.mk A180
        clear A180
        by_cases c19 : 0 ≤ a2
        rotate_left
        · rw [if_neg c19] at H
          exact absurd H (by simp)
        rw [if_pos c19] at H
        have c19b0 := eq_true c19
        have c19b1 : decide (0 ≤ a2) = true := decide_eq_true c19
        clear c19
        by_cases c20 : a2 ≤ (l1.length : Int)
        rotate_left
        · rw [if_neg c20] at H
          exact absurd H (by simp)
        rw [if_pos c20] at H
        have c20b0 := eq_true c20
        have c20b1 : decide (a2 ≤ (l1.length : Int)) = true := decide_eq_true c20
        clear c20
        obtain ⟨y344, hy344⟩ : ∃ y_ : List (S36), y_ = (l1.take (a2 : Int).toNat) := ⟨_, rfl⟩
        replace H : ((feed_Tell.f kj3 a0_0 l0_1 a0_2 y344).bind fun bt348 => ((feed_Tell.f kj3 bt348.1 bt348.2.1 bt348.2.2 (l1.drop (a2 : Int).toNat)).bind fun bt357 => ((hopperref14_Same.f kj3 t338 t339 t342 bt357.1 bt357.2.1 bt357.2.2).bind fun t363 => (if t363 = true then (if (t339.length : Int) ≥ (l0_1.length : Int) then ((hopperlaw14_live.f kj3).bind fun t364 => (some t364)) else (some false)) else (some false))))) = some true := by first | (rw [hy344]; with_reducible exact H) | (have H2_ := (Option.bind_some _ _).symm.trans H; rw [hy344]; with_reducible exact H2_) | (have H2_ := (Option.bind_some _ _).symm.trans H; with_reducible exact H2_) | with_reducible exact H | (rw [hy344]; exact H) | exact H
        have Ny344 := Aside0.mk hy344
        clear hy344
        replace H := Option.bind_eq_some_iff.mp H
        obtain ⟨⟨t348, t349, t352⟩, A210, H⟩ := H
        try dsimp only at H
        have A21 := Aside0.mk A210
        clear A210
        have c22b0 := eq_true (of_decide_eq_true (by first | (with_reducible assumption) | assumption) : 0 ≤ a2)
        have c23b0 := eq_true (of_decide_eq_true (by first | (with_reducible assumption) | assumption) : a2 ≤ (l1.length : Int))
        obtain ⟨y353, hy353⟩ : ∃ y_ : List (S36), y_ = (l1.drop (a2 : Int).toNat) := ⟨_, rfl⟩
        replace H : ((feed_Tell.f kj3 t348 t349 t352 y353).bind fun bt357 => ((hopperref14_Same.f kj3 t338 t339 t342 bt357.1 bt357.2.1 bt357.2.2).bind fun t363 => (if t363 = true then (if (t339.length : Int) ≥ (l0_1.length : Int) then ((hopperlaw14_live.f kj3).bind fun t364 => (some t364)) else (some false)) else (some false)))) = some true := by first | (rw [hy353]; with_reducible exact H) | (have H2_ := (Option.bind_some _ _).symm.trans H; rw [hy353]; with_reducible exact H2_) | (have H2_ := (Option.bind_some _ _).symm.trans H; with_reducible exact H2_) | with_reducible exact H | (rw [hy353]; exact H) | exact H
        have Ny353 := Aside0.mk hy353
        clear hy353
        replace H := Option.bind_eq_some_iff.mp H
        obtain ⟨⟨t357, t358, t361⟩, A240, H⟩ := H
        try dsimp only at H
        have A24 := Aside0.mk A240
        clear A240
        replace H := Option.bind_eq_some_iff.mp H
        obtain ⟨t363, A250, H⟩ := H
        try dsimp only at H
        have A25 := Aside0.mk A250
        clear A250
        by_cases c26 : t363 = true
        rotate_left
        · replace c26 := Bool.eq_false_iff.mpr c26
          subst c26
          have H1 : (some false) = some true := by rw [if_neg (show ¬ (false = true) by decide)] at H; exact H
          clear H
          have H := H1
          clear H1
          exact absurd H (by simp)
        subst c26
        have H1 : (if (t339.length : Int) ≥ (l0_1.length : Int) then ((hopperlaw14_live.f kj3).bind fun t364 => (some t364)) else (some false)) = some true := by rw [if_pos rfl] at H; exact H
        clear H
        have H := H1
        clear H1
        by_cases c27 : (t339.length : Int) ≥ (l0_1.length : Int)
        rotate_left
        · rw [if_neg c27] at H
          have c27b0 : decide ((l0_1.length : Int) ≤ (t339.length : Int)) = false := decide_eq_false c27
          have c27b1 : decide (l0_1.length ≤ t339.length) = false := decide_eq_false (fun h => c27 (Int.ofNat_le.mpr h))
          clear c27
          exact absurd H (by simp)
        rw [if_pos c27] at H
        have c27b0 : decide ((l0_1.length : Int) ≤ (t339.length : Int)) = true := decide_eq_true c27
        have c27b1 : decide (l0_1.length ≤ t339.length) = true := decide_eq_true (Int.ofNat_le.mp c27)
        clear c27
        replace H := Option.bind_eq_some_iff.mp H
        obtain ⟨t364, A280, H⟩ := H
        try dsimp only at H
        have A28 := Aside0.mk A280
        clear A280
        have HR_ := Aside0.mk (Option.some.inj H)
        clear H
        have hcz29_0 : wc.cell? ⟨gb334, 0, none⟩ = some (.int .i64 a0_0) := (blk_cell BK334.out 0).trans rfl
        have hcz29_1 : wc.cell? ⟨gb334, 1, none⟩ = some (.slice A0_1 l0_1.length c0_1) := (blk_cell BK334.out 1).trans rfl
        have hcz29_2 : wc.cell? ⟨gb334, 2, none⟩ = some (.int .i64 a0_2) := (blk_cell BK334.out 2).trans rfl
        have hfz29_0 := blk_frozen BK334.out 0
        have hfz29_1 := blk_frozen BK334.out 1
        have hfz29_2 := blk_frozen BK334.out 2
        try go_wp2_with (first | ((with_reducible refine gate_callee (f := 19) rfl ?_); refine goesL_ (some 31) rfl rfl Try.func19 (by kernel_rfl) rfl #[.agg #[.int .i64 a0_0, .slice A0_1 l0_1.length c0_1, .int .i64 a0_2], .slice A1 l1.length c1] rfl (by (try simp only [List.map_toArray, List.map_cons, List.map_nil]); first | done | rfl | (simp only [List.length_drop, List.length_take]; rfl)) ?_; (with_reducible refine (feed_Tell.calls kj3 a0_0 _ _ l0_1 a0_2 _ _ l1 t338 t339 t342 _ ?side1 ?side2 ?side3 ?side4 A18.out).mono ?_); (case side1 => exact Kd.CA (Kd.C_below HR0_1.out HB.out)); (case side2 => exact HC0_1.out); (case side3 => exact Kd.CA (Kd.C_below HR1.out HB.out)); (case side4 => exact HC1.out); rintro e w30 ⟨v340, rfl, ho0, hb⟩; refine ⟨_, rfl, ?_⟩; have HO341 := Aside0.mk (Kd.R_lower ho0 (below_size (LA HB.out))); replace BK334 := Aside0.mk (blk_below (BA BK334.out) hb); replace HB := Aside0.mk (below_step (LA HB.out) hb); (try clear hb); (try clear hb2); (try clear hk); (try clear hi); (try clear ho0)) | ((with_reducible refine gate_dst (N := 7) rfl ?_); (try (refine gate_guard (by rfl) ?_; dsimp only)); refine box_event ?hg (N := 7) ?hd (cs := #[.int .i64 0, .slice none 0 0, .int .i64 0]) (t := 27) ?hr ?_; (case hd => rfl); (case hg => rfl); (case hr => first | (go_simp; done) | (go_simp; rfl)); intro gb343 hg w31 hbox hb; replace HO341 := Aside0.mk (Kd.R_below (Kd.RA HO341.out) hb); have BK343 := Aside0.mk (hbox); have GE343 := Aside0.mk (ge1 hg (LA HB.out)); replace HB := Aside0.mk (below_step (LA HB.out) hb); have NB334_343 := Aside0.mk ((by rw [hg]; exact Nat.ne_of_lt (blk_lt (g := gb334) (o := .cells #[.int .i64 a0_0, .slice A0_1 l0_1.length c0_1, .int .i64 a0_2] 24 (0, 0)) (BA BK334.out)) : gb334 ≠ gb343)); have NB343_334 := Aside0.mk ((by rw [hg]; exact Nat.ne_of_gt (blk_lt (g := gb334) (o := .cells #[.int .i64 a0_0, .slice A0_1 l0_1.length c0_1, .int .i64 a0_2] 24 (0, 0)) (BA BK334.out)) : gb343 ≠ gb334)); replace BK334 := Aside0.mk (blk_below (BA BK334.out) hb); clear hb hbox hg; have hnb32 := NB343_334.out; have hnc32 := NB334_343.out; obtain ⟨hcz33_0, hcz33_1, hcz33_2, hfz33_0, hfz33_1, hfz33_2⟩ := cz3 BK343.out; obtain ⟨Ao34, co34, eo34⟩ := Kd.R_slice HO341.out; subst eo34))
        have n0_ : Aside0 (Kd.R k36 36 (((w31.setCell ⟨gb343, 0, none⟩ (.int .i64 t338)).setCell ⟨gb343, 1, none⟩ (.slice Ao34 t339.length co34)).setCell ⟨gb343, 2, none⟩ (.int .i64 t342)) w.heap.size (fun _ => True) (.slice Ao34 t339.length co34) t339) := ⟨by (with_reducible repeat (first | apply Kd.R_alloc | apply Kd.R_drewN | apply Kd.R_drew)); exact Kd.R_mono (Kd.R_mv (g := gb343) (Kd.R_types HO341.out BK343.out (by decide)) (fun _ hk => hk.2)) (fun _ hk => trivial)⟩
        have n1_ : Aside0 ((((w31.setCell ⟨gb343, 0, none⟩ (.int .i64 t338)).setCell ⟨gb343, 1, none⟩ (.slice Ao34 t339.length co34)).setCell ⟨gb343, 2, none⟩ (.int .i64 t342)).heap[gb334]? = some (.cells #[.int .i64 a0_0, .slice A0_1 l0_1.length c0_1, .int .i64 a0_2] 24 (0, 0))) := ⟨by exact BF BK334.out NB334_343.out⟩
        have n2_ : Aside0 ((((w31.setCell ⟨gb343, 0, none⟩ (.int .i64 t338)).setCell ⟨gb343, 1, none⟩ (.slice Ao34 t339.length co34)).setCell ⟨gb343, 2, none⟩ (.int .i64 t342)).heap[gb343]? = some (.cells #[.int .i64 t338, .slice Ao34 t339.length co34, .int .i64 t342] 27 (0, 0))) := ⟨by exact BP BK343.out (by rfl)⟩
        have n3_ : Aside0 (Below w.heap.size w (((w31.setCell ⟨gb343, 0, none⟩ (.int .i64 t338)).setCell ⟨gb343, 1, none⟩ (.slice Ao34 t339.length co34)).setCell ⟨gb343, 2, none⟩ (.int .i64 t342))) := ⟨LG HB.out (G1 GE334.out (G1 GE343.out G0))⟩
        (try clear HO341)
        (try clear BK334)
        (try clear BK343)
        (try clear HB)
        generalize (((w31.setCell ⟨gb343, 0, none⟩ (.int .i64 t338)).setCell ⟨gb343, 1, none⟩ (.slice Ao34 t339.length co34)).setCell ⟨gb343, 2, none⟩ (.int .i64 t342)) = w35 at n0_ n1_ n2_ n3_ ⊢
        have HO341 := n0_
        have BK334 := n1_
        have BK343 := n2_
        have HB := n3_
        clear n0_ n1_ n2_ n3_
        have n0_ := Aside0.mk (Kd.R_drew HO341.out)
        have n1_ := Aside0.mk (blk_drew BK334.out)
        have n2_ := Aside0.mk (blk_drew BK343.out)
        have n3_ := Aside0.mk (below_drew1 HB.out)
        clear HO341
        clear BK334
        clear BK343
        clear HB
        have HO341 := n0_
        have BK334 := n1_
        have BK343 := n2_
        have HB := n3_
        clear n0_ n1_ n2_ n3_
        have q37 : (a2 : Int) ≤ ((l1.length : Int) : Int) := of_decide_eq_true (by first | (with_reducible assumption) | assumption)
        obtain ⟨i037, hi037, _, hsz37, _⟩ := info_parts info36
        have hroom37 : l1.length ≤ c1 := HC1.out
        have hC37 : Kd.C k36 _ A1 l1.length l1 := HR1.out
        have hcut37 := cut_to (P := Try.prog) 22 36 .i64 Try.underlying22 hi037 A1 l1.length c1 a2 (of_decide_eq_true (by first | (with_reducible assumption) | assumption)) q37 hroom37
        have hr37 := Kd.C_take (m := (a2 : Int).toNat) hC37 (by omega)
        have hy37 : y344.length = (a2 : Int).toNat := (by rw [Ny344.out, List.length_take]; omega)
        rw [← Ny344.out] at hr37
        rw [← hy37] at hcut37
        have HR347 := Aside0.mk hr37
        have HC347 := Aside0.mk (show y344.length ≤ c1 from by omega)
        clear hr37 hC37 hroom37 hi037 hsz37
        have KY37 := Aside0.mk hy37
        clear hy37
        replace q37 := eq_true q37
        have q38 : (a2 : Int) ≤ ((l1.length : Int) : Int) := of_decide_eq_true (by first | (with_reducible assumption) | assumption)
        obtain ⟨i038, hi038, _, hsz38, _⟩ := info_parts info36
        have hroom38 : l1.length ≤ c1 := HC1.out
        have hC38 : Kd.C k36 _ A1 l1.length l1 := HR1.out
        have q038 : (0 : Int) ≤ (a2 : Int) := of_decide_eq_true (by first | (with_reducible assumption) | assumption)
        have hcut38 := cut_from (P := Try.prog) 22 36 .i64 Try.underlying22 hi038 8 hsz38 A1 l1.length c1 a2 q038 q38
        have hr38 := Kd.C_drop (m := (a2 : Int).toNat) (c := c1) hC38 (by omega) hroom38
        obtain ⟨A38, hA38⟩ : ∃ A_, A_ = (if c1 = (a2 : Int).toNat then A1 else (A1 : Option Addr).map (·.add ((a2 : Int).toNat * 8))) := ⟨_, rfl⟩
        obtain ⟨c38, hc38⟩ : ∃ c_, c_ = c1 - (a2 : Int).toNat := ⟨_, rfl⟩
        have hy38 : y353.length = l1.length - (a2 : Int).toNat := (by rw [Ny353.out, List.length_drop] <;> omega)
        rw [show (l1).drop (a2 : Int).toNat = y353 from Ny353.out.symm] at hr38
        replace hr38 : Kd.C k36 _ A38 y353.length y353 := (by rw [hA38]; exact hr38)
        rw [← hy38, ← hA38, ← hc38] at hcut38
        have HR356 := Aside0.mk hr38
        have HC356 := Aside0.mk (show y353.length ≤ c38 from by rw [hy38, hc38]; exact Nat.sub_le_sub_right hroom38 _)
        clear hr38 hC38 hroom38 hi038 hsz38 hc38
        have KY38 := Aside0.mk hy38
        have KA38 := Aside0.mk hA38
        clear hy38 hA38
        replace q38 := eq_true q38
        refine start_ (n := 11) (S := fun w' => w'.cell? ⟨gb334, 0, none⟩ = some (.int .i64 a0_0) ∧ w'.cell? ⟨gb334, 1, none⟩ = some (.slice A0_1 l0_1.length c0_1) ∧ w'.cell? ⟨gb334, 2, none⟩ = some (.int .i64 a0_2)) (ds := []) (tf 0 11) (by kernel_rfl) rfl rfl ⟨(blk_cell BK334.out 0).trans rfl, (blk_cell BK334.out 1).trans rfl, (blk_cell BK334.out 2).trans rfl⟩ (fun hHeld => ?_); refine with_tabW hopperlaw14_FeedAtOnce.tab4 hopperlaw14_FeedAtOnce.bits4 (fun HT_ HW_ => ?_)
        generalize w35.drew = w36 at HO341 BK334 BK343 HB HR347 HR356 hHeld ⊢
        refine pure_ (i := 1) (N := some 33) (v := ?_) (a' := ?_) #[false, true, false, false, false, false, false, false, false, false, false] rfl rfl (any_of HT_.out (by kernel_rfl)) (fun _ _ _ h => h) (Or.inl ⟨by rfl, ?_⟩) ?_ ?_
        rotate_left
        · intro w'
          go_simp
          with_reducible rfl
        rotate_left
        · simp only [Act.put, PU, i64_w, i32_w]
          rfl
        refine pure_ (i := 2) (N := some 34) (v := ?_) (a' := ?_) #[false, true, true, false, false, false, false, false, false, false, false] rfl rfl (any_of HT_.out (by kernel_rfl)) (fun _ _ _ h => h) (Or.inl ⟨by rfl, ?_⟩) ?_ ?_
        rotate_left
        · intro w'
          go_simp
          with_reducible rfl
        rotate_left
        · simp only [Act.put, PU, i64_w, i32_w]
          rfl
        refine pure_ (i := 3) (N := some 35) (v := ?_) (a' := ?_) #[false, true, true, true, false, false, false, false, false, false, false] rfl rfl (any_of HT_.out (by kernel_rfl)) (fun _ _ _ h => h) (Or.inl ⟨by rfl, ?_⟩) ?_ ?_
        rotate_left
        · intro w'
          go_simp
          with_reducible rfl
        rotate_left
        · simp only [Act.put, PU, i64_w, i32_w]
          rfl
        refine pure_ (i := 5) (N := some 37) (v := ?_) (a' := ?_) #[false, true, true, true, false, true, false, false, false, false, false] rfl rfl (any_of HT_.out (by kernel_rfl)) (fun _ _ _ h => h) (Or.inl ⟨by rfl, ?_⟩) ?_ ?_
        rotate_left
        · intro w'
          go_simp
          with_reducible rfl
        rotate_left
        · simp only [Act.put, PU, i64_w, i32_w]
          rfl
        refine pure_ (i := 6) (N := some 38) (v := ?_) (a' := ?_) #[false, true, true, true, false, true, true, false, false, false, false] rfl rfl (any_of HT_.out (by kernel_rfl)) (fun _ _ _ h => h) (Or.inl ⟨by rfl, ?_⟩) ?_ ?_
        rotate_left
        · intro w'
          go_simp
          with_reducible rfl
        rotate_left
        · simp only [Act.put, PU, i64_w, i32_w]
          rfl
        refine pure_ (i := 7) (N := some 39) (v := ?_) (a' := ?_) #[false, true, true, true, false, true, true, true, false, false, false] rfl rfl (any_of HT_.out (by kernel_rfl)) (fun _ _ _ h => h) (Or.inl ⟨by rfl, ?_⟩) ?_ ?_
        rotate_left
        · intro w'
          go_simp
          with_reducible rfl
        rotate_left
        · simp only [Act.put, PU, i64_w, i32_w]
          rfl
        refine take_ (i := 0) (N := some 32) (v := ?_) (a' := ?_) #[true, true, true, true, false, true, true, true, false, false, false] rfl rfl (take_ofW HT_.out HW_.out (by kernel_rfl)) (fun _ _ _ h => h) (Or.inl ⟨by rfl, ?_⟩) hHeld ?_ ?_
        rotate_left
        · rintro w' ⟨s0, s1, s2⟩
          go_simp
          with_reducible rfl
        rotate_left
        · simp only [Act.put, PU, i64_w, i32_w]
          rfl
        refine join_ (σ := Value × Value × Nat) 1 (tf 10 11) (fun s_ => [(36, .agg #[.int .i64 t348, s_.1, .int .i64 t352]), (40, .agg #[.int .i64 t357, s_.2.1, .int .i64 t361]), (8, .pointer (some ⟨s_.2.2, 0, none⟩))]) (fun s_ w' => (w'.cell? ⟨gb334, 0, none⟩ = some (.int .i64 a0_0) ∧ w'.cell? ⟨gb334, 1, none⟩ = some (.slice A0_1 l0_1.length c0_1) ∧ w'.cell? ⟨gb334, 2, none⟩ = some (.int .i64 a0_2)) ∧ (Kd.R k36 36 w' w.heap.size (fun k_ => some k_ ≠ (s_.1 : Value).ownBlock ∧ some k_ ≠ (s_.2.1 : Value).ownBlock) (.slice Ao34 t339.length co34) t339) ∧ (Kd.R k36 36 w' w.heap.size (fun k_ => some k_ ≠ (.slice Ao34 t339.length co34 : Value).ownBlock ∧ some k_ ≠ (s_.2.1 : Value).ownBlock) s_.1 t349) ∧ (Kd.R k36 36 w' w.heap.size (fun k_ => some k_ ≠ (.slice Ao34 t339.length co34 : Value).ownBlock ∧ some k_ ≠ (s_.1 : Value).ownBlock) s_.2.1 t358) ∧ (w'.heap[gb334]? = some (.cells #[.int .i64 a0_0, .slice A0_1 l0_1.length c0_1, .int .i64 a0_2] 24 (0, 0))) ∧ (w'.heap[gb343]? = some (.cells #[.int .i64 t338, .slice Ao34 t339.length co34, .int .i64 t342] 27 (0, 0))) ∧ (w'.heap[s_.2.2]? = some (.cells #[.int .i64 0, .slice none 0 0, .int .i64 0] 27 (0, 0))) ∧ (w.heap.size ≤ s_.2.2) ∧ (w.heap.size ≤ s_.2.2) ∧ (gb334 ≠ s_.2.2) ∧ (s_.2.2 ≠ gb334) ∧ (gb343 ≠ s_.2.2) ∧ (s_.2.2 ≠ gb343) ∧ (Below w.heap.size w w')) ?_ ?_
        rotate_left
        · intro hCont
          refine two_ (i := 4) (j := 9) (Ni := some 36) (Nj := some 8) (tf 8 11) #[true, true, true, true, false, true, true, true, false, true, false] rfl rfl rfl rfl (two_of HT_.out (by kernel_rfl)) (by decide) (by decide) (fun K hK => ?_) (fun K hK => ?_)
          · skip
            refine goes_ Try.func19 (by kernel_rfl) rfl #[.agg #[.int .i64 a0_0, .slice A0_1 l0_1.length c0_1, .int .i64 a0_2], .slice A1 y344.length c1] (by rfl) rfl rfl (by (try simp only [List.map_toArray, List.map_cons, List.map_nil]); first | done | rfl | (simp only [List.length_drop, List.length_take]; rfl)) ?_
            with_reducible refine (feed_Tell.calls kj3 a0_0 _ _ l0_1 a0_2 _ _ y344 t348 t349 t352 _ ?side1 ?side2 ?side3 ?side4 A21.out).mono ?_
            (case side1 => exact Kd.CA (Kd.C_below HR0_1.out HB.out))
            (case side2 => exact HC0_1.out)
            (case side3 => exact Kd.CA (Kd.C_below HR347.out HB.out))
            (case side4 => exact HC347.out)
            rintro e w39 ⟨v350, rfl, ho0, hb⟩
            refine ⟨_, rfl, ?_⟩
            have n0_ := Aside0.mk (Kd.R_elder' (Kd.RA HO341.out) (Kd.R_base ho0) hb)
            have n1_ := Aside0.mk (Kd.R_lower (Kd.R_new' ho0 (Kd.R_lt (Kd.RA HO341.out))) (below_size (LG HB.out (G1 GE334.out (G1 GE343.out G0)))))
            have n2_ := Aside0.mk (blk_below (BA BK334.out) hb)
            have n3_ := Aside0.mk (blk_below (BA BK343.out) hb)
            have n4_ := Aside0.mk (below_step (LG HB.out (G1 GE334.out (G1 GE343.out G0))) hb)
            clear HO341
            clear BK334
            clear BK343
            clear HB
            have HO341 := n0_
            have HO351 := n1_
            have BK334 := n2_
            have BK343 := n3_
            have HB := n4_
            clear n0_ n1_ n2_ n3_ n4_
            (try clear hb)
            (try clear hb2)
            (try clear hk)
            (try clear hi)
            (try clear ho0)
            obtain ⟨Ao40, co40, eo40⟩ := Kd.R_slice HO351.out
            (first | subst eo40 | (injection eo40 with f1_ f2_ f3_; have f4_ := f1_.symm; have f5_ := f3_.symm; clear f1_ f2_ f3_; subst f4_; subst f5_))
            refine hK.out _ _ ⟨(blk_cell BK334.out 0).trans rfl, (blk_cell BK334.out 1).trans rfl, (blk_cell BK334.out 2).trans rfl⟩ (fun hHeld => ?_)
            clear hK K
            refine norm_ (a' := ?_) ?_ ?_
            rotate_left
            · show Act.put _ (some 36) _ = _
              simp only [Act.put, PU, i64_w, i32_w]
              rfl
            refine two_ (i := 8) (j := 9) (Ni := some 40) (Nj := some 8) (tf 9 11) #[true, true, true, true, true, true, true, true, false, true, false] rfl rfl rfl rfl (two_of HT_.out (by kernel_rfl)) (by decide) (by decide) (fun K hK => ?_) (fun K hK => ?_)
            · skip
              refine goes_ Try.func19 (by kernel_rfl) rfl #[.agg #[.int .i64 t348, .slice Ao40 t349.length co40, .int .i64 t352], .slice A38 y353.length c38] (by rfl) rfl rfl (by (try simp only [List.map_toArray, List.map_cons, List.map_nil]); first | done | rfl | (simp only [List.length_drop, List.length_take]; rfl)) ?_
              with_reducible refine (feed_Tell.calls kj3 t348 _ _ t349 t352 _ _ y353 t357 t358 t361 _ ?side1 ?side2 ?side3 ?side4 A24.out).mono ?_
              (case side1 => exact Kd.CA (Kd.R_reads' HO351.out).2.2)
              (case side2 => exact (Kd.R_reads' HO351.out).2.1)
              (case side3 => exact Kd.CA (Kd.C_below HR356.out HB.out))
              (case side4 => exact HC356.out)
              rintro e w41 ⟨v359, rfl, ho0, hb⟩
              refine ⟨_, rfl, ?_⟩
              have n0_ := Aside0.mk (Kd.R_elder' (Kd.RA HO341.out) (Kd.R_base ho0) hb)
              have n1_ := Aside0.mk (Kd.R_elder' (Kd.RA HO351.out) (Kd.R_base ho0) hb)
              have n2_ := Aside0.mk (Kd.R_lower (Kd.R_new' (Kd.R_new' ho0 (Kd.R_lt (Kd.RA HO341.out))) (Kd.R_lt (Kd.RA HO351.out))) (below_size (LG HB.out (G1 GE334.out (G1 GE343.out G0)))))
              have n3_ := Aside0.mk (blk_below (BA BK334.out) hb)
              have n4_ := Aside0.mk (blk_below (BA BK343.out) hb)
              have n5_ := Aside0.mk (below_step (LG HB.out (G1 GE334.out (G1 GE343.out G0))) hb)
              clear HO341
              clear HO351
              clear BK334
              clear BK343
              clear HB
              have HO341 := n0_
              have HO351 := n1_
              have HO360 := n2_
              have BK334 := n3_
              have BK343 := n4_
              have HB := n5_
              clear n0_ n1_ n2_ n3_ n4_ n5_
              (try clear hb)
              (try clear hb2)
              (try clear hk)
              (try clear hi)
              (try clear ho0)
              refine hK.out _ _ ⟨(blk_cell BK334.out 0).trans rfl, (blk_cell BK334.out 1).trans rfl, (blk_cell BK334.out 2).trans rfl⟩ (fun hHeld => ?_)
              clear hK K
              refine norm_ (a' := ?_) ?_ ?_
              rotate_left
              · show Act.put _ (some 40) _ = _
                simp only [Act.put, PU, i64_w, i32_w]
                rfl
              refine one_ (i := 9) (N := some 8) (tf 10 11) rfl rfl (one_of HT_.out (by kernel_rfl)) (by decide) (fun K hK => ?_)
              refine box_step ?hg (N := 8) ?hd (cs := #[.int .i64 0, .slice none 0 0, .int .i64 0]) (t := 27) ?hr ?_; (case hd => rfl); (case hg => rfl); (case hr => first | (go_simp; done) | (go_simp; rfl))
              intro gb362 hg w42 hbox hb
              have n0_ := Aside0.mk (Kd.R_below (Kd.RA HO341.out) hb)
              have n1_ := Aside0.mk (Kd.R_below (Kd.RA HO351.out) hb)
              have n2_ := Aside0.mk (Kd.R_below (Kd.RA HO360.out) hb)
              have n3_ := Aside0.mk (blk_below (BA BK334.out) hb)
              have n4_ := Aside0.mk (blk_below (BA BK343.out) hb)
              have n5_ := Aside0.mk (below_step (LG HB.out (G1 GE334.out (G1 GE343.out G0))) hb)
              have n6_ := Aside0.mk (hbox)
              have n7_ := Aside0.mk (ge1 hg (LG HB.out (G1 GE334.out (G1 GE343.out G0))))
              have n8_ := Aside0.mk (ge1 hg (LG HB.out (G1 GE334.out (G1 GE343.out G0))))
              have n9_ := Aside0.mk ((by rw [hg]; exact Nat.ne_of_lt (blk_lt (g := gb334) (o := .cells #[.int .i64 a0_0, .slice A0_1 l0_1.length c0_1, .int .i64 a0_2] 24 (0, 0)) (BA BK334.out)) : gb334 ≠ gb362))
              have n10_ := Aside0.mk ((by rw [hg]; exact Nat.ne_of_gt (blk_lt (g := gb334) (o := .cells #[.int .i64 a0_0, .slice A0_1 l0_1.length c0_1, .int .i64 a0_2] 24 (0, 0)) (BA BK334.out)) : gb362 ≠ gb334))
              have n11_ := Aside0.mk ((by rw [hg]; exact Nat.ne_of_lt (blk_lt (g := gb343) (o := .cells #[.int .i64 t338, .slice Ao34 t339.length co34, .int .i64 t342] 27 (0, 0)) (BA BK343.out)) : gb343 ≠ gb362))
              have n12_ := Aside0.mk ((by rw [hg]; exact Nat.ne_of_gt (blk_lt (g := gb343) (o := .cells #[.int .i64 t338, .slice Ao34 t339.length co34, .int .i64 t342] 27 (0, 0)) (BA BK343.out)) : gb362 ≠ gb343))
              clear HO341
              clear HO351
              clear HO360
              clear BK334
              clear BK343
              clear HB
              have HO341 := n0_
              have HO351 := n1_
              have HO360 := n2_
              have BK334 := n3_
              have BK343 := n4_
              have HB := n5_
              have BK362 := n6_
              have GW362 := n7_
              have GE362 := n8_
              have NB334_362 := n9_
              have NB362_334 := n10_
              have NB343_362 := n11_
              have NB362_343 := n12_
              clear n0_ n1_ n2_ n3_ n4_ n5_ n6_ n7_ n8_ n9_ n10_ n11_ n12_
              clear hb hbox hg
              refine hK.out _ _ ⟨(blk_cell BK334.out 0).trans rfl, (blk_cell BK334.out 1).trans rfl, (blk_cell BK334.out 2).trans rfl⟩ (fun hHeld => ?_)
              clear hK K
              refine norm_ (a' := ?_) ?_ ?_
              rotate_left
              · show Act.put _ (some 8) _ = _
                simp only [Act.put, PU, i64_w, i32_w]
                rfl
              exact norm_ (by simp only [putAll, Act.put, PU]) (hCont (.slice Ao40 t349.length co40, v359, gb362) _ ⟨hHeld, (Kd.RA (Kd.R_mono HO341.out (fun _ hk => ⟨hk.1.2, hk.2⟩))), (Kd.RA (Kd.R_mono HO351.out (fun _ hk => ⟨hk.1.2, hk.2⟩))), (Kd.RA (Kd.R_mono HO360.out (fun _ hk => ⟨hk.1.2, hk.2⟩))), (BA BK334.out), (BA BK343.out), (BA BK362.out), GW362.out, GE362.out, NB334_362.out, NB362_334.out, NB343_362.out, NB362_343.out, (LG HB.out (G1 GE334.out (G1 GE343.out (G1 GE362.out G0))))⟩)
            · skip
              refine box_step ?hg (N := 8) ?hd (cs := #[.int .i64 0, .slice none 0 0, .int .i64 0]) (t := 27) ?hr ?_; (case hd => rfl); (case hg => rfl); (case hr => first | (go_simp; done) | (go_simp; rfl))
              intro gb362 hg w40 hbox hb
              have n0_ := Aside0.mk (Kd.R_below (Kd.RA HO341.out) hb)
              have n1_ := Aside0.mk (Kd.R_below (Kd.RA HO351.out) hb)
              have n2_ := Aside0.mk (blk_below (BA BK334.out) hb)
              have n3_ := Aside0.mk (blk_below (BA BK343.out) hb)
              have n4_ := Aside0.mk (below_step (LG HB.out (G1 GE334.out (G1 GE343.out G0))) hb)
              have n5_ := Aside0.mk (hbox)
              have n6_ := Aside0.mk (ge1 hg (LG HB.out (G1 GE334.out (G1 GE343.out G0))))
              have n7_ := Aside0.mk (ge1 hg (LG HB.out (G1 GE334.out (G1 GE343.out G0))))
              have n8_ := Aside0.mk ((by rw [hg]; exact Nat.ne_of_lt (blk_lt (g := gb334) (o := .cells #[.int .i64 a0_0, .slice A0_1 l0_1.length c0_1, .int .i64 a0_2] 24 (0, 0)) (BA BK334.out)) : gb334 ≠ gb362))
              have n9_ := Aside0.mk ((by rw [hg]; exact Nat.ne_of_gt (blk_lt (g := gb334) (o := .cells #[.int .i64 a0_0, .slice A0_1 l0_1.length c0_1, .int .i64 a0_2] 24 (0, 0)) (BA BK334.out)) : gb362 ≠ gb334))
              have n10_ := Aside0.mk ((by rw [hg]; exact Nat.ne_of_lt (blk_lt (g := gb343) (o := .cells #[.int .i64 t338, .slice Ao34 t339.length co34, .int .i64 t342] 27 (0, 0)) (BA BK343.out)) : gb343 ≠ gb362))
              have n11_ := Aside0.mk ((by rw [hg]; exact Nat.ne_of_gt (blk_lt (g := gb343) (o := .cells #[.int .i64 t338, .slice Ao34 t339.length co34, .int .i64 t342] 27 (0, 0)) (BA BK343.out)) : gb362 ≠ gb343))
              clear HO341
              clear HO351
              clear BK334
              clear BK343
              clear HB
              have HO341 := n0_
              have HO351 := n1_
              have BK334 := n2_
              have BK343 := n3_
              have HB := n4_
              have BK362 := n5_
              have GW362 := n6_
              have GE362 := n7_
              have NB334_362 := n8_
              have NB362_334 := n9_
              have NB343_362 := n10_
              have NB362_343 := n11_
              clear n0_ n1_ n2_ n3_ n4_ n5_ n6_ n7_ n8_ n9_ n10_ n11_
              clear hb hbox hg
              obtain ⟨Ao41, co41, eo41⟩ := Kd.R_slice HO351.out
              (first | subst eo41 | (injection eo41 with f1_ f2_ f3_; have f4_ := f1_.symm; have f5_ := f3_.symm; clear f1_ f2_ f3_; subst f4_; subst f5_))
              refine hK.out _ _ ⟨(blk_cell BK334.out 0).trans rfl, (blk_cell BK334.out 1).trans rfl, (blk_cell BK334.out 2).trans rfl⟩ (fun hHeld => ?_)
              clear hK K
              refine norm_ (a' := ?_) ?_ ?_
              rotate_left
              · show Act.put _ (some 8) _ = _
                simp only [Act.put, PU, i64_w, i32_w]
                rfl
              refine one_ (i := 8) (N := some 40) (tf 10 11) rfl rfl (one_of HT_.out (by kernel_rfl)) (by decide) (fun K hK => ?_)
              refine goes_ Try.func19 (by kernel_rfl) rfl #[.agg #[.int .i64 t348, .slice Ao41 t349.length co41, .int .i64 t352], .slice A38 y353.length c38] (by rfl) rfl rfl (by (try simp only [List.map_toArray, List.map_cons, List.map_nil]); first | done | rfl | (simp only [List.length_drop, List.length_take]; rfl)) ?_
              with_reducible refine (feed_Tell.calls kj3 t348 _ _ t349 t352 _ _ y353 t357 t358 t361 _ ?side1 ?side2 ?side3 ?side4 A24.out).mono ?_
              (case side1 => exact Kd.CA (Kd.R_reads' HO351.out).2.2)
              (case side2 => exact (Kd.R_reads' HO351.out).2.1)
              (case side3 => exact Kd.CA (Kd.C_below HR356.out HB.out))
              (case side4 => exact HC356.out)
              rintro e w42 ⟨v359, rfl, ho0, hb⟩
              refine ⟨_, rfl, ?_⟩
              have n0_ := Aside0.mk (Kd.R_elder' (Kd.RA HO341.out) (Kd.R_base ho0) hb)
              have n1_ := Aside0.mk (Kd.R_elder' (Kd.RA HO351.out) (Kd.R_base ho0) hb)
              have n2_ := Aside0.mk (Kd.R_lower (Kd.R_new' (Kd.R_new' ho0 (Kd.R_lt (Kd.RA HO341.out))) (Kd.R_lt (Kd.RA HO351.out))) (below_size (LG HB.out (G1 GE334.out (G1 GE343.out (G1 GE362.out G0))))))
              have n3_ := Aside0.mk (blk_below (BA BK334.out) hb)
              have n4_ := Aside0.mk (blk_below (BA BK343.out) hb)
              have n5_ := Aside0.mk (blk_below (BA BK362.out) hb)
              have n6_ := Aside0.mk (below_step (LG HB.out (G1 GE334.out (G1 GE343.out (G1 GE362.out G0)))) hb)
              clear HO341
              clear HO351
              clear BK334
              clear BK343
              clear BK362
              clear HB
              have HO341 := n0_
              have HO351 := n1_
              have HO360 := n2_
              have BK334 := n3_
              have BK343 := n4_
              have BK362 := n5_
              have HB := n6_
              clear n0_ n1_ n2_ n3_ n4_ n5_ n6_
              (try clear hb)
              (try clear hb2)
              (try clear hk)
              (try clear hi)
              (try clear ho0)
              refine hK.out _ _ ⟨(blk_cell BK334.out 0).trans rfl, (blk_cell BK334.out 1).trans rfl, (blk_cell BK334.out 2).trans rfl⟩ (fun hHeld => ?_)
              clear hK K
              refine norm_ (a' := ?_) ?_ ?_
              rotate_left
              · show Act.put _ (some 40) _ = _
                simp only [Act.put, PU, i64_w, i32_w]
                rfl
              exact norm_ (by simp only [putAll, Act.put, PU]) (hCont (.slice Ao41 t349.length co41, v359, gb362) _ ⟨hHeld, (Kd.RA (Kd.R_mono HO341.out (fun _ hk => ⟨hk.1.2, hk.2⟩))), (Kd.RA (Kd.R_mono HO351.out (fun _ hk => ⟨hk.1.2, hk.2⟩))), (Kd.RA (Kd.R_mono HO360.out (fun _ hk => ⟨hk.1.2, hk.2⟩))), (BA BK334.out), (BA BK343.out), (BA BK362.out), GW362.out, GE362.out, NB334_362.out, NB362_334.out, NB343_362.out, NB362_343.out, (LG HB.out (G1 GE334.out (G1 GE343.out (G1 GE362.out G0))))⟩)
          · skip
            refine box_step ?hg (N := 8) ?hd (cs := #[.int .i64 0, .slice none 0 0, .int .i64 0]) (t := 27) ?hr ?_; (case hd => rfl); (case hg => rfl); (case hr => first | (go_simp; done) | (go_simp; rfl))
            intro gb362 hg w39 hbox hb
            have n0_ := Aside0.mk (Kd.R_below (Kd.RA HO341.out) hb)
            have n1_ := Aside0.mk (blk_below (BA BK334.out) hb)
            have n2_ := Aside0.mk (blk_below (BA BK343.out) hb)
            have n3_ := Aside0.mk (below_step (LG HB.out (G1 GE334.out (G1 GE343.out G0))) hb)
            have n4_ := Aside0.mk (hbox)
            have n5_ := Aside0.mk (ge1 hg (LG HB.out (G1 GE334.out (G1 GE343.out G0))))
            have n6_ := Aside0.mk (ge1 hg (LG HB.out (G1 GE334.out (G1 GE343.out G0))))
            have n7_ := Aside0.mk ((by rw [hg]; exact Nat.ne_of_lt (blk_lt (g := gb334) (o := .cells #[.int .i64 a0_0, .slice A0_1 l0_1.length c0_1, .int .i64 a0_2] 24 (0, 0)) (BA BK334.out)) : gb334 ≠ gb362))
            have n8_ := Aside0.mk ((by rw [hg]; exact Nat.ne_of_gt (blk_lt (g := gb334) (o := .cells #[.int .i64 a0_0, .slice A0_1 l0_1.length c0_1, .int .i64 a0_2] 24 (0, 0)) (BA BK334.out)) : gb362 ≠ gb334))
            have n9_ := Aside0.mk ((by rw [hg]; exact Nat.ne_of_lt (blk_lt (g := gb343) (o := .cells #[.int .i64 t338, .slice Ao34 t339.length co34, .int .i64 t342] 27 (0, 0)) (BA BK343.out)) : gb343 ≠ gb362))
            have n10_ := Aside0.mk ((by rw [hg]; exact Nat.ne_of_gt (blk_lt (g := gb343) (o := .cells #[.int .i64 t338, .slice Ao34 t339.length co34, .int .i64 t342] 27 (0, 0)) (BA BK343.out)) : gb362 ≠ gb343))
            clear HO341
            clear BK334
            clear BK343
            clear HB
            have HO341 := n0_
            have BK334 := n1_
            have BK343 := n2_
            have HB := n3_
            have BK362 := n4_
            have GW362 := n5_
            have GE362 := n6_
            have NB334_362 := n7_
            have NB362_334 := n8_
            have NB343_362 := n9_
            have NB362_343 := n10_
            clear n0_ n1_ n2_ n3_ n4_ n5_ n6_ n7_ n8_ n9_ n10_
            clear hb hbox hg
            refine hK.out _ _ ⟨(blk_cell BK334.out 0).trans rfl, (blk_cell BK334.out 1).trans rfl, (blk_cell BK334.out 2).trans rfl⟩ (fun hHeld => ?_)
            clear hK K
            refine norm_ (a' := ?_) ?_ ?_
            rotate_left
            · show Act.put _ (some 8) _ = _
              simp only [Act.put, PU, i64_w, i32_w]
              rfl
            refine one_ (i := 4) (N := some 36) #[true, true, true, true, true, true, true, true, false, true, false] rfl rfl (one_of HT_.out (by kernel_rfl)) (by decide) (fun K hK => ?_)
            refine goes_ Try.func19 (by kernel_rfl) rfl #[.agg #[.int .i64 a0_0, .slice A0_1 l0_1.length c0_1, .int .i64 a0_2], .slice A1 y344.length c1] (by rfl) rfl rfl (by (try simp only [List.map_toArray, List.map_cons, List.map_nil]); first | done | rfl | (simp only [List.length_drop, List.length_take]; rfl)) ?_
            with_reducible refine (feed_Tell.calls kj3 a0_0 _ _ l0_1 a0_2 _ _ y344 t348 t349 t352 _ ?side1 ?side2 ?side3 ?side4 A21.out).mono ?_
            (case side1 => exact Kd.CA (Kd.C_below HR0_1.out HB.out))
            (case side2 => exact HC0_1.out)
            (case side3 => exact Kd.CA (Kd.C_below HR347.out HB.out))
            (case side4 => exact HC347.out)
            rintro e w40 ⟨v350, rfl, ho0, hb⟩
            refine ⟨_, rfl, ?_⟩
            have n0_ := Aside0.mk (Kd.R_elder' (Kd.RA HO341.out) (Kd.R_base ho0) hb)
            have n1_ := Aside0.mk (Kd.R_lower (Kd.R_new' ho0 (Kd.R_lt (Kd.RA HO341.out))) (below_size (LG HB.out (G1 GE334.out (G1 GE343.out (G1 GE362.out G0))))))
            have n2_ := Aside0.mk (blk_below (BA BK334.out) hb)
            have n3_ := Aside0.mk (blk_below (BA BK343.out) hb)
            have n4_ := Aside0.mk (blk_below (BA BK362.out) hb)
            have n5_ := Aside0.mk (below_step (LG HB.out (G1 GE334.out (G1 GE343.out (G1 GE362.out G0)))) hb)
            clear HO341
            clear BK334
            clear BK343
            clear BK362
            clear HB
            have HO341 := n0_
            have HO351 := n1_
            have BK334 := n2_
            have BK343 := n3_
            have BK362 := n4_
            have HB := n5_
            clear n0_ n1_ n2_ n3_ n4_ n5_
            (try clear hb)
            (try clear hb2)
            (try clear hk)
            (try clear hi)
            (try clear ho0)
            obtain ⟨Ao41, co41, eo41⟩ := Kd.R_slice HO351.out
            (first | subst eo41 | (injection eo41 with f1_ f2_ f3_; have f4_ := f1_.symm; have f5_ := f3_.symm; clear f1_ f2_ f3_; subst f4_; subst f5_))
            refine hK.out _ _ ⟨(blk_cell BK334.out 0).trans rfl, (blk_cell BK334.out 1).trans rfl, (blk_cell BK334.out 2).trans rfl⟩ (fun hHeld => ?_)
            clear hK K
            refine norm_ (a' := ?_) ?_ ?_
            rotate_left
            · show Act.put _ (some 36) _ = _
              simp only [Act.put, PU, i64_w, i32_w]
              rfl
            refine one_ (i := 8) (N := some 40) (tf 10 11) rfl rfl (one_of HT_.out (by kernel_rfl)) (by decide) (fun K hK => ?_)
            refine goes_ Try.func19 (by kernel_rfl) rfl #[.agg #[.int .i64 t348, .slice Ao41 t349.length co41, .int .i64 t352], .slice A38 y353.length c38] (by rfl) rfl rfl (by (try simp only [List.map_toArray, List.map_cons, List.map_nil]); first | done | rfl | (simp only [List.length_drop, List.length_take]; rfl)) ?_
            with_reducible refine (feed_Tell.calls kj3 t348 _ _ t349 t352 _ _ y353 t357 t358 t361 _ ?side1 ?side2 ?side3 ?side4 A24.out).mono ?_
            (case side1 => exact Kd.CA (Kd.R_reads' HO351.out).2.2)
            (case side2 => exact (Kd.R_reads' HO351.out).2.1)
            (case side3 => exact Kd.CA (Kd.C_below HR356.out HB.out))
            (case side4 => exact HC356.out)
            rintro e w42 ⟨v359, rfl, ho0, hb⟩
            refine ⟨_, rfl, ?_⟩
            have n0_ := Aside0.mk (Kd.R_elder' (Kd.RA HO341.out) (Kd.R_base ho0) hb)
            have n1_ := Aside0.mk (Kd.R_elder' (Kd.RA HO351.out) (Kd.R_base ho0) hb)
            have n2_ := Aside0.mk (Kd.R_lower (Kd.R_new' (Kd.R_new' ho0 (Kd.R_lt (Kd.RA HO341.out))) (Kd.R_lt (Kd.RA HO351.out))) (below_size (LG HB.out (G1 GE334.out (G1 GE343.out (G1 GE362.out G0))))))
            have n3_ := Aside0.mk (blk_below (BA BK334.out) hb)
            have n4_ := Aside0.mk (blk_below (BA BK343.out) hb)
            have n5_ := Aside0.mk (blk_below (BA BK362.out) hb)
            have n6_ := Aside0.mk (below_step (LG HB.out (G1 GE334.out (G1 GE343.out (G1 GE362.out G0)))) hb)
            clear HO341
            clear HO351
            clear BK334
            clear BK343
            clear BK362
            clear HB
            have HO341 := n0_
            have HO351 := n1_
            have HO360 := n2_
            have BK334 := n3_
            have BK343 := n4_
            have BK362 := n5_
            have HB := n6_
            clear n0_ n1_ n2_ n3_ n4_ n5_ n6_
            (try clear hb)
            (try clear hb2)
            (try clear hk)
            (try clear hi)
            (try clear ho0)
            refine hK.out _ _ ⟨(blk_cell BK334.out 0).trans rfl, (blk_cell BK334.out 1).trans rfl, (blk_cell BK334.out 2).trans rfl⟩ (fun hHeld => ?_)
            clear hK K
            refine norm_ (a' := ?_) ?_ ?_
            rotate_left
            · show Act.put _ (some 40) _ = _
              simp only [Act.put, PU, i64_w, i32_w]
              rfl
            exact norm_ (by simp only [putAll, Act.put, PU]) (hCont (.slice Ao41 t349.length co41, v359, gb362) _ ⟨hHeld, (Kd.RA (Kd.R_mono HO341.out (fun _ hk => ⟨hk.1.2, hk.2⟩))), (Kd.RA (Kd.R_mono HO351.out (fun _ hk => ⟨hk.1.2, hk.2⟩))), (Kd.RA (Kd.R_mono HO360.out (fun _ hk => ⟨hk.1.2, hk.2⟩))), (BA BK334.out), (BA BK343.out), (BA BK362.out), GW362.out, GE362.out, NB334_362.out, NB362_334.out, NB343_362.out, NB362_343.out, (LG HB.out (G1 GE334.out (G1 GE343.out (G1 GE362.out G0))))⟩)
        rintro ⟨v350, v359, gb362⟩ w43 ⟨hS_, h0_, h1_, h2_, h3_, h4_, h5_, h6_, h7_, h8_, h9_, h10_, h11_, h12_⟩
        have n0_ : Aside0 (Kd.R k36 36 w43 w.heap.size (fun k_ => some k_ ≠ (v350 : Value).ownBlock ∧ some k_ ≠ (v359 : Value).ownBlock) (.slice Ao34 t339.length co34) t339) := ⟨h0_⟩
        have n1_ : Aside0 (Kd.R k36 36 w43 w.heap.size (fun k_ => some k_ ≠ (.slice Ao34 t339.length co34 : Value).ownBlock ∧ some k_ ≠ (v359 : Value).ownBlock) v350 t349) := ⟨h1_⟩
        have n2_ : Aside0 (Kd.R k36 36 w43 w.heap.size (fun k_ => some k_ ≠ (.slice Ao34 t339.length co34 : Value).ownBlock ∧ some k_ ≠ (v350 : Value).ownBlock) v359 t358) := ⟨h2_⟩
        have n3_ : Aside0 (w43.heap[gb334]? = some (.cells #[.int .i64 a0_0, .slice A0_1 l0_1.length c0_1, .int .i64 a0_2] 24 (0, 0))) := ⟨h3_⟩
        have n4_ : Aside0 (w43.heap[gb343]? = some (.cells #[.int .i64 t338, .slice Ao34 t339.length co34, .int .i64 t342] 27 (0, 0))) := ⟨h4_⟩
        have n5_ : Aside0 (w43.heap[gb362]? = some (.cells #[.int .i64 0, .slice none 0 0, .int .i64 0] 27 (0, 0))) := ⟨h5_⟩
        have n6_ : Aside0 (w.heap.size ≤ gb362) := ⟨h6_⟩
        have n7_ : Aside0 (w.heap.size ≤ gb362) := ⟨h7_⟩
        have n8_ : Aside0 (gb334 ≠ gb362) := ⟨h8_⟩
        have n9_ : Aside0 (gb362 ≠ gb334) := ⟨h9_⟩
        have n10_ : Aside0 (gb343 ≠ gb362) := ⟨h10_⟩
        have n11_ : Aside0 (gb362 ≠ gb343) := ⟨h11_⟩
        have n12_ : Aside0 (Below w.heap.size w w43) := ⟨h12_⟩
        clear HO341
        clear BK334
        clear BK343
        clear HB
        clear h0_ h1_ h2_ h3_ h4_ h5_ h6_ h7_ h8_ h9_ h10_ h11_ h12_
        have HO341 := n0_
        have HO351 := n1_
        have HO360 := n2_
        have BK334 := n3_
        have BK343 := n4_
        have BK362 := n5_
        have GW362 := n6_
        have GE362 := n7_
        have NB334_362 := n8_
        have NB362_334 := n9_
        have NB343_362 := n10_
        have NB362_343 := n11_
        have HB := n12_
        clear n0_ n1_ n2_ n3_ n4_ n5_ n6_ n7_ n8_ n9_ n10_ n11_ n12_
        have hHeld : w43.cell? ⟨gb334, 0, none⟩ = some (.int .i64 a0_0) ∧ w43.cell? ⟨gb334, 1, none⟩ = some (.slice A0_1 l0_1.length c0_1) ∧ w43.cell? ⟨gb334, 2, none⟩ = some (.int .i64 a0_2) := hS_
        obtain ⟨Ao45, co45, eo45⟩ := Kd.R_slice HO360.out
        (first | subst eo45 | (injection eo45 with f1_ f2_ f3_; have f4_ := f1_.symm; have f5_ := f3_.symm; clear f1_ f2_ f3_; subst f4_; subst f5_))
        refine norm_ (a' := ?_) ?_ ?_
        rotate_left
        · simp only [putAll, Act.put, PU]
          rfl
        refine one_ (i := 10) (N := none) (tf 11 11) rfl rfl (one_of HT_.out (by kernel_rfl)) (by decide) (fun K hK => ?_)
        have hs44 : w43.cell? ⟨gb362, 0, none⟩ = some (.int .i64 0) := (blk_cell BK362.out 0).trans rfl
        have hfs44 := blk_frozen BK362.out 0
        have hns44_0 := NB334_362.out
        have hns44_1 := NB343_362.out
        have hms44_0 := NB362_334.out
        have hms44_1 := NB362_343.out
        have hs46 : w43.cell? ⟨gb362, 1, none⟩ = some (.slice none 0 0) := (blk_cell BK362.out 1).trans rfl
        have hfs46 := blk_frozen BK362.out 1
        have hns46_0 := NB334_362.out
        have hns46_1 := NB343_362.out
        have hms46_0 := NB362_334.out
        have hms46_1 := NB362_343.out
        have hs47 : w43.cell? ⟨gb362, 2, none⟩ = some (.int .i64 0) := (blk_cell BK362.out 2).trans rfl
        have hfs47 := blk_frozen BK362.out 2
        have hns47_0 := NB334_362.out
        have hns47_1 := NB343_362.out
        have hms47_0 := NB362_334.out
        have hms47_1 := NB362_343.out
        refine skip_ (w1 := ?_) (by rfl) rfl ?_ ?_
        rotate_left
        · go_simp
          rfl
        refine hK.out _ _ ⟨((cell_far (p := ⟨gb362, _, none⟩) NB334_362.out _).trans (((cell_far (p := ⟨gb362, _, none⟩) NB334_362.out _).trans (((cell_far (p := ⟨gb362, _, none⟩) NB334_362.out _).trans (hHeld.1)))))), ((cell_far (p := ⟨gb362, _, none⟩) NB334_362.out _).trans (((cell_far (p := ⟨gb362, _, none⟩) NB334_362.out _).trans (((cell_far (p := ⟨gb362, _, none⟩) NB334_362.out _).trans (hHeld.2.1)))))), ((cell_far (p := ⟨gb362, _, none⟩) NB334_362.out _).trans (((cell_far (p := ⟨gb362, _, none⟩) NB334_362.out _).trans (((cell_far (p := ⟨gb362, _, none⟩) NB334_362.out _).trans (hHeld.2.2))))))⟩ (fun hHeld => ?_)
        clear hK K
        refine done_ (done_of HT_.out (by kernel_rfl)) ?_
        have hnb48 := NB343_362.out
        have hnc48 := NB362_343.out
        have hcz49_0 : w43.cell? ⟨gb343, 0, none⟩ = some (.int .i64 t338) := (blk_cell BK343.out 0).trans rfl
        have hcz49_1 : w43.cell? ⟨gb343, 1, none⟩ = some (.slice Ao34 t339.length co34) := (blk_cell BK343.out 1).trans rfl
        have hcz49_2 : w43.cell? ⟨gb343, 2, none⟩ = some (.int .i64 t342) := (blk_cell BK343.out 2).trans rfl
        have hfz49_0 := blk_frozen BK343.out 0
        have hfz49_1 := blk_frozen BK343.out 1
        have hfz49_2 := blk_frozen BK343.out 2
        have hnb50 := NB362_334.out
        have hnc50 := NB334_362.out
        have hcz51_0 : w43.cell? ⟨gb362, 0, none⟩ = some (.int .i64 0) := (blk_cell BK362.out 0).trans rfl
        have hcz51_1 : w43.cell? ⟨gb362, 1, none⟩ = some (.slice none 0 0) := (blk_cell BK362.out 1).trans rfl
        have hcz51_2 : w43.cell? ⟨gb362, 2, none⟩ = some (.int .i64 0) := (blk_cell BK362.out 2).trans rfl
        have hfz51_0 := blk_frozen BK362.out 0
        have hfz51_1 := blk_frozen BK362.out 1
        have hfz51_2 := blk_frozen BK362.out 2
        try go_wp2_with (first | ((with_reducible refine gate_callee (f := 17) rfl ?_); refine goesL_ (some 43) rfl rfl Try.func17 (by kernel_rfl) rfl #[.agg #[.int .i64 t338, .slice Ao34 t339.length co34, .int .i64 t342], .agg #[.int .i64 t357, .slice Ao45 t358.length co45, .int .i64 t361]] rfl (by (try simp only [List.map_toArray, List.map_cons, List.map_nil]); first | done | rfl | (simp only [List.length_drop, List.length_take]; rfl)) ?_; (with_reducible refine (hopperref14_Same.calls kj3 t338 _ _ t339 t342 t357 _ _ t358 t361 true _ ?side1 ?side2 ?side3 ?side4 A25.out).mono ?_); (case side1 => refine (Kd.R_reads' (e := 36) (base := w.heap.size) (ok := fun k_ => (some k_ ≠ (v350 : Value).ownBlock ∧ some k_ ≠ (.slice Ao45 t358.length co45 : Value).ownBlock)) (n := t339.length) (c := co34) ?_).2.2; exact ((Kd.R_mono (Kd.R_mv (g := gb362) (Kd.R_types HO341.out BK362.out (by decide)) (fun _ hk => hk.2)) (fun _ h_ => h_.1)))); (case side2 => exact (Kd.R_reads' HO341.out).2.1); (case side3 => refine (Kd.R_reads' (e := 36) (base := w.heap.size) (ok := fun k_ => (some k_ ≠ (.slice Ao34 t339.length co34 : Value).ownBlock ∧ some k_ ≠ (v350 : Value).ownBlock)) (n := t358.length) (c := co45) ?_).2.2; exact ((Kd.R_mono (Kd.R_mv (g := gb362) (Kd.R_types HO360.out BK362.out (by decide)) (fun _ hk => hk.2)) (fun _ h_ => h_.1)))); (case side4 => exact (Kd.R_reads' HO360.out).2.1); rintro e w52 ⟨rfl, hb⟩; refine ⟨_, rfl, ?_⟩; replace BK334 := Aside0.mk (blk_below (BF BK334.out NB334_362.out) hb); replace BK343 := Aside0.mk (blk_below (BF BK343.out NB343_362.out) hb); replace HB := Aside0.mk (below_step (LG HB.out (G1 GE362.out G0)) hb); clear HO341 HO360 BK362; (try clear HO351); (try clear hb); (try clear hb2); (try clear hk); (try clear hi); obtain ⟨hcz53_0, hcz53_1, hcz53_2, hfz53_0, hfz53_1, hfz53_2⟩ := cz3 BK343.out; obtain ⟨hcz54_0, hcz54_1, hcz54_2, hfz54_0, hfz54_1, hfz54_2⟩ := cz3 BK334.out) | (go_at_call 10; (with_reducible refine (hopperlaw14_live.calls kj3  t364 _ A28.out).mono ?_); rintro e w55 ⟨rfl, hb⟩; replace HB := Aside0.mk (below_step (LA HB.out) hb); (try clear HO341); (try clear HO351); (try clear HO360); (try clear BK334); (try clear BK343); (try clear BK362); (try clear hb); (try clear hb2); (try clear hk); (try clear hi)))
        go_ret
        exact ⟨by first | exact (congrArg (fun b => Ending.returned (.bool b)) HR_.out) | (rw [HR_.out]; done) | rfl | (rw [HR_.out]; rfl) | (simp [HR_.out]; done) | (simp [errW_none, errW_some] <;> rfl) | (simp [*, errW_none, errW_some] <;> rfl), LG HB.out (G1 GE334.out (G1 GE343.out (G1 GE362.out G0)))⟩

-- GIVEN hopperlaw14_FeedAtOnce

end Go.Proofs.Ythmnedlaecekkaa.PFeedAtOnce
