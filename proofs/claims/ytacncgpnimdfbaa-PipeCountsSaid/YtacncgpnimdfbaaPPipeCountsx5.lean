/- What the functions that the law reaches answer, each as a plain Lean function, with a proof that the call in memory comes to that answer. Written by wip/tools/given.py of this session out of the print.py of the kit, with stand-ins for some functions. -/
import Derived.Test.YtacncgpnimdfbaaPPipeCountsx0
import Derived.Test.YtacncgpnimdfbaaPPipeCountsx1
namespace Go.Proofs.Ytacncgpnimdfbaa.PPipeCounts
open Go.RowKit Go.Proofs.YtacncgpnimdfbaaW.PrintWords Go.Proofs.YtacncgpnimdfbaaW.PrintLast Go.Proofs.YtacncgpnimdfbaaW.PrintMore
attribute [local go_sem] max2_int min2_int max_two min_two max_three min_three max_four min_four   -- for this text's walks alone
set_option linter.unusedVariables false
set_option linter.unusedSimpArgs false

attribute [local go_sem high] eqA26
/-! ### hopperref08_Same: function 18 -/
mutual
def hopperref08_Same.j0 : Nat → Bool → Int → Bool → List (S26) → Int → Bool → List (S26) → Option (Bool)
  | 0, _, _, _, _, _, _, _ => none
  | k + 1, x26, x268000, x268001, x268002, x269000, x269001, x269002 => if x26 = true then (some false) else (hopperref08_Same.l0 k 0 x268000 x268001 x268002 x269000 x269001 x269002)
def hopperref08_Same.l0 : Nat → Int → Int → Bool → List (S26) → Int → Bool → List (S26) → Option (Bool)
  | 0, _, _, _, _, _, _, _ => none
  | k + 1, x5, x268000, x268001, x268002, x269000, x269001, x269002 => if x5 < (x268002.length : Int) then (if 0 ≤ x5 then (if x5 < (x269002.length : Int) then (if (!(((rd_T26 x268002 x5).f0) == ((rd_T26 x269002 x5).f0)) || (!(((rd_T26 x268002 x5).f1) == ((rd_T26 x269002 x5).f1)) || (!((((rd_T26 x268002 x5).f2).toList) == (((rd_T26 x269002 x5).f2).toList))))) = true then (some false) else (hopperref08_Same.l0 k (wrap64 (x5 + 1)) x268000 x268001 x268002 x269000 x269001 x269002)) else (none)) else (none)) else (some true)
end
def hopperref08_Same.f (k : Nat) (a0_0 : Int) (a0_1 : Bool) (l0_2 : List (S26)) (a1_0 : Int) (a1_1 : Bool) (l1_2 : List (S26)) : Option (Bool) := if a0_0 = a1_0 then (if (a0_1 != a1_1) = true then (hopperref08_Same.j0 k true a0_0 a0_1 l0_2 a1_0 a1_1 l1_2) else (hopperref08_Same.j0 k ((l0_2.length : Int) != (l1_2.length : Int)) a0_0 a0_1 l0_2 a1_0 a1_1 l1_2)) else (hopperref08_Same.j0 k true a0_0 a0_1 l0_2 a1_0 a1_1 l1_2)
theorem hopperref08_Same.mono_l : ∀ k, (∀ y0 y1 y2 y3 y4 y5 y6, LeO (hopperref08_Same.j0 k y0 y1 y2 y3 y4 y5 y6) (hopperref08_Same.j0 (k + 1) y0 y1 y2 y3 y4 y5 y6)) ∧ (∀ y0 y1 y2 y3 y4 y5 y6, LeO (hopperref08_Same.l0 k y0 y1 y2 y3 y4 y5 y6) (hopperref08_Same.l0 (k + 1) y0 y1 y2 y3 y4 y5 y6))
  | 0 => ⟨fun _ _ _ _ _ _ _ r h => by simp [hopperref08_Same.j0] at h, fun _ _ _ _ _ _ _ r h => by simp [hopperref08_Same.l0] at h⟩
  | k + 1 => by
    obtain ⟨ih0, ih1⟩ := hopperref08_Same.mono_l k
    refine ⟨?_, ?_⟩
    · intro y0 y1 y2 y3 y4 y5 y6
      unfold hopperref08_Same.j0
      repeat' first
      | (with_reducible exact ih0 _ _ _ _ _ _ _)
      | (with_reducible exact ih1 _ _ _ _ _ _ _)
      | (with_reducible exact LeO.refl _)
      | (with_reducible exact LeO.none _)
      | (with_reducible refine LeO.ite ?_ ?_)
      | (with_reducible refine LeO.bind ?_ (fun _ => ?_))
      | exact ih0 _ _ _ _ _ _ _
      | exact ih1 _ _ _ _ _ _ _
      | exact LeO.none _
      | refine LeO.ite ?_ ?_
      | refine LeO.bind ?_ (fun _ => ?_)
    · intro y0 y1 y2 y3 y4 y5 y6
      unfold hopperref08_Same.l0
      repeat' first
      | (with_reducible exact ih0 _ _ _ _ _ _ _)
      | (with_reducible exact ih1 _ _ _ _ _ _ _)
      | (with_reducible exact LeO.refl _)
      | (with_reducible exact LeO.none _)
      | (with_reducible refine LeO.ite ?_ ?_)
      | (with_reducible refine LeO.bind ?_ (fun _ => ?_))
      | exact ih0 _ _ _ _ _ _ _
      | exact ih1 _ _ _ _ _ _ _
      | exact LeO.none _
      | refine LeO.ite ?_ ?_
      | refine LeO.bind ?_ (fun _ => ?_)
theorem hopperref08_Same.mono : ∀ a0 a1 a2 a3 a4 a5 k, LeO (hopperref08_Same.f k a0 a1 a2 a3 a4 a5) (hopperref08_Same.f (k + 1) a0 a1 a2 a3 a4 a5) := by
  intro a0 a1 a2 a3 a4 a5 k
  obtain ⟨ih0, ih1⟩ := hopperref08_Same.mono_l k
  unfold hopperref08_Same.f
  repeat' first
      | (with_reducible exact ih0 _ _ _ _ _ _ _)
      | (with_reducible exact ih1 _ _ _ _ _ _ _)
      | (with_reducible exact LeO.refl _)
      | (with_reducible exact LeO.none _)
      | (with_reducible refine LeO.ite ?_ ?_)
      | (with_reducible refine LeO.bind ?_ (fun _ => ?_))
      | exact ih0 _ _ _ _ _ _ _
      | exact ih1 _ _ _ _ _ _ _
      | exact LeO.none _
      | refine LeO.ite ?_ ?_
      | refine LeO.bind ?_ (fun _ => ?_)
set_option maxHeartbeats 8000000 in
set_option maxRecDepth 100000 in
theorem hopperref08_Same.calls (k : Nat) (a0_0 : Int) (a0_1 : Bool) (A0_2 : Option Addr) (c0_2 : Nat) (l0_2 : List (S26)) (a1_0 : Int) (a1_1 : Bool) (A1_2 : Option Addr) (c1_2 : Nat) (l1_2 : List (S26)) (r : Bool) (w : World) (hr0_2 : Kd.C k26 w A0_2 l0_2.length l0_2) (hc0_2 : l0_2.length ≤ c0_2) (hr1_2 : Kd.C k26 w A1_2 l1_2.length l1_2) (hc1_2 : l1_2.length ≤ c1_2) (h : hopperref08_Same.f k a0_0 a0_1 l0_2 a1_0 a1_1 l1_2 = some r) :
    Calls Try.prog 18 #[.agg #[.int .i64 a0_0, .bool a0_1, .slice A0_2 l0_2.length c0_2], .agg #[.int .i64 a1_0, .bool a1_1, .slice A1_2 l1_2.length c1_2]] w fun e w' => e = .returned (.bool r) ∧ Below w.heap.size w w' := by
  have hu24 := Try.underlying24
  have hu26 := Try.underlying26
  have HR0_2 := Aside0.mk hr0_2
  have HC0_2 := Aside0.mk hc0_2
  clear hr0_2 hc0_2
  have HR1_2 := Aside0.mk hr1_2
  have HC1_2 := Aside0.mk hc1_2
  clear hr1_2 hc1_2
  have HB := Aside0.mk (Below.refl w.heap.size w)
  have H : (if a0_0 = a1_0 then (if (a0_1 != a1_1) = true then (hopperref08_Same.j0 k true a0_0 a0_1 l0_2 a1_0 a1_1 l1_2) else (hopperref08_Same.j0 k ((l0_2.length : Int) != (l1_2.length : Int)) a0_0 a0_1 l0_2 a1_0 a1_1 l1_2)) else (hopperref08_Same.j0 k true a0_0 a0_1 l0_2 a1_0 a1_1 l1_2)) = some r := h
  clear h
  have HC3 := Aside0.mk H
  clear H
  go_enter Try.func18, Try.ntmps18
  go_upto_region 1 with (first | ((with_reducible refine gate_dst (N := 2) rfl ?_); (try (refine gate_guard (by rfl) ?_; dsimp only)); refine box_event ?hg (N := 2) ?hd (cs := #[.int .i64 a0_0, .bool a0_1, .slice A0_2 l0_2.length c0_2]) (t := 24) ?hr ?_; (case hd => rfl); (case hg => rfl); (case hr => first | (go_simp; done) | (go_simp; rfl)); intro gb267 hg w4 hbox hb; have BK267 := Aside0.mk (hbox); have GW267 := Aside0.mk (ge1 hg (LA HB.out)); have GE267 := Aside0.mk (ge1 hg (LA HB.out)); replace HB := Aside0.mk (below_step (LA HB.out) hb); clear hb hbox hg) | ((with_reducible refine gate_dst (N := 3) rfl ?_); (try (refine gate_guard (by rfl) ?_; dsimp only)); refine box_event ?hg (N := 3) ?hd (cs := #[.int .i64 a1_0, .bool a1_1, .slice A1_2 l1_2.length c1_2]) (t := 24) ?hr ?_; (case hd => rfl); (case hg => rfl); (case hr => first | (go_simp; done) | (go_simp; rfl)); intro gb268 hg w5 hbox hb; have BK268 := Aside0.mk (hbox); have GW268 := Aside0.mk (ge1 hg (LA HB.out)); have GE268 := Aside0.mk (ge1 hg (LA HB.out)); replace HB := Aside0.mk (below_step (LA HB.out) hb); have NB267_268 := Aside0.mk ((by rw [hg]; exact Nat.ne_of_lt (blk_lt (g := gb267) (o := .cells #[.int .i64 a0_0, .bool a0_1, .slice A0_2 l0_2.length c0_2] 24 (0, 0)) (BA BK267.out)) : gb267 ≠ gb268)); have NB268_267 := Aside0.mk ((by rw [hg]; exact Nat.ne_of_gt (blk_lt (g := gb267) (o := .cells #[.int .i64 a0_0, .bool a0_1, .slice A0_2 l0_2.length c0_2] 24 (0, 0)) (BA BK267.out)) : gb268 ≠ gb267)); replace BK267 := Aside0.mk (blk_below (BA BK267.out) hb); clear hb hbox hg))
  repeat (go_quiet (first | ((with_reducible refine gate_dst (N := 2) rfl ?_); (try (refine gate_guard (by rfl) ?_; dsimp only)); refine box_event ?hg (N := 2) ?hd (cs := #[.int .i64 a0_0, .bool a0_1, .slice A0_2 l0_2.length c0_2]) (t := 24) ?hr ?_; (case hd => rfl); (case hg => rfl); (case hr => first | (go_simp; done) | (go_simp; rfl)); intro gb267 hg w4 hbox hb; have n0_ := Aside0.mk (below_step (LA HB.out) hb); have n1_ := Aside0.mk (hbox); have n2_ := Aside0.mk (ge1 hg (LA HB.out)); have n3_ := Aside0.mk (ge1 hg (LA HB.out)); clear HB; have HB := n0_; have BK267 := n1_; have GW267 := n2_; have GE267 := n3_; clear n0_ n1_ n2_ n3_; clear hb hbox hg) | ((with_reducible refine gate_dst (N := 3) rfl ?_); (try (refine gate_guard (by rfl) ?_; dsimp only)); refine box_event ?hg (N := 3) ?hd (cs := #[.int .i64 a1_0, .bool a1_1, .slice A1_2 l1_2.length c1_2]) (t := 24) ?hr ?_; (case hd => rfl); (case hg => rfl); (case hr => first | (go_simp; done) | (go_simp; rfl)); intro gb268 hg w5 hbox hb; have n0_ := Aside0.mk (blk_below (BA BK267.out) hb); have n1_ := Aside0.mk (below_step (LG HB.out (G1 GE267.out G0)) hb); have n2_ := Aside0.mk (hbox); have n3_ := Aside0.mk (ge1 hg (LG HB.out (G1 GE267.out G0))); have n4_ := Aside0.mk (ge1 hg (LG HB.out (G1 GE267.out G0))); have n5_ := Aside0.mk ((by rw [hg]; exact Nat.ne_of_lt (blk_lt (g := gb267) (o := .cells #[.int .i64 a0_0, .bool a0_1, .slice A0_2 l0_2.length c0_2] 24 (0, 0)) (BA BK267.out)) : gb267 ≠ gb268)); have n6_ := Aside0.mk ((by rw [hg]; exact Nat.ne_of_gt (blk_lt (g := gb267) (o := .cells #[.int .i64 a0_0, .bool a0_1, .slice A0_2 l0_2.length c0_2] 24 (0, 0)) (BA BK267.out)) : gb268 ≠ gb267)); clear BK267; clear HB; have BK267 := n0_; have HB := n1_; have BK268 := n2_; have GW268 := n3_; have GE268 := n4_; have NB267_268 := n5_; have NB268_267 := n6_; clear n0_ n1_ n2_ n3_ n4_ n5_ n6_; clear hb hbox hg)); go_upto_region 1 with (first | ((with_reducible refine gate_dst (N := 2) rfl ?_); (try (refine gate_guard (by rfl) ?_; dsimp only)); refine box_event ?hg (N := 2) ?hd (cs := #[.int .i64 a0_0, .bool a0_1, .slice A0_2 l0_2.length c0_2]) (t := 24) ?hr ?_; (case hd => rfl); (case hg => rfl); (case hr => first | (go_simp; done) | (go_simp; rfl)); intro gb267 hg w4 hbox hb; have n0_ := Aside0.mk (below_step (LA HB.out) hb); have n1_ := Aside0.mk (hbox); have n2_ := Aside0.mk (ge1 hg (LA HB.out)); have n3_ := Aside0.mk (ge1 hg (LA HB.out)); clear HB; have HB := n0_; have BK267 := n1_; have GW267 := n2_; have GE267 := n3_; clear n0_ n1_ n2_ n3_; clear hb hbox hg) | ((with_reducible refine gate_dst (N := 3) rfl ?_); (try (refine gate_guard (by rfl) ?_; dsimp only)); refine box_event ?hg (N := 3) ?hd (cs := #[.int .i64 a1_0, .bool a1_1, .slice A1_2 l1_2.length c1_2]) (t := 24) ?hr ?_; (case hd => rfl); (case hg => rfl); (case hr => first | (go_simp; done) | (go_simp; rfl)); intro gb268 hg w5 hbox hb; have n0_ := Aside0.mk (blk_below (BA BK267.out) hb); have n1_ := Aside0.mk (below_step (LG HB.out (G1 GE267.out G0)) hb); have n2_ := Aside0.mk (hbox); have n3_ := Aside0.mk (ge1 hg (LG HB.out (G1 GE267.out G0))); have n4_ := Aside0.mk (ge1 hg (LG HB.out (G1 GE267.out G0))); have n5_ := Aside0.mk ((by rw [hg]; exact Nat.ne_of_lt (blk_lt (g := gb267) (o := .cells #[.int .i64 a0_0, .bool a0_1, .slice A0_2 l0_2.length c0_2] 24 (0, 0)) (BA BK267.out)) : gb267 ≠ gb268)); have n6_ := Aside0.mk ((by rw [hg]; exact Nat.ne_of_gt (blk_lt (g := gb267) (o := .cells #[.int .i64 a0_0, .bool a0_1, .slice A0_2 l0_2.length c0_2] 24 (0, 0)) (BA BK267.out)) : gb268 ≠ gb267)); clear BK267; clear HB; have BK267 := n0_; have HB := n1_; have BK268 := n2_; have GW268 := n3_; have GE268 := n4_; have NB267_268 := n5_; have NB268_267 := n6_; clear n0_ n1_ n2_ n3_ n4_ n5_ n6_; clear hb hbox hg)))
  (try simp only [Act.put, PU])
  go_cut [26] (fun v26 wc => ∃ (kq : Nat) (x26_2 : Bool), v26 = .bool x26_2 ∧ Aside0 (hopperref08_Same.j0 kq x26_2 a0_0 a0_1 l0_2 a1_0 a1_1 l1_2 = some r) ∧ Aside0 (kq ≤ k) ∧ Aside0 (wc.heap[gb267]? = some (.cells #[.int .i64 a0_0, .bool a0_1, (.slice A0_2 l0_2.length c0_2)] 24 (0, 0))) ∧ Aside0 (wc.heap[gb268]? = some (.cells #[.int .i64 a1_0, .bool a1_1, (.slice A1_2 l1_2.length c1_2)] 24 (0, 0))) ∧ Aside0 (Below w.heap.size w wc))
  case first =>
    have H := HC3.out
    clear HC3
    by_cases c6 : a0_0 = a1_0
    · rw [if_pos c6] at H
      have c6b0 : (a0_0 == a1_0) = true := beq_iff_eq.mpr c6
      have c6b1 : (a0_0 != a1_0) = false := bne_eq_false_iff_eq.mpr c6
      clear c6
      (first | rw [c6b0] | (simp only [i64_w, i32_w]; rw [c6b0]) | skip)
      by_cases c7 : (a0_1 != a1_1) = true
      · rw [if_pos c7] at H
        have c7b0 : (a0_1 != a1_1) = true := c7
        (try (have c7b1 : decide (a0_1 = a1_1) = false := by simpa using c7))
        (try (have c7b2 : (a0_1 == a1_1) = false := by simpa using c7))
        (try (have c7b3 : ¬ (a0_1 = a1_1) := by simpa using c7))
        clear c7
        have H' := Aside0.mk H
        clear H
        have hnb8 := NB267_268.out
        have hnc8 := NB268_267.out
        have hcz9_0 : w5.cell? ⟨gb267, 0, none⟩ = some (.int .i64 a0_0) := (blk_cell BK267.out 0).trans rfl
        have hcz9_1 : w5.cell? ⟨gb267, 1, none⟩ = some (.bool a0_1) := (blk_cell BK267.out 1).trans rfl
        have hcz9_2 : w5.cell? ⟨gb267, 2, none⟩ = some (.slice A0_2 l0_2.length c0_2) := (blk_cell BK267.out 2).trans rfl
        have hfz9_0 := blk_frozen BK267.out 0
        have hfz9_1 := blk_frozen BK267.out 1
        have hfz9_2 := blk_frozen BK267.out 2
        have hcz10_0 : w5.cell? ⟨gb268, 0, none⟩ = some (.int .i64 a1_0) := (blk_cell BK268.out 0).trans rfl
        have hcz10_1 : w5.cell? ⟨gb268, 1, none⟩ = some (.bool a1_1) := (blk_cell BK268.out 1).trans rfl
        have hcz10_2 : w5.cell? ⟨gb268, 2, none⟩ = some (.slice A1_2 l1_2.length c1_2) := (blk_cell BK268.out 2).trans rfl
        have hfz10_0 := blk_frozen BK268.out 0
        have hfz10_1 := blk_frozen BK268.out 1
        have hfz10_2 := blk_frozen BK268.out 2
        go_wp2
        repeat (go_quiet (fail); try go_wp2)
        go_meet
        case rel => exact ⟨_, (true), (by first | rfl | (simp; done) | (simp [*]; done)), H', ⟨by first | omega | exact Nat.le_refl _⟩, ⟨by (with_reducible repeat (first | refine blk_drewN ?_ _ | refine blk_drew ?_ | refine blk_alloc ?_ _)); exact BK267.out⟩, ⟨by (with_reducible repeat (first | refine blk_drewN ?_ _ | refine blk_drew ?_ | refine blk_alloc ?_ _)); exact BK268.out⟩, ⟨LG HB.out (G1 GE267.out (G1 GE268.out G0))⟩⟩
      · rw [if_neg c7] at H
        have c7b0 : (a0_1 != a1_1) = false := by simpa using c7
        (try (have c7b1 : decide (a0_1 = a1_1) = true := by simpa using c7))
        (try (have c7b2 : (a0_1 == a1_1) = true := by simpa using c7))
        clear c7
        have H' := Aside0.mk H
        clear H
        have hnb11 := NB267_268.out
        have hnc11 := NB268_267.out
        have hcz12_0 : w5.cell? ⟨gb267, 0, none⟩ = some (.int .i64 a0_0) := (blk_cell BK267.out 0).trans rfl
        have hcz12_1 : w5.cell? ⟨gb267, 1, none⟩ = some (.bool a0_1) := (blk_cell BK267.out 1).trans rfl
        have hcz12_2 : w5.cell? ⟨gb267, 2, none⟩ = some (.slice A0_2 l0_2.length c0_2) := (blk_cell BK267.out 2).trans rfl
        have hfz12_0 := blk_frozen BK267.out 0
        have hfz12_1 := blk_frozen BK267.out 1
        have hfz12_2 := blk_frozen BK267.out 2
        have hcz13_0 : w5.cell? ⟨gb268, 0, none⟩ = some (.int .i64 a1_0) := (blk_cell BK268.out 0).trans rfl
        have hcz13_1 : w5.cell? ⟨gb268, 1, none⟩ = some (.bool a1_1) := (blk_cell BK268.out 1).trans rfl
        have hcz13_2 : w5.cell? ⟨gb268, 2, none⟩ = some (.slice A1_2 l1_2.length c1_2) := (blk_cell BK268.out 2).trans rfl
        have hfz13_0 := blk_frozen BK268.out 0
        have hfz13_1 := blk_frozen BK268.out 1
        have hfz13_2 := blk_frozen BK268.out 2
        go_wp2
        repeat (go_quiet (fail); try go_wp2)
        go_meet
        case rel => exact ⟨_, (((l0_2.length : Int) != (l1_2.length : Int))), (by first | rfl | (simp; done) | (simp [*]; done)), H', ⟨by first | omega | exact Nat.le_refl _⟩, ⟨by (with_reducible repeat (first | refine blk_drewN ?_ _ | refine blk_drew ?_ | refine blk_alloc ?_ _)); exact BK267.out⟩, ⟨by (with_reducible repeat (first | refine blk_drewN ?_ _ | refine blk_drew ?_ | refine blk_alloc ?_ _)); exact BK268.out⟩, ⟨LG HB.out (G1 GE267.out (G1 GE268.out G0))⟩⟩
    · rw [if_neg c6] at H
      have c6b0 : (a0_0 == a1_0) = false := beq_eq_false_iff_ne.mpr c6
      have c6b1 : (a0_0 != a1_0) = true := bne_iff_ne.mpr c6
      (first | rw [c6b0] | (simp only [i64_w, i32_w]; rw [c6b0]) | skip)
      have H' := Aside0.mk H
      clear H
      have hnb14 := NB267_268.out
      have hnc14 := NB268_267.out
      have hcz15_0 : w5.cell? ⟨gb267, 0, none⟩ = some (.int .i64 a0_0) := (blk_cell BK267.out 0).trans rfl
      have hcz15_1 : w5.cell? ⟨gb267, 1, none⟩ = some (.bool a0_1) := (blk_cell BK267.out 1).trans rfl
      have hcz15_2 : w5.cell? ⟨gb267, 2, none⟩ = some (.slice A0_2 l0_2.length c0_2) := (blk_cell BK267.out 2).trans rfl
      have hfz15_0 := blk_frozen BK267.out 0
      have hfz15_1 := blk_frozen BK267.out 1
      have hfz15_2 := blk_frozen BK267.out 2
      have hcz16_0 : w5.cell? ⟨gb268, 0, none⟩ = some (.int .i64 a1_0) := (blk_cell BK268.out 0).trans rfl
      have hcz16_1 : w5.cell? ⟨gb268, 1, none⟩ = some (.bool a1_1) := (blk_cell BK268.out 1).trans rfl
      have hcz16_2 : w5.cell? ⟨gb268, 2, none⟩ = some (.slice A1_2 l1_2.length c1_2) := (blk_cell BK268.out 2).trans rfl
      have hfz16_0 := blk_frozen BK268.out 0
      have hfz16_1 := blk_frozen BK268.out 1
      have hfz16_2 := blk_frozen BK268.out 2
      go_wp2
      repeat (go_quiet (fail); try go_wp2)
      go_meet
      case rel => exact ⟨_, (true), (by first | rfl | (simp; done) | (simp [*]; done)), H', ⟨by first | omega | exact Nat.le_refl _⟩, ⟨by (with_reducible repeat (first | refine blk_drewN ?_ _ | refine blk_drew ?_ | refine blk_alloc ?_ _)); exact BK267.out⟩, ⟨by (with_reducible repeat (first | refine blk_drewN ?_ _ | refine blk_drew ?_ | refine blk_alloc ?_ _)); exact BK268.out⟩, ⟨LG HB.out (G1 GE267.out (G1 GE268.out G0))⟩⟩
  case rest =>
    clear HC3
    try clear c1
    try clear p2
    try clear c6
    try clear c6b0
    try clear c6b1
    try clear c7
    try clear c7b0
    try clear c7b1
    try clear c7b2
    try clear c8
    try clear c11
    try clear c14
    try clear hcz10_0
    try clear hcz10_1
    try clear hcz10_2
    try clear hcz12_0
    try clear hcz12_1
    try clear hcz12_2
    try clear hcz13_0
    try clear hcz13_1
    try clear hcz13_2
    try clear hcz15_0
    try clear hcz15_1
    try clear hcz15_2
    try clear hcz16_0
    try clear hcz16_1
    try clear hcz16_2
    try clear hcz9_0
    try clear hcz9_1
    try clear hcz9_2
    try clear hfz10_0
    try clear hfz10_1
    try clear hfz10_2
    try clear hfz12_0
    try clear hfz12_1
    try clear hfz12_2
    try clear hfz13_0
    try clear hfz13_1
    try clear hfz13_2
    try clear hfz15_0
    try clear hfz15_1
    try clear hfz15_2
    try clear hfz16_0
    try clear hfz16_1
    try clear hfz16_2
    try clear hfz9_0
    try clear hfz9_1
    try clear hfz9_2
    obtain ⟨kq, x26_2, rfl, HA, HJ2, BK267, BK268, HB⟩ := hcut
    cases kq with
    | zero => exact absurd HA.out (by simp [hopperref08_Same.j0])
    | succ kj2 =>
      have H := HA.out
      clear HA
      simp only [hopperref08_Same.j0] at H
      by_cases c17 : x26_2 = true
      · subst c17
        have H1 : (some false) = some r := by rw [if_pos rfl] at H; exact H
        clear H
        have H := H1
        clear H1
        obtain rfl := Option.some.inj H
        go_wp2
        repeat (go_quiet (fail); try go_wp2)
        go_ret
        exact ⟨by first | rfl | (simp [errW_none, errW_some] <;> rfl) | (simp [*, errW_none, errW_some] <;> rfl), LG HB.out (G1 GE267.out (G1 GE268.out G0))⟩
      · replace c17 := Bool.eq_false_iff.mpr c17
        subst c17
        have H1 : (hopperref08_Same.l0 kj2 0 a0_0 a0_1 l0_2 a1_0 a1_1 l1_2) = some r := by rw [if_neg (show ¬ (false = true) by decide)] at H; exact H
        clear H
        have H := H1
        clear H1
        have H' := Aside0.mk H
        clear H
        go_wp2
        repeat (go_quiet (fail); try go_wp2)
        go_loopg [5] kj2 (fun kq v5 w' => ∃ (x5_2 : Int), v5 = .int .i64 x5_2 ∧ Aside0 (hopperref08_Same.l0 kq x5_2 a0_0 a0_1 l0_2 a1_0 a1_1 l1_2 = some r) ∧ Aside0 (kq ≤ kj2) ∧ Aside0 (w'.heap[gb267]? = some (.cells #[.int .i64 a0_0, .bool a0_1, (.slice A0_2 l0_2.length c0_2)] 24 (0, 0))) ∧ Aside0 (w'.heap[gb268]? = some (.cells #[.int .i64 a1_0, .bool a1_1, (.slice A1_2 l1_2.length c1_2)] 24 (0, 0))) ∧ Aside0 (Below w.heap.size w w'))
        case atStart => exact ⟨(0), (by first | rfl | (simp; done) | (simp [*]; done)), H', ⟨Nat.le_refl _⟩, ⟨by (with_reducible repeat (first | refine blk_drewN ?_ _ | refine blk_drew ?_ | refine blk_alloc ?_ _)); exact BK267.out⟩, ⟨by (with_reducible repeat (first | refine blk_drewN ?_ _ | refine blk_drew ?_ | refine blk_alloc ?_ _)); exact BK268.out⟩, ⟨LG HB.out (G1 GE267.out (G1 GE268.out G0))⟩⟩
        case round =>
          clear H'
          try clear c1
          try clear p2
          try clear c6
          try clear c6b0
          try clear c6b1
          try clear c7
          try clear c7b0
          try clear c7b1
          try clear c7b2
          try clear c8
          try clear c11
          try clear c14
          try clear c17
          try clear hcz10_0
          try clear hcz10_1
          try clear hcz10_2
          try clear hcz12_0
          try clear hcz12_1
          try clear hcz12_2
          try clear hcz13_0
          try clear hcz13_1
          try clear hcz13_2
          try clear hcz15_0
          try clear hcz15_1
          try clear hcz15_2
          try clear hcz16_0
          try clear hcz16_1
          try clear hcz16_2
          try clear hcz9_0
          try clear hcz9_1
          try clear hcz9_2
          try clear hfz10_0
          try clear hfz10_1
          try clear hfz10_2
          try clear hfz12_0
          try clear hfz12_1
          try clear hfz12_2
          try clear hfz13_0
          try clear hfz13_1
          try clear hfz13_2
          try clear hfz15_0
          try clear hfz15_1
          try clear hfz15_2
          try clear hfz16_0
          try clear hfz16_1
          try clear hfz16_2
          try clear hfz9_0
          try clear hfz9_1
          try clear hfz9_2
          try clear p2
          obtain ⟨x5_2, rfl, HA, HK2, BK267, BK268, HB⟩ := hrel
          cases gk with
          | zero => exact absurd HA.out (by simp [hopperref08_Same.l0])
          | succ k2 =>
            have H := HA.out
            clear HA
            simp only [hopperref08_Same.l0] at H
            by_cases c18 : x5_2 < (l0_2.length : Int)
            · rw [if_pos c18] at H
              have c18b0 : decide (x5_2 < (l0_2.length : Int)) = true := decide_eq_true c18
              clear c18
              by_cases c19 : 0 ≤ x5_2
              rotate_left
              · rw [if_neg c19] at H
                exact absurd H (by simp)
              rw [if_pos c19] at H
              have c19b0 : decide (0 ≤ x5_2) = true := decide_eq_true c19
              clear c19
              by_cases c20 : x5_2 < (l1_2.length : Int)
              rotate_left
              · rw [if_neg c20] at H
                exact absurd H (by simp)
              rw [if_pos c20] at H
              have c20b0 : decide (x5_2 < (l1_2.length : Int)) = true := decide_eq_true c20
              clear c20
              by_cases c21 : (!(((rd_T26 l0_2 x5_2).f0) == ((rd_T26 l1_2 x5_2).f0)) || (!(((rd_T26 l0_2 x5_2).f1) == ((rd_T26 l1_2 x5_2).f1)) || (!((((rd_T26 l0_2 x5_2).f2).toList) == (((rd_T26 l1_2 x5_2).f2).toList))))) = true
              · rw [if_pos c21] at H
                have c21b0 : (!(((rd_T26 l0_2 x5_2).f0) == ((rd_T26 l1_2 x5_2).f0)) || (!(((rd_T26 l0_2 x5_2).f1) == ((rd_T26 l1_2 x5_2).f1)) || (!((((rd_T26 l0_2 x5_2).f2).toList) == (((rd_T26 l1_2 x5_2).f2).toList))))) = true := c21
                clear c21
                obtain rfl := Option.some.inj H
                have hnb22 := NB267_268.out
                have hnc22 := NB268_267.out
                have hcz23_0 : wr.cell? ⟨gb267, 0, none⟩ = some (.int .i64 a0_0) := (blk_cell BK267.out 0).trans rfl
                have hcz23_1 : wr.cell? ⟨gb267, 1, none⟩ = some (.bool a0_1) := (blk_cell BK267.out 1).trans rfl
                have hcz23_2 : wr.cell? ⟨gb267, 2, none⟩ = some (.slice A0_2 l0_2.length c0_2) := (blk_cell BK267.out 2).trans rfl
                have hfz23_0 := blk_frozen BK267.out 0
                have hfz23_1 := blk_frozen BK267.out 1
                have hfz23_2 := blk_frozen BK267.out 2
                have p269 : 0 ≤ (x5_2 : Int) := of_decide_eq_true (by first | (with_reducible assumption) | assumption)
                have q269 : x5_2 < (l0_2.length : Int) := of_decide_eq_true (by first | (with_reducible assumption) | assumption)
                obtain ⟨ad269, e269, hx269_0, hx269_1, hx269_2⟩ := at_T26 HR0_2.out x5_2 p269 q269
                cases e269
                replace hx269_0 := (HB.out.cell (World.block_lt_of_cell? w _ hx269_0)).trans hx269_0
                replace hx269_1 := (HB.out.cell (World.block_lt_of_cell? w _ hx269_1)).trans hx269_1
                replace hx269_2 := (HB.out.cell (World.block_lt_of_cell? w _ hx269_2)).trans hx269_2
                replace p269 := eq_true p269
                replace q269 := eq_true q269
                have hcz24_0 : wr.cell? ⟨gb268, 0, none⟩ = some (.int .i64 a1_0) := (blk_cell BK268.out 0).trans rfl
                have hcz24_1 : wr.cell? ⟨gb268, 1, none⟩ = some (.bool a1_1) := (blk_cell BK268.out 1).trans rfl
                have hcz24_2 : wr.cell? ⟨gb268, 2, none⟩ = some (.slice A1_2 l1_2.length c1_2) := (blk_cell BK268.out 2).trans rfl
                have hfz24_0 := blk_frozen BK268.out 0
                have hfz24_1 := blk_frozen BK268.out 1
                have hfz24_2 := blk_frozen BK268.out 2
                have p270 : 0 ≤ (x5_2 : Int) := of_decide_eq_true (by first | (with_reducible assumption) | assumption)
                have q270 : x5_2 < (l1_2.length : Int) := of_decide_eq_true (by first | (with_reducible assumption) | assumption)
                obtain ⟨ad270, e270, hx270_0, hx270_1, hx270_2⟩ := at_T26 HR1_2.out x5_2 p270 q270
                cases e270
                replace hx270_0 := (HB.out.cell (World.block_lt_of_cell? w _ hx270_0)).trans hx270_0
                replace hx270_1 := (HB.out.cell (World.block_lt_of_cell? w _ hx270_1)).trans hx270_1
                replace hx270_2 := (HB.out.cell (World.block_lt_of_cell? w _ hx270_2)).trans hx270_2
                replace p270 := eq_true p270
                replace q270 := eq_true q270
                go_wp2
                repeat (go_quiet (fail); try go_wp2)
                go_ret
                exact ⟨by first | rfl | (simp [errW_none, errW_some] <;> rfl) | (simp [*, errW_none, errW_some] <;> rfl), LG HB.out (G1 GE267.out (G1 GE268.out G0))⟩
              · rw [if_neg c21] at H
                have c21b0 : (!(((rd_T26 l0_2 x5_2).f0) == ((rd_T26 l1_2 x5_2).f0)) || (!(((rd_T26 l0_2 x5_2).f1) == ((rd_T26 l1_2 x5_2).f1)) || (!((((rd_T26 l0_2 x5_2).f2).toList) == (((rd_T26 l1_2 x5_2).f2).toList))))) = false := by simpa using c21
                clear c21
                have H' := Aside0.mk H
                clear H
                have hnb25 := NB267_268.out
                have hnc25 := NB268_267.out
                have hcz26_0 : wr.cell? ⟨gb267, 0, none⟩ = some (.int .i64 a0_0) := (blk_cell BK267.out 0).trans rfl
                have hcz26_1 : wr.cell? ⟨gb267, 1, none⟩ = some (.bool a0_1) := (blk_cell BK267.out 1).trans rfl
                have hcz26_2 : wr.cell? ⟨gb267, 2, none⟩ = some (.slice A0_2 l0_2.length c0_2) := (blk_cell BK267.out 2).trans rfl
                have hfz26_0 := blk_frozen BK267.out 0
                have hfz26_1 := blk_frozen BK267.out 1
                have hfz26_2 := blk_frozen BK267.out 2
                have p269 : 0 ≤ (x5_2 : Int) := of_decide_eq_true (by first | (with_reducible assumption) | assumption)
                have q269 : x5_2 < (l0_2.length : Int) := of_decide_eq_true (by first | (with_reducible assumption) | assumption)
                obtain ⟨ad269, e269, hx269_0, hx269_1, hx269_2⟩ := at_T26 HR0_2.out x5_2 p269 q269
                cases e269
                replace hx269_0 := (HB.out.cell (World.block_lt_of_cell? w _ hx269_0)).trans hx269_0
                replace hx269_1 := (HB.out.cell (World.block_lt_of_cell? w _ hx269_1)).trans hx269_1
                replace hx269_2 := (HB.out.cell (World.block_lt_of_cell? w _ hx269_2)).trans hx269_2
                replace p269 := eq_true p269
                replace q269 := eq_true q269
                have hcz27_0 : wr.cell? ⟨gb268, 0, none⟩ = some (.int .i64 a1_0) := (blk_cell BK268.out 0).trans rfl
                have hcz27_1 : wr.cell? ⟨gb268, 1, none⟩ = some (.bool a1_1) := (blk_cell BK268.out 1).trans rfl
                have hcz27_2 : wr.cell? ⟨gb268, 2, none⟩ = some (.slice A1_2 l1_2.length c1_2) := (blk_cell BK268.out 2).trans rfl
                have hfz27_0 := blk_frozen BK268.out 0
                have hfz27_1 := blk_frozen BK268.out 1
                have hfz27_2 := blk_frozen BK268.out 2
                have p270 : 0 ≤ (x5_2 : Int) := of_decide_eq_true (by first | (with_reducible assumption) | assumption)
                have q270 : x5_2 < (l1_2.length : Int) := of_decide_eq_true (by first | (with_reducible assumption) | assumption)
                obtain ⟨ad270, e270, hx270_0, hx270_1, hx270_2⟩ := at_T26 HR1_2.out x5_2 p270 q270
                cases e270
                replace hx270_0 := (HB.out.cell (World.block_lt_of_cell? w _ hx270_0)).trans hx270_0
                replace hx270_1 := (HB.out.cell (World.block_lt_of_cell? w _ hx270_1)).trans hx270_1
                replace hx270_2 := (HB.out.cell (World.block_lt_of_cell? w _ hx270_2)).trans hx270_2
                replace p270 := eq_true p270
                replace q270 := eq_true q270
                go_wp2
                repeat (go_quiet (fail); try go_wp2)
                go_roundg k2
                case measure => have := HJ2.out; have := HK2.out; omega
                case rel => exact ⟨(wrap64 (x5_2 + 1)), (by first | rfl | (simp; done) | (simp [*]; done)), H', ⟨by have := HJ2.out; have := HK2.out; omega⟩, ⟨by (with_reducible repeat (first | refine blk_drewN ?_ _ | refine blk_drew ?_ | refine blk_alloc ?_ _)); exact BK267.out⟩, ⟨by (with_reducible repeat (first | refine blk_drewN ?_ _ | refine blk_drew ?_ | refine blk_alloc ?_ _)); exact BK268.out⟩, ⟨LG HB.out (G1 GE267.out (G1 GE268.out G0))⟩⟩
            · rw [if_neg c18] at H
              have c18b0 : decide (x5_2 < (l0_2.length : Int)) = false := decide_eq_false c18
              clear c18
              obtain rfl := Option.some.inj H
              have hnb28 := NB267_268.out
              have hnc28 := NB268_267.out
              have hcz29_0 : wr.cell? ⟨gb267, 0, none⟩ = some (.int .i64 a0_0) := (blk_cell BK267.out 0).trans rfl
              have hcz29_1 : wr.cell? ⟨gb267, 1, none⟩ = some (.bool a0_1) := (blk_cell BK267.out 1).trans rfl
              have hcz29_2 : wr.cell? ⟨gb267, 2, none⟩ = some (.slice A0_2 l0_2.length c0_2) := (blk_cell BK267.out 2).trans rfl
              have hfz29_0 := blk_frozen BK267.out 0
              have hfz29_1 := blk_frozen BK267.out 1
              have hfz29_2 := blk_frozen BK267.out 2
              go_wp2
              repeat (go_quiet (fail); try go_wp2)
              go_ret
              exact ⟨by first | rfl | (simp [errW_none, errW_some] <;> rfl) | (simp [*, errW_none, errW_some] <;> rfl), LG HB.out (G1 GE267.out (G1 GE268.out G0))⟩

/-! ### hopperlaw08_told: function 19 -/
def hopperlaw08_told.l0 : Nat → Int → Int → Bool → List (S36) → Int → Bool → List (S26) → Option (Int × Bool × (List (S26)))
  | 0, _, _, _, _, _, _, _ => none
  | k + 1, x4, x272000, x272001, x272002, x274000, x274001, x274002 => if x4 < (x272002.length : Int) then (if 0 ≤ x4 then (if x274002.length < 4398046511104 then (hopperlaw08_told.l0 k (wrap64 (x4 + 1)) x272000 x272001 x272002 x274000 x274001 (x274002 ++ [(⟨(rd_T36 x272002 x4).f0, (rd_T36 x272002 x4).f1, (rd_T36 x272002 x4).f2⟩ : S26)])) else (none)) else (none)) else (some (x274000, x274001, x274002))
def hopperlaw08_told.f (k : Nat) (a0_0 : Int) (a0_1 : Bool) (l0_2 : List (S36)) : Option (Int × Bool × (List (S26))) := hopperlaw08_told.l0 k 0 a0_0 a0_1 l0_2 a0_0 a0_1 ([] : List (S26))
theorem hopperlaw08_told.mono_l : ∀ k, (∀ y0 y1 y2 y3 y4 y5 y6, LeO (hopperlaw08_told.l0 k y0 y1 y2 y3 y4 y5 y6) (hopperlaw08_told.l0 (k + 1) y0 y1 y2 y3 y4 y5 y6))
  | 0 => fun _ _ _ _ _ _ _ r h => by simp [hopperlaw08_told.l0] at h
  | k + 1 => by
    have ih0 := hopperlaw08_told.mono_l k
    · intro y0 y1 y2 y3 y4 y5 y6
      unfold hopperlaw08_told.l0
      repeat' first
      | (with_reducible exact ih0 _ _ _ _ _ _ _)
      | (with_reducible exact LeO.refl _)
      | (with_reducible exact LeO.none _)
      | (with_reducible refine LeO.ite ?_ ?_)
      | (with_reducible refine LeO.bind ?_ (fun _ => ?_))
      | exact ih0 _ _ _ _ _ _ _
      | exact LeO.none _
      | refine LeO.ite ?_ ?_
      | refine LeO.bind ?_ (fun _ => ?_)
theorem hopperlaw08_told.mono : ∀ a0 a1 a2 k, LeO (hopperlaw08_told.f k a0 a1 a2) (hopperlaw08_told.f (k + 1) a0 a1 a2) := by
  intro a0 a1 a2 k
  have ih0 := hopperlaw08_told.mono_l k
  unfold hopperlaw08_told.f
  repeat' first
      | (with_reducible exact ih0 _ _ _ _ _ _ _)
      | (with_reducible exact LeO.refl _)
      | (with_reducible exact LeO.none _)
      | (with_reducible refine LeO.ite ?_ ?_)
      | (with_reducible refine LeO.bind ?_ (fun _ => ?_))
      | exact ih0 _ _ _ _ _ _ _
      | exact LeO.none _
      | refine LeO.ite ?_ ?_
      | refine LeO.bind ?_ (fun _ => ?_)
def hopperlaw08_told.T5 : Bool × List (List Nat × List Nat) := (true, [([], []), ([0], [0]), ([], []), ([2], [2]), ([], []), ([3, 4], [3, 4]), ([5], [5]), ([6], [6]), ([1, 7], [1, 7]), ([0, 1, 2, 3, 4, 5, 6, 7, 8], []), ([9, 8, 8, 0, 1, 2, 3, 4, 5, 6, 7, 8], [8, 9])])
def hopperlaw08_told.B5 : List Nat := [0, 1, 0, 4, 0, 28, 60, 124, 255, 511, 1023]
theorem hopperlaw08_told.tab5 : rtab .any (opsOf Try.f19 5) = hopperlaw08_told.T5 := by kernel_rfl
theorem hopperlaw08_told.bits5 : waitsOk hopperlaw08_told.T5.2 hopperlaw08_told.B5 = true := by kernel_rfl
set_option maxHeartbeats 8000000 in
set_option maxRecDepth 100000 in
theorem hopperlaw08_told.calls (k : Nat) (a0_0 : Int) (a0_1 : Bool) (A0_2 : Option Addr) (c0_2 : Nat) (l0_2 : List (S36)) (r1 : Int) (r2 : Bool) (r3 : List (S26)) (w : World) (hr0_2 : Kd.C k36 w A0_2 l0_2.length l0_2) (hc0_2 : l0_2.length ≤ c0_2) (h : hopperlaw08_told.f k a0_0 a0_1 l0_2 = some (r1, r2, r3)) :
    Calls Try.prog 19 #[.agg #[.int .i64 a0_0, .bool a0_1, .slice A0_2 l0_2.length c0_2]] w fun e w' => ∃ v2_ : Value, e = .returned (.agg #[.int .i64 r1, .bool r2, v2_]) ∧ Kd.R k26 26 w' w.heap.size (fun _ => True) v2_ r3 ∧ Below w.heap.size w w' := by
  have hu31 := Try.underlying31
  have hu24 := Try.underlying24
  have hu36 := Try.underlying36
  have HR0_2 := Aside0.mk hr0_2
  have HC0_2 := Aside0.mk hc0_2
  clear hr0_2 hc0_2
  have HB := Aside0.mk (Below.refl w.heap.size w)
  have H : (hopperlaw08_told.l0 k 0 a0_0 a0_1 l0_2 a0_0 a0_1 ([] : List (S26))) = some (r1, r2, r3) := h
  clear h
  have H' := Aside0.mk H
  clear H
  go_enter Try.func19, Try.ntmps19
  go_wp2_with (first | ((with_reducible refine gate_dst (N := 1) rfl ?_); refine box_event ?hg (N := 1) ?hd (cs := #[.int .i64 a0_0, .bool a0_1, .slice A0_2 l0_2.length c0_2]) (t := 31) ?hr ?_; (case hd => rfl); (case hg => rfl); (case hr => first | (go_simp; done) | (go_simp; rfl)); intro gb271 hg w2 hbox hb; have BK271 := Aside0.mk (hbox); have GE271 := Aside0.mk (ge1 hg (LA HB.out)); replace HB := Aside0.mk (below_step (LA HB.out) hb); clear hb hbox hg) | ((with_reducible refine gate_dst (N := 2) rfl ?_); refine box_event ?hg (N := 2) ?hd (cs := #[.int .i64 0, .bool false, .slice none 0 0]) (t := 24) ?hr ?_; (case hd => rfl); (case hg => rfl); (case hr => first | (go_simp; done) | (go_simp; rfl)); intro gb272 hg w3 hbox hb; have BK272 := Aside0.mk (hbox); have GE272 := Aside0.mk (ge1 hg (LA HB.out)); replace HB := Aside0.mk (below_step (LA HB.out) hb); have NB271_272 := Aside0.mk ((by rw [hg]; exact Nat.ne_of_lt (blk_lt (g := gb271) (o := .cells #[.int .i64 a0_0, .bool a0_1, .slice A0_2 l0_2.length c0_2] 31 (0, 0)) (BA BK271.out)) : gb271 ≠ gb272)); have NB272_271 := Aside0.mk ((by rw [hg]; exact Nat.ne_of_gt (blk_lt (g := gb271) (o := .cells #[.int .i64 a0_0, .bool a0_1, .slice A0_2 l0_2.length c0_2] 31 (0, 0)) (BA BK271.out)) : gb272 ≠ gb271)); replace BK271 := Aside0.mk (blk_below (BA BK271.out) hb); clear hb hbox hg; have hnb4 := NB271_272.out; have hnc4 := NB272_271.out; obtain ⟨hcz5_0, hcz5_1, hcz5_2, hfz5_0, hfz5_1, hfz5_2⟩ := cz3 BK271.out) | ((with_reducible refine gate_dst (N := 3) rfl ?_); refine box_event ?hg (N := 3) ?hd (cs := #[.int .i64 0, .bool false, .slice none 0 0]) (t := 24) ?hr ?_; (case hd => rfl); (case hg => rfl); (case hr => first | (go_simp; done) | (go_simp; rfl)); intro gb273 hg w6 hbox hb; have BK273 := Aside0.mk (hbox); have GE273 := Aside0.mk (ge1 hg (LA HB.out)); replace HB := Aside0.mk (below_step (LA HB.out) hb); have NB271_273 := Aside0.mk ((by rw [hg]; exact Nat.ne_of_lt (blk_lt (g := gb271) (o := .cells #[.int .i64 a0_0, .bool a0_1, .slice A0_2 l0_2.length c0_2] 31 (0, 0)) (BA BK271.out)) : gb271 ≠ gb273)); have NB273_271 := Aside0.mk ((by rw [hg]; exact Nat.ne_of_gt (blk_lt (g := gb271) (o := .cells #[.int .i64 a0_0, .bool a0_1, .slice A0_2 l0_2.length c0_2] 31 (0, 0)) (BA BK271.out)) : gb273 ≠ gb271)); replace BK271 := Aside0.mk (blk_below (BA BK271.out) hb); have NB272_273 := Aside0.mk ((by rw [hg]; exact Nat.ne_of_lt (blk_lt (g := gb272) (o := .cells #[.int .i64 0, .bool false, .slice none 0 0] 24 (0, 0)) (BA BK272.out)) : gb272 ≠ gb273)); have NB273_272 := Aside0.mk ((by rw [hg]; exact Nat.ne_of_gt (blk_lt (g := gb272) (o := .cells #[.int .i64 0, .bool false, .slice none 0 0] 24 (0, 0)) (BA BK272.out)) : gb273 ≠ gb272)); replace BK272 := Aside0.mk (blk_below (BA BK272.out) hb); clear hb hbox hg; have hnb7 := NB273_271.out; have hnc7 := NB271_273.out; have hnb8 := NB273_272.out; have hnc8 := NB272_273.out; obtain ⟨hcz9_0, hcz9_1, hcz9_2, hfz9_0, hfz9_1, hfz9_2⟩ := cz3 BK273.out))
  go_loopg [4] k (fun kq v4 w' => ∃ (x4_1 : Int) (x274002_1 : List (S26)) (u274002 : Value), v4 = .int .i64 x4_1 ∧ Aside0 (hopperlaw08_told.l0 kq x4_1 a0_0 a0_1 l0_2 a0_0 a0_1 x274002_1 = some (r1, r2, r3)) ∧ Aside0 (kq ≤ k) ∧ Aside0 (Kd.R k26 26 w' w.heap.size (fun _ => True) u274002 x274002_1) ∧ Aside0 (w'.heap[gb271]? = some (.cells #[.int .i64 a0_0, .bool a0_1, (.slice A0_2 l0_2.length c0_2)] 31 (0, 0))) ∧ Aside0 (w'.heap[gb272]? = some (.cells #[.int .i64 0, .bool false, (.slice none 0 0)] 24 (0, 0))) ∧ Aside0 (w'.heap[gb273]? = some (.cells #[.int .i64 a0_0, .bool a0_1, u274002] 24 (0, 0))) ∧ Aside0 (Below w.heap.size w w'))
  case atStart => exact ⟨(0), (([] : List (S26))), (.slice none 0 0), (by first | rfl | (simp; done) | (simp [*]; done)), H', ⟨Nat.le_refl _⟩, ⟨by first | exact Kd.R_nil _ _ _ _ _ | exact Kd.N_nil _ _ _ _ _ | exact Kd.V_nil _ _ _ _ _ | exact Kd.Q_nil _ _ _ _ _ | exact Kd.S_nil _ _ _ _ _⟩, ⟨by exact BF BK271.out NB271_273.out⟩, ⟨by exact BF BK272.out NB272_273.out⟩, ⟨by exact BP BK273.out (by rfl)⟩, ⟨LG HB.out (G1 GE271.out (G1 GE272.out (G1 GE273.out G0)))⟩⟩
  case round =>
    clear H'
    try clear c1
    try clear p2
    try clear c4
    try clear c7
    try clear c8
    try clear hcz5_0
    try clear hcz5_1
    try clear hcz5_2
    try clear hcz9_0
    try clear hcz9_1
    try clear hcz9_2
    try clear hfz5_0
    try clear hfz5_1
    try clear hfz5_2
    try clear hfz9_0
    try clear hfz9_1
    try clear hfz9_2
    obtain ⟨x4_1, x274002_1, u274002, rfl, HA, HK1, HO_274002, BK271, BK272, BK273, HB⟩ := hrel
    cases gk with
    | zero => exact absurd HA.out (by simp [hopperlaw08_told.l0])
    | succ k1 =>
      have H := HA.out
      clear HA
      simp only [hopperlaw08_told.l0] at H
      by_cases c10 : x4_1 < (l0_2.length : Int)
      · rw [if_pos c10] at H
        have c10b0 : decide (x4_1 < (l0_2.length : Int)) = true := decide_eq_true c10
        clear c10
        by_cases c11 : 0 ≤ x4_1
        rotate_left
        · rw [if_neg c11] at H
          exact absurd H (by simp)
        rw [if_pos c11] at H
        have c11b0 : decide (0 ≤ x4_1) = true := decide_eq_true c11
        clear c11
        by_cases c12 : x274002_1.length < 4398046511104
        rotate_left
        · rw [if_neg c12] at H
          exact absurd H (by simp)
        rw [if_pos c12] at H
        have LMc12 := Aside0.mk c12
        clear c12
        obtain ⟨y275, hy275⟩ : ∃ y_ : List (S26), y_ = (x274002_1 ++ [(⟨(rd_T36 l0_2 x4_1).f0, (rd_T36 l0_2 x4_1).f1, (rd_T36 l0_2 x4_1).f2⟩ : S26)]) := ⟨_, rfl⟩
        replace H : (hopperlaw08_told.l0 k1 (wrap64 (x4_1 + 1)) a0_0 a0_1 l0_2 a0_0 a0_1 y275) = some (r1, r2, r3) := by first | (rw [hy275]; with_reducible exact H) | (have H2_ := (Option.bind_some _ _).symm.trans H; rw [hy275]; with_reducible exact H2_) | (have H2_ := (Option.bind_some _ _).symm.trans H; with_reducible exact H2_) | with_reducible exact H | (rw [hy275]; exact H) | exact H
        have Ny275 := Aside0.mk hy275
        clear hy275
        have H' := Aside0.mk H
        clear H
        have hnb13 := NB271_272.out
        have hnc13 := NB272_271.out
        have hnb14 := NB271_273.out
        have hnc14 := NB273_271.out
        have hcz15_0 : wr.cell? ⟨gb271, 0, none⟩ = some (.int .i64 a0_0) := (blk_cell BK271.out 0).trans rfl
        have hcz15_1 : wr.cell? ⟨gb271, 1, none⟩ = some (.bool a0_1) := (blk_cell BK271.out 1).trans rfl
        have hcz15_2 : wr.cell? ⟨gb271, 2, none⟩ = some (.slice A0_2 l0_2.length c0_2) := (blk_cell BK271.out 2).trans rfl
        have hfz15_0 := blk_frozen BK271.out 0
        have hfz15_1 := blk_frozen BK271.out 1
        have hfz15_2 := blk_frozen BK271.out 2
        try go_wp2
        have n0_ := Aside0.mk (Kd.R_drew HO_274002.out)
        have n1_ := Aside0.mk (blk_drew BK271.out)
        have n2_ := Aside0.mk (blk_drew BK272.out)
        have n3_ := Aside0.mk (blk_drew BK273.out)
        have n4_ := Aside0.mk (below_drew1 HB.out)
        clear HO_274002
        clear BK271
        clear BK272
        clear BK273
        clear HB
        have HO_274002 := n0_
        have BK271 := n1_
        have BK272 := n2_
        have BK273 := n3_
        have HB := n4_
        clear n0_ n1_ n2_ n3_ n4_
        have p274 : 0 ≤ (x4_1 : Int) := of_decide_eq_true (by first | (with_reducible assumption) | assumption)
        have q274 : x4_1 < (l0_2.length : Int) := of_decide_eq_true (by first | (with_reducible assumption) | assumption)
        obtain ⟨ad274, e274, hx274_0, hx274_1, hx274_2⟩ := at_T36 HR0_2.out x4_1 p274 q274
        have hw274_2 := hx274_2
        have hw274_1 := hx274_1
        have hw274_0 := hx274_0
        cases e274
        replace hx274_0 := (HB.out.cell (World.block_lt_of_cell? w _ hx274_0)).trans hx274_0
        replace hx274_1 := (HB.out.cell (World.block_lt_of_cell? w _ hx274_1)).trans hx274_1
        replace hx274_2 := (HB.out.cell (World.block_lt_of_cell? w _ hx274_2)).trans hx274_2
        replace p274 := eq_true p274
        replace q274 := eq_true q274
        refine start_ (n := 11) (S := fun w' => w'.cell? ⟨gb273, 0, none⟩ = some (.int .i64 a0_0) ∧ w'.cell? ⟨gb273, 1, none⟩ = some (.bool a0_1) ∧ w'.cell? ⟨gb273, 2, none⟩ = some (u274002) ∧ w'.cell? ⟨gb271, 0, none⟩ = some (.int .i64 a0_0) ∧ w'.cell? ⟨gb271, 1, none⟩ = some (.bool a0_1) ∧ w'.cell? ⟨gb271, 2, none⟩ = some (.slice (some ad274) l0_2.length c0_2) ∧ w'.cell? (ad274.add ((x4_1).toNat * 3)) = some (.int .i64 ((rd_T36 l0_2 x4_1).f0)) ∧ w'.cell? ⟨(ad274.add ((x4_1).toNat * 3)).block, (ad274.add ((x4_1).toNat * 3)).off + 1, none⟩ = some (.int .i64 ((rd_T36 l0_2 x4_1).f1)) ∧ w'.cell? ⟨(ad274.add ((x4_1).toNat * 3)).block, (ad274.add ((x4_1).toNat * 3)).off + 2, none⟩ = some (.string ((rd_T36 l0_2 x4_1).f2))) (ds := [10]) (tf 0 11) (by kernel_rfl) rfl rfl ⟨(blk_cell BK273.out 0).trans rfl, (blk_cell BK273.out 1).trans rfl, (blk_cell BK273.out 2).trans rfl, (blk_cell BK271.out 0).trans rfl, (blk_cell BK271.out 1).trans rfl, (blk_cell BK271.out 2).trans rfl, ((HB.out.cell (World.block_lt_of_cell? w _ hw274_0)).trans hw274_0), ((HB.out.cell (World.block_lt_of_cell? w _ hw274_1)).trans hw274_1), ((HB.out.cell (World.block_lt_of_cell? w _ hw274_2)).trans hw274_2)⟩ (fun hHeld => ?_); refine with_tabW hopperlaw08_told.tab5 hopperlaw08_told.bits5 (fun HT_ HW_ => ?_)
        generalize wr.drew = w16 at HO_274002 BK271 BK272 BK273 HB hx274_0 hx274_1 hx274_2 hHeld ⊢
        refine pure_ (i := 0) (N := some 17) (v := ?_) (a' := ?_) (tf 1 11) rfl rfl (any_of HT_.out (by kernel_rfl)) (fun _ _ _ h => h) (Or.inl ⟨by rfl, ?_⟩) ?_ ?_
        rotate_left
        · intro w'
          go_simp
          with_reducible rfl
        rotate_left
        · simp only [Act.put, PU, i64_w, i32_w]
          rfl
        refine pure_ (i := 2) (N := some 19) (v := ?_) (a' := ?_) #[true, false, true, false, false, false, false, false, false, false, false] rfl rfl (any_of HT_.out (by kernel_rfl)) (fun _ _ _ h => h) (Or.inl ⟨by rfl, ?_⟩) ?_ ?_
        rotate_left
        · intro w'
          go_simp
          with_reducible rfl
        rotate_left
        · simp only [Act.put, PU, i64_w, i32_w]
          rfl
        refine pure_ (i := 4) (N := some 21) (v := ?_) (a' := ?_) #[true, false, true, false, true, false, false, false, false, false, false] rfl rfl (any_of HT_.out (by kernel_rfl)) (fun _ _ _ h => h) (Or.inl ⟨by rfl, ?_⟩) ?_ ?_
        rotate_left
        · intro w'
          go_simp
          with_reducible rfl
        rotate_left
        · simp only [Act.put, PU, i64_w, i32_w]
          rfl
        refine take_ (i := 1) (N := some 18) (v := ?_) (a' := ?_) #[true, true, true, false, true, false, false, false, false, false, false] rfl rfl (take_ofW HT_.out HW_.out (by kernel_rfl)) (fun _ _ _ h => h) (Or.inl ⟨by rfl, ?_⟩) hHeld ?_ ?_
        rotate_left
        · rintro w' ⟨s0, s1, s2, s3, s4, s5, s6, s7, s8⟩
          go_simp
          with_reducible rfl
        rotate_left
        · simp only [Act.put, PU, i64_w, i32_w]
          rfl
        refine take_ (i := 3) (N := some 20) (v := ?_) (a' := ?_) (tf 5 11) rfl rfl (take_ofW HT_.out HW_.out (by kernel_rfl)) (fun _ _ _ h => h) (Or.inl ⟨by rfl, ?_⟩) hHeld ?_ ?_
        rotate_left
        · rintro w' ⟨s0, s1, s2, s3, s4, s5, s6, s7, s8⟩
          go_simp
          with_reducible rfl
        rotate_left
        · simp only [Act.put, PU, i64_w, i32_w]
          rfl
        refine pure_ (i := 5) (N := some 22) (v := ?_) (a' := ?_) (tf 6 11) rfl rfl (any_of HT_.out (by kernel_rfl)) (fun _ _ _ h => h) (Or.inl ⟨by rfl, ?_⟩) ?_ ?_
        rotate_left
        · intro w'
          go_simp
          with_reducible rfl
        rotate_left
        · simp only [Act.put, PU, i64_w, i32_w]
          rfl
        refine take_ (i := 6) (N := some 23) (v := ?_) (a' := ?_) (tf 7 11) rfl rfl (take_ofW HT_.out HW_.out (by kernel_rfl)) (fun _ _ _ h => h) (Or.inl ⟨by rfl, ?_⟩) hHeld ?_ ?_
        rotate_left
        · rintro w' ⟨s0, s1, s2, s3, s4, s5, s6, s7, s8⟩
          go_simp
          with_reducible rfl
        rotate_left
        · simp only [Act.put, PU, i64_w, i32_w]
          rfl
        refine one_ (i := 7) (N := some 24) (tf 8 11) rfl rfl (one_of HT_.out (by kernel_rfl)) (by decide) (fun K hK => ?_)
        refine value_ (w1 := ?_) (v := ?_) (by rfl) rfl ?_ ?_
        rotate_left 2
        · go_simp
          constructor
          · rfl
          · rfl
        refine hK.out _ _ ⟨(blk_cell (blk_alloc BK273.out _) 0).trans rfl, (blk_cell (blk_alloc BK273.out _) 1).trans rfl, (blk_cell (blk_alloc BK273.out _) 2).trans rfl, (blk_cell (blk_alloc BK271.out _) 0).trans rfl, (blk_cell (blk_alloc BK271.out _) 1).trans rfl, (blk_cell (blk_alloc BK271.out _) 2).trans rfl, (World.cell?_alloc_lt _ _ _ (World.block_lt_of_cell? _ _ (((HB.out.cell (World.block_lt_of_cell? w _ hw274_0)).trans hw274_0)))).trans (((HB.out.cell (World.block_lt_of_cell? w _ hw274_0)).trans hw274_0)), (World.cell?_alloc_lt _ _ _ (World.block_lt_of_cell? _ _ (((HB.out.cell (World.block_lt_of_cell? w _ hw274_1)).trans hw274_1)))).trans (((HB.out.cell (World.block_lt_of_cell? w _ hw274_1)).trans hw274_1)), (World.cell?_alloc_lt _ _ _ (World.block_lt_of_cell? _ _ (((HB.out.cell (World.block_lt_of_cell? w _ hw274_2)).trans hw274_2)))).trans (((HB.out.cell (World.block_lt_of_cell? w _ hw274_2)).trans hw274_2))⟩ (fun hHeld => ?_)
        clear hK K
        refine norm_ (a' := ?_) ?_ ?_
        rotate_left
        · show Act.put _ (some 24) _ = _
          simp only [Act.put, PU, i64_w, i32_w]
          rfl
        refine one_ (i := 8) (N := some 25) (tf 9 11) rfl rfl (one_of HT_.out (by kernel_rfl)) (by decide) (fun K hK => ?_)
        refine Kd.R_append_step k26 (w0 := w) w.heap.size (by rfl) (.tmp 18) (.tmp 24) 22 26 (.agg #[(.int .i64 0), (.int .i64 0), (.string ⟨#[]⟩)]) 32 rfl Try.underlying22 info26 rfl (by decide) (by omega) u274002 x274002_1 (⟨(rd_T36 l0_2 x4_1).f0, (rd_T36 l0_2 x4_1).f1, (rd_T36 l0_2 x4_1).f2⟩ : S26) [.int .i64 ((rd_T36 l0_2 x4_1).f0), .int .i64 ((rd_T36 l0_2 x4_1).f1), .string ((rd_T36 l0_2 x4_1).f2)] (fun _ => True) (fun _ => False) rfl rfl ?aP (fun _ hk => hk.elim) ?aF ?aO ?aB ?aS ?aL ?_
        (case aP => exact k26_mkM _ _ _ (⟨(rd_T36 l0_2 x4_1).f0, (rd_T36 l0_2 x4_1).f1, (rd_T36 l0_2 x4_1).f2⟩ : S26))
        (case aB => exact (LG HB.out (G1 GE271.out (G1 GE272.out (G1 GE273.out G0)))))
        (case aF => exact (fun _ _ => trivial))
        (case aO => exact (Kd.RA HO_274002.out))
        (case aS => exact (below_size (LG HB.out (G1 GE271.out (G1 GE272.out (G1 GE273.out G0))))))
        (case aL => have := LMc12.out; omega)
        intro v276 w17 ho hb hg hat
        rw [← Ny275.out] at ho
        have n0_ := Aside0.mk (blk_grown (g := gb271) (o := .cells #[.int .i64 a0_0, .bool a0_1, .slice (some ad274) l0_2.length c0_2] 31 (0, 0)) (BA BK271.out) hg (Kd.R_ne HO_274002.out BK271.out (by decide)))
        have n1_ := Aside0.mk (blk_grown (g := gb272) (o := .cells #[.int .i64 0, .bool false, .slice none 0 0] 24 (0, 0)) (BA BK272.out) hg (Kd.R_ne HO_274002.out BK272.out (by decide)))
        have n2_ := Aside0.mk (blk_grown (g := gb273) (o := .cells #[.int .i64 a0_0, .bool a0_1, u274002] 24 (0, 0)) (BA BK273.out) hg (Kd.R_ne HO_274002.out BK273.out (by decide)))
        have n3_ := Aside0.mk (hb)
        have n4_ := Aside0.mk (ho)
        clear BK271
        clear BK272
        clear BK273
        clear HB
        clear HO_274002
        have BK271 := n0_
        have BK272 := n1_
        have BK273 := n2_
        have HB := n3_
        have HO277 := n4_
        clear n0_ n1_ n2_ n3_ n4_
        clear ho hb hg hat
        obtain ⟨Ao18, co18, eo18⟩ := Kd.R_slice HO277.out
        (first | subst eo18 | (injection eo18 with f1_ f2_ f3_; have f4_ := f1_.symm; have f5_ := f3_.symm; clear f1_ f2_ f3_; subst f4_; subst f5_))
        refine hK.out _ _ ⟨(blk_cell BK273.out 0).trans rfl, (blk_cell BK273.out 1).trans rfl, (blk_cell BK273.out 2).trans rfl, (blk_cell BK271.out 0).trans rfl, (blk_cell BK271.out 1).trans rfl, (blk_cell BK271.out 2).trans rfl, ((HB.out.cell (World.block_lt_of_cell? w _ hw274_0)).trans hw274_0), ((HB.out.cell (World.block_lt_of_cell? w _ hw274_1)).trans hw274_1), ((HB.out.cell (World.block_lt_of_cell? w _ hw274_2)).trans hw274_2)⟩ (fun hHeld => ?_)
        clear hK K
        refine norm_ (a' := ?_) ?_ ?_
        rotate_left
        · show Act.put _ (some 25) _ = _
          simp only [Act.put, PU, i64_w, i32_w]
          rfl
        refine pure_ (i := 9) (N := some 26) (v := ?_) (a' := ?_) (tf 10 11) rfl rfl (any_of HT_.out (by kernel_rfl)) (fun _ _ _ h => h) (Or.inl ⟨by rfl, ?_⟩) ?_ ?_
        rotate_left
        · intro w'
          go_simp
          with_reducible rfl
        rotate_left
        · simp only [Act.put, PU, i64_w, i32_w]
          rfl
        refine last_ (i := 10) (N := none) (tf 11 11) rfl rfl (one_of HT_.out (by kernel_rfl)) (by decide) (fun K hK => ?_)
        have hs19 : w17.cell? ⟨gb273, 2, none⟩ = some (u274002) := (blk_cell BK273.out 2).trans rfl
        have hfs19 := blk_frozen BK273.out 2
        have hns19_0 := NB271_273.out
        have hns19_1 := NB272_273.out
        have hms19_0 := NB273_271.out
        have hms19_1 := NB273_272.out
        refine skip_ (w1 := ?_) (by rfl) rfl ?_ ?_
        rotate_left
        · go_simp
          rfl
        refine hK.out _ _ ?_
        clear hK K
        refine done_ (done_of HT_.out (by kernel_rfl)) ?_
        try go_wp2
        go_roundg k1
        case measure => have := HK1.out; omega
        case rel => exact ⟨(wrap64 (x4_1 + 1)), (y275), (.slice Ao18 y275.length co18), (by first | rfl | (simp; done) | (simp [*]; done)), H', ⟨by have := HK1.out; omega⟩, ⟨by (with_reducible repeat (first | apply Kd.R_alloc | apply Kd.R_drewN | apply Kd.R_drew)); exact Kd.R_mono (Kd.R_far (p := ⟨gb273, 2, none⟩) (Kd.R_types HO277.out BK273.out (by decide)) (fun _ hk => hk.2) (.slice Ao18 y275.length co18)) (fun _ hk => trivial)⟩, ⟨by exact BF BK271.out NB271_273.out⟩, ⟨by exact BF BK272.out NB272_273.out⟩, ⟨by (with_reducible repeat (first | refine blk_drewN ?_ _ | refine blk_drew ?_ | refine blk_alloc ?_ _)); refine blk_put (cs := #[.int .i64 a0_0, .bool a0_1, u274002]) ?_ 2 _ rfl; (with_reducible repeat (first | refine blk_drewN ?_ _ | refine blk_drew ?_ | refine blk_alloc ?_ _)); exact BK273.out⟩, ⟨LG HB.out (G1 GE271.out (G1 GE272.out (G1 GE273.out G0)))⟩⟩
      · rw [if_neg c10] at H
        have c10b0 : decide (x4_1 < (l0_2.length : Int)) = false := decide_eq_false c10
        clear c10
        simp only [Option.some.injEq, Prod.mk.injEq] at H
        obtain ⟨rfl, rfl, rfl⟩ := H
        have hnb20 := NB271_272.out
        have hnc20 := NB272_271.out
        have hnb21 := NB271_273.out
        have hnc21 := NB273_271.out
        have hcz22_0 : wr.cell? ⟨gb271, 0, none⟩ = some (.int .i64 a0_0) := (blk_cell BK271.out 0).trans rfl
        have hcz22_1 : wr.cell? ⟨gb271, 1, none⟩ = some (.bool a0_1) := (blk_cell BK271.out 1).trans rfl
        have hcz22_2 : wr.cell? ⟨gb271, 2, none⟩ = some (.slice A0_2 l0_2.length c0_2) := (blk_cell BK271.out 2).trans rfl
        have hfz22_0 := blk_frozen BK271.out 0
        have hfz22_1 := blk_frozen BK271.out 1
        have hfz22_2 := blk_frozen BK271.out 2
        have hnb23 := NB273_272.out
        have hnc23 := NB272_273.out
        have hcz24_0 : wr.cell? ⟨gb273, 0, none⟩ = some (.int .i64 a0_0) := (blk_cell BK273.out 0).trans rfl
        have hcz24_1 : wr.cell? ⟨gb273, 1, none⟩ = some (.bool a0_1) := (blk_cell BK273.out 1).trans rfl
        have hcz24_2 : wr.cell? ⟨gb273, 2, none⟩ = some (u274002) := (blk_cell BK273.out 2).trans rfl
        have hfz24_0 := blk_frozen BK273.out 0
        have hfz24_1 := blk_frozen BK273.out 1
        have hfz24_2 := blk_frozen BK273.out 2
        have hcz25_0 : wr.cell? ⟨gb272, 0, none⟩ = some (.int .i64 0) := (blk_cell BK272.out 0).trans rfl
        have hcz25_1 : wr.cell? ⟨gb272, 1, none⟩ = some (.bool false) := (blk_cell BK272.out 1).trans rfl
        have hcz25_2 : wr.cell? ⟨gb272, 2, none⟩ = some (.slice none 0 0) := (blk_cell BK272.out 2).trans rfl
        have hfz25_0 := blk_frozen BK272.out 0
        have hfz25_1 := blk_frozen BK272.out 1
        have hfz25_2 := blk_frozen BK272.out 2
        obtain ⟨Ao26, co26, eo26⟩ := Kd.R_slice HO_274002.out
        subst eo26
        go_wp2
        refine bodyPost_ret (results_cell_row rfl _ _ gb272 24 #[.int .i64 a0_0, .bool a0_1, .slice Ao26 x274002_1.length co26] (0, 0) _ rfl (BP BK272.out (by rfl)) Try.underlying24 rfl (by kernel_rfl)) rfl ?_
        exact ⟨_, by first | rfl | (simp [errW_none, errW_some] <;> rfl) | (simp [*, errW_none, errW_some] <;> rfl), by (with_reducible repeat (first | apply Kd.R_alloc | apply Kd.R_drewN | apply Kd.R_drew)); exact Kd.R_mono (Kd.R_mv (g := gb272) (Kd.R_types HO_274002.out BK272.out (by decide)) (fun _ hk => hk.2)) (fun _ hk => trivial), LG HB.out (G1 GE271.out (G1 GE272.out (G1 GE273.out G0)))⟩

end Go.Proofs.Ytacncgpnimdfbaa.PPipeCounts
