/- What the functions that the law reaches answer, each as a plain Lean function, with a proof that the call in memory comes to that answer. Written by wip/tools/given.py of this session out of the print.py of the kit, with stand-ins for some functions. -/
import Derived.Test.YthmnedlaecekkaaPFeedCoversx0
import Derived.Test.YthmnedlaecekkaaPFeedCoversx1
import Derived.Test.YthmnedlaecekkaaPFeedCoversx2
namespace Go.Proofs.Ythmnedlaecekkaa.PFeedCovers
open Go.RowKit Go.Proofs.YthmnedlaecekkaaW.PrintWords Go.Proofs.YthmnedlaecekkaaW.PrintLast Go.Proofs.YthmnedlaecekkaaW.PrintMore
attribute [local go_sem] max2_int min2_int max_two min_two max_three min_three max_four min_four   -- for this text's walks alone
set_option linter.unusedVariables false
set_option linter.unusedSimpArgs false

attribute [local go_sem high] eqA36
/-! ### feed_Tell: function 19 -/
def feed_Tell.l0 : Nat → List (S36) → Int → Int → Int → List (S36) → Int → Option (Int × (List (S36)) × Int)
  | 0, _, _, _, _, _, _ => none
  | k + 1, x11, x12, x13, x144000, x144001, x144002 => if x13 < x12 then (if 0 ≤ x13 then (if x13 < (x11.length : Int) then (if x144002 = 0 then (if (x144001.length : Int) < x144000 then (if x144001.length < 1954687338268 then (feed_Tell.l0 k x11 x12 (wrap64 (x13 + 1)) x144000 (x144001 ++ [(⟨(rd_T36 x11 x13).f0, (⟨(rd_T36 x11 x13).f1.f0, (rd_T36 x11 x13).f1.f1, (rd_T36 x11 x13).f1.f2, (rd_T36 x11 x13).f1.f3, (rd_T36 x11 x13).f1.f4, (rd_T36 x11 x13).f1.f5⟩ : S34), (rd_T36 x11 x13).f2⟩ : S36)]) x144002) else (none)) else (feed_Tell.l0 k x11 x12 (wrap64 (x13 + 1)) x144000 x144001 (wrap64 ((mn x144002 1099511627775) + 1)))) else (feed_Tell.l0 k x11 x12 (wrap64 (x13 + 1)) x144000 x144001 (wrap64 ((mn x144002 1099511627775) + 1)))) else (none)) else (none)) else (some (x144000, x144001, x144002))
def feed_Tell.f (k : Nat) (a0_0 : Int) (l0_1 : List (S36)) (a0_2 : Int) (l1 : List (S36)) : Option (Int × (List (S36)) × Int) := (api_Event.f l0_1).bind fun t145 => (feed_Tell.l0 k l1 (l1.length : Int) 0 a0_0 t145 a0_2)
theorem feed_Tell.mono_l : ∀ k, (∀ y0 y1 y2 y3 y4 y5, LeO (feed_Tell.l0 k y0 y1 y2 y3 y4 y5) (feed_Tell.l0 (k + 1) y0 y1 y2 y3 y4 y5))
  | 0 => fun _ _ _ _ _ _ r h => by simp [feed_Tell.l0] at h
  | k + 1 => by
    have ih0 := feed_Tell.mono_l k
    · intro y0 y1 y2 y3 y4 y5
      unfold feed_Tell.l0
      repeat' first
      | (with_reducible exact ih0 _ _ _ _ _ _)
      | (with_reducible exact LeO.refl _)
      | (with_reducible exact LeO.none _)
      | (with_reducible refine LeO.ite ?_ ?_)
      | (with_reducible refine LeO.bind ?_ (fun _ => ?_))
      | exact ih0 _ _ _ _ _ _
      | exact LeO.none _
      | refine LeO.ite ?_ ?_
      | refine LeO.bind ?_ (fun _ => ?_)
theorem feed_Tell.mono : ∀ a0 a1 a2 a3 k, LeO (feed_Tell.f k a0 a1 a2 a3) (feed_Tell.f (k + 1) a0 a1 a2 a3) := by
  intro a0 a1 a2 a3 k
  have ih0 := feed_Tell.mono_l k
  unfold feed_Tell.f
  repeat' first
      | (with_reducible exact ih0 _ _ _ _ _ _)
      | (with_reducible exact LeO.refl _)
      | (with_reducible exact LeO.none _)
      | (with_reducible refine LeO.ite ?_ ?_)
      | (with_reducible refine LeO.bind ?_ (fun _ => ?_))
      | exact ih0 _ _ _ _ _ _
      | exact LeO.none _
      | refine LeO.ite ?_ ?_
      | refine LeO.bind ?_ (fun _ => ?_)
set_option maxHeartbeats 8000000 in
set_option maxRecDepth 100000 in
theorem feed_Tell.calls (k : Nat) (a0_0 : Int) (A0_1 : Option Addr) (c0_1 : Nat) (l0_1 : List (S36)) (a0_2 : Int) (A1 : Option Addr) (c1 : Nat) (l1 : List (S36)) (r1 : Int) (r2 : List (S36)) (r3 : Int) (w : World) (hr0_1 : Kd.C k36 w A0_1 l0_1.length l0_1) (hc0_1 : l0_1.length ≤ c0_1) (hr1 : Kd.C k36 w A1 l1.length l1) (hc1 : l1.length ≤ c1) (h : feed_Tell.f k a0_0 l0_1 a0_2 l1 = some (r1, r2, r3)) :
    Calls Try.prog 19 #[.agg #[.int .i64 a0_0, .slice A0_1 l0_1.length c0_1, .int .i64 a0_2], .slice A1 l1.length c1] w fun e w' => ∃ v1_ : Value, e = .returned (.agg #[.int .i64 r1, v1_, .int .i64 r3]) ∧ Kd.R k36 36 w' w.heap.size (fun _ => True) v1_ r2 ∧ Below w.heap.size w w' := by
  have hu27 := Try.underlying27
  have hu36 := Try.underlying36
  have HR0_1 := Aside0.mk hr0_1
  have HC0_1 := Aside0.mk hc0_1
  clear hr0_1 hc0_1
  have HR1 := Aside0.mk hr1
  have HC1 := Aside0.mk hc1
  clear hr1 hc1
  have HB := Aside0.mk (Below.refl w.heap.size w)
  have H : ((api_Event.f l0_1).bind fun t145 => (feed_Tell.l0 k l1 (l1.length : Int) 0 a0_0 t145 a0_2)) = some (r1, r2, r3) := h
  clear h
  replace H := Option.bind_eq_some_iff.mp H
  obtain ⟨t145, A30, H⟩ := H
  replace H : (feed_Tell.l0 k l1 (l1.length : Int) 0 a0_0 t145 a0_2) = some (r1, r2, r3) := H
  have A3 := Aside0.mk A30
  clear A30
  have H' := Aside0.mk H
  clear H
  go_enter Try.func19, Try.ntmps19
  go_wp2_with (first | ((with_reducible refine gate_dst (N := 2) rfl ?_); (try (refine gate_guard (by rfl) ?_; dsimp only)); refine box_event ?hg (N := 2) ?hd (cs := #[.int .i64 a0_0, .slice A0_1 l0_1.length c0_1, .int .i64 a0_2]) (t := 27) ?hr ?_; (case hd => rfl); (case hg => rfl); (case hr => first | (go_simp; done) | (go_simp; rfl)); intro gb143 hg w4 hbox hb; have BK143 := Aside0.mk (hbox); have GE143 := Aside0.mk (ge1 hg (LA HB.out)); replace HB := Aside0.mk (below_step (LA HB.out) hb); clear hb hbox hg) | ((with_reducible refine gate_dst (N := 4) rfl ?_); (try (refine gate_guard (by rfl) ?_; dsimp only)); refine box_event ?hg (N := 4) ?hd (cs := #[.int .i64 0, .slice none 0 0, .int .i64 0]) (t := 27) ?hr ?_; (case hd => rfl); (case hg => rfl); (case hr => first | (go_simp; done) | (go_simp; rfl)); intro gb144 hg w5 hbox hb; have BK144 := Aside0.mk (hbox); have GE144 := Aside0.mk (ge1 hg (LA HB.out)); replace HB := Aside0.mk (below_step (LA HB.out) hb); have NB143_144 := Aside0.mk ((by rw [hg]; exact Nat.ne_of_lt (blk_lt (g := gb143) (o := .cells #[.int .i64 a0_0, .slice A0_1 l0_1.length c0_1, .int .i64 a0_2] 27 (0, 0)) (BA BK143.out)) : gb143 ≠ gb144)); have NB144_143 := Aside0.mk ((by rw [hg]; exact Nat.ne_of_gt (blk_lt (g := gb143) (o := .cells #[.int .i64 a0_0, .slice A0_1 l0_1.length c0_1, .int .i64 a0_2] 27 (0, 0)) (BA BK143.out)) : gb144 ≠ gb143)); replace BK143 := Aside0.mk (blk_below (BA BK143.out) hb); clear hb hbox hg; have hnb6 := NB143_144.out; have hnc6 := NB144_143.out; obtain ⟨hcz7_0, hcz7_1, hcz7_2, hfz7_0, hfz7_1, hfz7_2⟩ := cz3 BK143.out) | ((with_reducible refine gate_callee (f := 24) rfl ?_); refine goesL_ (some 9) rfl rfl Try.func24 (by kernel_rfl) rfl #[.slice A0_1 l0_1.length c0_1] rfl (by (try simp only [List.map_toArray, List.map_cons, List.map_nil]); first | done | rfl | (simp only [List.length_drop, List.length_take]; rfl)) ?_; (with_reducible refine (api_Event.calls _ _ l0_1 t145 _ ?side1 ?side2 A3.out).mono ?_); (case side1 => exact Kd.CA (Kd.C_below HR0_1.out HB.out)); (case side2 => exact HC0_1.out); rintro e w8 ⟨v146, rfl, ho0, hb⟩; refine ⟨_, rfl, ?_⟩; have HO147 := Aside0.mk (Kd.R_lower ho0 (below_size (LA HB.out))); replace BK143 := Aside0.mk (blk_below (BA BK143.out) hb); replace BK144 := Aside0.mk (blk_below (BA BK144.out) hb); replace HB := Aside0.mk (below_step (LA HB.out) hb); (try clear hb); (try clear hb2); (try clear hk); (try clear hi); (try clear ho0); obtain ⟨Ao9, co9, eo9⟩ := Kd.R_slice HO147.out; subst eo9; obtain ⟨hcz10_0, hcz10_1, hcz10_2, hfz10_0, hfz10_1, hfz10_2⟩ := cz3 BK143.out))
  go_loopg [13] k (fun kq v13 w' => ∃ (x13_1 : Int) (x144001_1 : List (S36)) (x144002_1 : Int) (u144001 : Value), v13 = .int .i64 x13_1 ∧ Aside0 (feed_Tell.l0 kq l1 (l1.length : Int) x13_1 a0_0 x144001_1 x144002_1 = some (r1, r2, r3)) ∧ Aside0 (kq ≤ k) ∧ Aside0 (Kd.R k36 36 w' w.heap.size (fun _ => True) u144001 x144001_1) ∧ Aside0 (w'.heap[gb143]? = some (.cells #[.int .i64 a0_0, u144001, .int .i64 x144002_1] 27 (0, 0))) ∧ Aside0 (w'.heap[gb144]? = some (.cells #[.int .i64 0, (.slice none 0 0), .int .i64 0] 27 (0, 0))) ∧ Aside0 (Below w.heap.size w w'))
  case atStart => exact ⟨(0), (t145), (a0_2), (.slice Ao9 t145.length co9), (by first | rfl | (simp; done) | (simp [*]; done)), H', ⟨Nat.le_refl _⟩, ⟨by (with_reducible repeat (first | apply Kd.R_alloc | apply Kd.R_drewN | apply Kd.R_drew)); exact Kd.R_mono (Kd.R_far (p := ⟨gb143, 1, none⟩) (Kd.R_types HO147.out BK143.out (by decide)) (fun _ hk => hk.2) (.slice Ao9 t145.length co9)) (fun _ hk => trivial)⟩, ⟨by (with_reducible repeat (first | refine blk_drewN ?_ _ | refine blk_drew ?_ | refine blk_alloc ?_ _)); refine blk_put (cs := #[.int .i64 a0_0, .slice A0_1 l0_1.length c0_1, .int .i64 a0_2]) ?_ 1 _ rfl; (with_reducible repeat (first | refine blk_drewN ?_ _ | refine blk_drew ?_ | refine blk_alloc ?_ _)); exact BK143.out⟩, ⟨by exact BF BK144.out NB144_143.out⟩, ⟨LG HB.out (G1 GE143.out (G1 GE144.out G0))⟩⟩
  case round =>
    clear H'
    try clear c1
    try clear c2
    try clear p2
    try clear c6
    try clear hcz10_0
    try clear hcz10_1
    try clear hcz10_2
    try clear hcz7_0
    try clear hcz7_1
    try clear hcz7_2
    try clear hfz10_0
    try clear hfz10_1
    try clear hfz10_2
    try clear hfz7_0
    try clear hfz7_1
    try clear hfz7_2
    obtain ⟨x13_1, x144001_1, x144002_1, u144001, rfl, HA, HK1, HO_144001, BK143, BK144, HB⟩ := hrel
    cases gk with
    | zero => exact absurd HA.out (by simp [feed_Tell.l0])
    | succ k1 =>
      have H := HA.out
      clear HA
      simp only [feed_Tell.l0] at H
      by_cases c11 : x13_1 < (l1.length : Int)
      · rw [if_pos c11] at H
        have c11b0 : decide (x13_1 < (l1.length : Int)) = true := decide_eq_true c11
        clear c11
        by_cases c12 : 0 ≤ x13_1
        rotate_left
        · rw [if_neg c12] at H
          exact absurd H (by simp)
        rw [if_pos c12] at H
        have c12b0 : decide (0 ≤ x13_1) = true := decide_eq_true c12
        clear c12
        by_cases c13 : x13_1 < (l1.length : Int)
        rotate_left
        · rw [if_neg c13] at H
          exact absurd H (by simp)
        rw [if_pos c13] at H
        have c13b0 : decide (x13_1 < (l1.length : Int)) = true := decide_eq_true c13
        clear c13
        by_cases c14 : x144002_1 = 0
        · rw [if_pos c14] at H
          have c14b0 : (x144002_1 == 0) = true := beq_iff_eq.mpr c14
          have c14b1 : (x144002_1 != 0) = false := bne_eq_false_iff_eq.mpr c14
          clear c14
          by_cases c15 : (x144001_1.length : Int) < a0_0
          · rw [if_pos c15] at H
            have c15b0 : decide ((x144001_1.length : Int) < a0_0) = true := decide_eq_true c15
            clear c15
            by_cases c16 : x144001_1.length < 1954687338268
            rotate_left
            · rw [if_neg c16] at H
              exact absurd H (by simp)
            rw [if_pos c16] at H
            have LMc16 := Aside0.mk c16
            clear c16
            obtain ⟨y150, hy150⟩ : ∃ y_ : List (S36), y_ = (x144001_1 ++ [(⟨(rd_T36 l1 x13_1).f0, (⟨(rd_T36 l1 x13_1).f1.f0, (rd_T36 l1 x13_1).f1.f1, (rd_T36 l1 x13_1).f1.f2, (rd_T36 l1 x13_1).f1.f3, (rd_T36 l1 x13_1).f1.f4, (rd_T36 l1 x13_1).f1.f5⟩ : S34), (rd_T36 l1 x13_1).f2⟩ : S36)]) := ⟨_, rfl⟩
            replace H : (feed_Tell.l0 k1 l1 (l1.length : Int) (wrap64 (x13_1 + 1)) a0_0 y150 x144002_1) = some (r1, r2, r3) := by first | (rw [hy150]; with_reducible exact H) | (have H2_ := (Option.bind_some _ _).symm.trans H; rw [hy150]; with_reducible exact H2_) | (have H2_ := (Option.bind_some _ _).symm.trans H; with_reducible exact H2_) | with_reducible exact H | (rw [hy150]; exact H) | exact H
            have Ny150 := Aside0.mk hy150
            clear hy150
            have H' := Aside0.mk H
            clear H
            have p148 : 0 ≤ (x13_1 : Int) := of_decide_eq_true (by first | (with_reducible assumption) | assumption)
            have q148 : x13_1 < (l1.length : Int) := of_decide_eq_true (by first | (with_reducible assumption) | assumption)
            obtain ⟨ad148, e148, hx148_0, hx148_1, hx148_2, hx148_3, hx148_4, hx148_5, hx148_6, hx148_7⟩ := at_T36 HR1.out x13_1 p148 q148
            cases e148
            replace hx148_0 := (HB.out.cell (World.block_lt_of_cell? w _ hx148_0)).trans hx148_0
            replace hx148_1 := (HB.out.cell (World.block_lt_of_cell? w _ hx148_1)).trans hx148_1
            replace hx148_2 := (HB.out.cell (World.block_lt_of_cell? w _ hx148_2)).trans hx148_2
            replace hx148_3 := (HB.out.cell (World.block_lt_of_cell? w _ hx148_3)).trans hx148_3
            replace hx148_4 := (HB.out.cell (World.block_lt_of_cell? w _ hx148_4)).trans hx148_4
            replace hx148_5 := (HB.out.cell (World.block_lt_of_cell? w _ hx148_5)).trans hx148_5
            replace hx148_6 := (HB.out.cell (World.block_lt_of_cell? w _ hx148_6)).trans hx148_6
            replace hx148_7 := (HB.out.cell (World.block_lt_of_cell? w _ hx148_7)).trans hx148_7
            replace p148 := eq_true p148
            replace q148 := eq_true q148
            go_wp2_with (first | ((with_reducible refine gate_dst (N := 6) rfl ?_); (try (refine gate_guard (by rfl) ?_; dsimp only)); refine box_event ?hg (N := 6) ?hd (cs := #[.int .i64 0, .int .i64 0, .int .i64 0, .int .i64 0, .int .i64 0, .int .i64 0, .string (⟨#[]⟩ : ByteArray), .int .i64 0]) (t := 36) ?hr ?_; (case hd => rfl); (case hg => rfl); (case hr => first | (go_simp; done) | (go_simp; rfl)); intro gb149 hg w17 hbox hb; replace HO_144001 := Aside0.mk (Kd.R_below (Kd.R_elderB (Kd.RA HO_144001.out) gb149 (Nat.le_of_eq hg.symm)) hb); have BK149 := Aside0.mk (hbox); have GE149 := Aside0.mk (ge1 hg (LA HB.out)); replace HB := Aside0.mk (below_step (LA HB.out) hb); have NB143_149 := Aside0.mk ((by rw [hg]; exact Nat.ne_of_lt (blk_lt (g := gb143) (o := .cells #[.int .i64 a0_0, u144001, .int .i64 x144002_1] 27 (0, 0)) (BA BK143.out)) : gb143 ≠ gb149)); have NB149_143 := Aside0.mk ((by rw [hg]; exact Nat.ne_of_gt (blk_lt (g := gb143) (o := .cells #[.int .i64 a0_0, u144001, .int .i64 x144002_1] 27 (0, 0)) (BA BK143.out)) : gb149 ≠ gb143)); replace BK143 := Aside0.mk (blk_below (BA BK143.out) hb); have NB144_149 := Aside0.mk ((by rw [hg]; exact Nat.ne_of_lt (blk_lt (g := gb144) (o := .cells #[.int .i64 0, .slice none 0 0, .int .i64 0] 27 (0, 0)) (BA BK144.out)) : gb144 ≠ gb149)); have NB149_144 := Aside0.mk ((by rw [hg]; exact Nat.ne_of_gt (blk_lt (g := gb144) (o := .cells #[.int .i64 0, .slice none 0 0, .int .i64 0] 27 (0, 0)) (BA BK144.out)) : gb149 ≠ gb144)); replace BK144 := Aside0.mk (blk_below (BA BK144.out) hb); clear hb hbox hg; have hnb18 := NB149_143.out; have hnc18 := NB143_149.out; have hnb19 := NB149_144.out; have hnc19 := NB144_149.out; obtain ⟨hcz20_0, hcz20_1, hcz20_2, hcz20_3, hcz20_4, hcz20_5, hcz20_6, hcz20_7, hfz20_0, hfz20_1, hfz20_2, hfz20_3, hfz20_4, hfz20_5, hfz20_6, hfz20_7⟩ := cz8 BK149.out; have hnb21 := NB143_144.out; have hnc21 := NB144_143.out; obtain ⟨hcz22_0, hcz22_1, hcz22_2, hfz22_0, hfz22_1, hfz22_2⟩ := cz3 BK143.out; obtain ⟨Ao23, co23, eo23⟩ := Kd.R_slice HO_144001.out; subst eo23) | ((with_reducible refine gate_builtin (b := .append) (xs := #[.tmp 29, .tmp 31]) rfl ?_); (try (refine gate_guard (by rfl) ?_; dsimp only)); at_builtin; refine Kd.R_append k36 (w0 := w) w.heap.size rfl (.tmp 29) (.tmp 31) 22 36 (.agg #[(.int .i64 0), (.int .i64 0), (.int .i64 0), (.int .i64 0), (.int .i64 0), (.int .i64 0), (.string ⟨#[]⟩), (.int .i64 0)]) 72 rfl Try.underlying22 info36 rfl (by decide) (by omega) (.slice Ao23 x144001_1.length co23) x144001_1 (⟨(rd_T36 l1 x13_1).f0, (⟨(rd_T36 l1 x13_1).f1.f0, (rd_T36 l1 x13_1).f1.f1, (rd_T36 l1 x13_1).f1.f2, (rd_T36 l1 x13_1).f1.f3, (rd_T36 l1 x13_1).f1.f4, (rd_T36 l1 x13_1).f1.f5⟩ : S34), (rd_T36 l1 x13_1).f2⟩ : S36) [.int .i64 ((rd_T36 l1 x13_1).f0), .int .i64 ((rd_T36 l1 x13_1).f1.f0), .int .i64 ((rd_T36 l1 x13_1).f1.f1), .int .i64 ((rd_T36 l1 x13_1).f1.f2), .int .i64 ((rd_T36 l1 x13_1).f1.f3), .int .i64 ((rd_T36 l1 x13_1).f1.f4), .string ((rd_T36 l1 x13_1).f1.f5), .int .i64 ((rd_T36 l1 x13_1).f2)] (fun k_ => k_ ≠ gb149) (fun _ => False) rfl (by first | (go_simp; done) | (go_simp; rfl)) ?aP (fun _ hk => hk.elim) ?aF ?aO ?aB ?aS ?aL ?_; (case aP => exact k36_mkM _ _ _ (⟨(rd_T36 l1 x13_1).f0, (⟨(rd_T36 l1 x13_1).f1.f0, (rd_T36 l1 x13_1).f1.f1, (rd_T36 l1 x13_1).f1.f2, (rd_T36 l1 x13_1).f1.f3, (rd_T36 l1 x13_1).f1.f4, (rd_T36 l1 x13_1).f1.f5⟩ : S34), (rd_T36 l1 x13_1).f2⟩ : S36)); (case aB => exact (LG HB.out (G1 GE149.out G0))); (case aF => exact (fun k_ hk => Kd.freshB (g := gb149) (o := .cells #[.int .i64 ((rd_T36 l1 x13_1).f0), .int .i64 ((rd_T36 l1 x13_1).f1.f0), .int .i64 ((rd_T36 l1 x13_1).f1.f1), .int .i64 ((rd_T36 l1 x13_1).f1.f2), .int .i64 ((rd_T36 l1 x13_1).f1.f3), .int .i64 ((rd_T36 l1 x13_1).f1.f4), .string ((rd_T36 l1 x13_1).f1.f5), .int .i64 ((rd_T36 l1 x13_1).f2)] 36 (0, 0)) (BP BK149.out (by rfl)) k_ hk)); (case aO => exact (Kd.R_mono (Kd.R_mv (g := gb149) (Kd.R_mono HO_144001.out (fun k_ hk => (⟨hk, hk.2⟩ : _ ∧ k_ ≠ gb149))) (fun _ hk => hk.2)) (fun _ hk => hk.1.2))); (case aS => exact (below_size (LG HB.out (G1 GE149.out G0)))); (case aL => have := LMc16.out; omega); intro v151 w24 ho hb hg hat; rw [← Ny150.out] at ho; replace BK143 := Aside0.mk (blk_grown (g := gb143) (o := .cells #[.int .i64 a0_0, .slice Ao23 x144001_1.length co23, .int .i64 x144002_1] 27 (0, 0)) (BF BK143.out NB143_149.out) hg (Kd.R_ne HO_144001.out BK143.out (by decide))); replace BK144 := Aside0.mk (blk_grown (g := gb144) (o := .cells #[.int .i64 0, .slice none 0 0, .int .i64 0] 27 (0, 0)) (BF BK144.out NB144_149.out) hg (Kd.R_ne HO_144001.out BK144.out (by decide))); replace HB := Aside0.mk (hb); have HO152 := Aside0.mk (ho); clear BK149 HO_144001; clear ho hb hg hat; obtain ⟨Ao25, co25, eo25⟩ := Kd.R_slice HO152.out; subst eo25; obtain ⟨hcz26_0, hcz26_1, hcz26_2, hfz26_0, hfz26_1, hfz26_2⟩ := cz3 BK143.out))
            go_roundg k1
            case measure => have := HK1.out; omega
            case rel => exact ⟨(wrap64 (x13_1 + 1)), (y150), (x144002_1), (.slice Ao25 y150.length co25), (by first | rfl | (simp; done) | (simp [*]; done)), H', ⟨by have := HK1.out; omega⟩, ⟨by (with_reducible repeat (first | apply Kd.R_alloc | apply Kd.R_drewN | apply Kd.R_drew)); exact Kd.R_mono (Kd.R_far (p := ⟨gb143, 1, none⟩) (Kd.R_types HO152.out BK143.out (by decide)) (fun _ hk => hk.2) (.slice Ao25 y150.length co25)) (fun _ hk => trivial)⟩, ⟨by (with_reducible repeat (first | refine blk_drewN ?_ _ | refine blk_drew ?_ | refine blk_alloc ?_ _)); refine blk_put (cs := #[.int .i64 a0_0, .slice Ao23 x144001_1.length co23, .int .i64 x144002_1]) ?_ 1 _ rfl; (with_reducible repeat (first | refine blk_drewN ?_ _ | refine blk_drew ?_ | refine blk_alloc ?_ _)); exact BK143.out⟩, ⟨by exact BF BK144.out NB144_143.out⟩, ⟨LG HB.out (G1 GE143.out (G1 GE144.out (G1 GE149.out G0)))⟩⟩
          · rw [if_neg c15] at H
            have c15b0 : decide ((x144001_1.length : Int) < a0_0) = false := decide_eq_false c15
            clear c15
            obtain ⟨ji27, hji27⟩ : ∃ j_ : Int, (mn x144002_1 1099511627775) = j_ := ⟨_, rfl⟩
            replace H : (feed_Tell.l0 k1 l1 (l1.length : Int) (wrap64 (x13_1 + 1)) a0_0 x144001_1 (wrap64 ((ji27) + 1))) = some (r1, r2, r3) := by first | (rw [hji27] at H; exact H) | (simp only [hji27] at H ⊢; exact H)
            have hji27_ : (if 1099511627775 < x144002_1 then 1099511627775 else x144002_1) = ji27 := hji27
            have H' := Aside0.mk H
            clear H
            have p148 : 0 ≤ (x13_1 : Int) := of_decide_eq_true (by first | (with_reducible assumption) | assumption)
            have q148 : x13_1 < (l1.length : Int) := of_decide_eq_true (by first | (with_reducible assumption) | assumption)
            obtain ⟨ad148, e148, hx148_0, hx148_1, hx148_2, hx148_3, hx148_4, hx148_5, hx148_6, hx148_7⟩ := at_T36 HR1.out x13_1 p148 q148
            cases e148
            replace hx148_0 := (HB.out.cell (World.block_lt_of_cell? w _ hx148_0)).trans hx148_0
            replace hx148_1 := (HB.out.cell (World.block_lt_of_cell? w _ hx148_1)).trans hx148_1
            replace hx148_2 := (HB.out.cell (World.block_lt_of_cell? w _ hx148_2)).trans hx148_2
            replace hx148_3 := (HB.out.cell (World.block_lt_of_cell? w _ hx148_3)).trans hx148_3
            replace hx148_4 := (HB.out.cell (World.block_lt_of_cell? w _ hx148_4)).trans hx148_4
            replace hx148_5 := (HB.out.cell (World.block_lt_of_cell? w _ hx148_5)).trans hx148_5
            replace hx148_6 := (HB.out.cell (World.block_lt_of_cell? w _ hx148_6)).trans hx148_6
            replace hx148_7 := (HB.out.cell (World.block_lt_of_cell? w _ hx148_7)).trans hx148_7
            replace p148 := eq_true p148
            replace q148 := eq_true q148
            go_wp2_with (first | ((with_reducible refine gate_dst (N := 6) rfl ?_); (try (refine gate_guard (by rfl) ?_; dsimp only)); refine box_event ?hg (N := 6) ?hd (cs := #[.int .i64 0, .int .i64 0, .int .i64 0, .int .i64 0, .int .i64 0, .int .i64 0, .string (⟨#[]⟩ : ByteArray), .int .i64 0]) (t := 36) ?hr ?_; (case hd => rfl); (case hg => rfl); (case hr => first | (go_simp; done) | (go_simp; rfl)); intro gb149 hg w28 hbox hb; replace HO_144001 := Aside0.mk (Kd.R_below (Kd.R_elderB (Kd.RA HO_144001.out) gb149 (Nat.le_of_eq hg.symm)) hb); have BK149 := Aside0.mk (hbox); have GE149 := Aside0.mk (ge1 hg (LA HB.out)); replace HB := Aside0.mk (below_step (LA HB.out) hb); have NB143_149 := Aside0.mk ((by rw [hg]; exact Nat.ne_of_lt (blk_lt (g := gb143) (o := .cells #[.int .i64 a0_0, u144001, .int .i64 x144002_1] 27 (0, 0)) (BA BK143.out)) : gb143 ≠ gb149)); have NB149_143 := Aside0.mk ((by rw [hg]; exact Nat.ne_of_gt (blk_lt (g := gb143) (o := .cells #[.int .i64 a0_0, u144001, .int .i64 x144002_1] 27 (0, 0)) (BA BK143.out)) : gb149 ≠ gb143)); replace BK143 := Aside0.mk (blk_below (BA BK143.out) hb); have NB144_149 := Aside0.mk ((by rw [hg]; exact Nat.ne_of_lt (blk_lt (g := gb144) (o := .cells #[.int .i64 0, .slice none 0 0, .int .i64 0] 27 (0, 0)) (BA BK144.out)) : gb144 ≠ gb149)); have NB149_144 := Aside0.mk ((by rw [hg]; exact Nat.ne_of_gt (blk_lt (g := gb144) (o := .cells #[.int .i64 0, .slice none 0 0, .int .i64 0] 27 (0, 0)) (BA BK144.out)) : gb149 ≠ gb144)); replace BK144 := Aside0.mk (blk_below (BA BK144.out) hb); clear hb hbox hg; have hnb29 := NB149_143.out; have hnc29 := NB143_149.out; have hnb30 := NB149_144.out; have hnc30 := NB144_149.out; obtain ⟨hcz31_0, hcz31_1, hcz31_2, hcz31_3, hcz31_4, hcz31_5, hcz31_6, hcz31_7, hfz31_0, hfz31_1, hfz31_2, hfz31_3, hfz31_4, hfz31_5, hfz31_6, hfz31_7⟩ := cz8 BK149.out; have hnb32 := NB143_144.out; have hnc32 := NB144_143.out; obtain ⟨hcz33_0, hcz33_1, hcz33_2, hfz33_0, hfz33_1, hfz33_2⟩ := cz3 BK143.out; obtain ⟨Ao34, co34, eo34⟩ := Kd.R_slice HO_144001.out; subst eo34))
            go_roundg k1
            case measure => have := HK1.out; omega
            case rel => exact ⟨(wrap64 (x13_1 + 1)), (x144001_1), (wrap64 ((ji27) + 1)), (.slice Ao34 x144001_1.length co34), (by first | rfl | (simp; done) | (simp [*]; done)), H', ⟨by have := HK1.out; omega⟩, ⟨by (with_reducible repeat (first | apply Kd.R_alloc | apply Kd.R_drewN | apply Kd.R_drew)); exact Kd.R_mono (Kd.R_ms (gs := [gb143, gb149]) (Kd.R_types (Kd.R_mono HO_144001.out (fun k_ hk => (⟨hk, hk.2⟩ : _ ∧ k_ ≠ gb149))) BK143.out (by decide)) (fun _ hk => N1 (hk.2) (N1 (hk.1.2) (N0)))) (fun _ hk => trivial)⟩, ⟨by (with_reducible repeat (first | refine blk_drewN ?_ _ | refine blk_drew ?_ | refine blk_alloc ?_ _)); refine blk_put (cs := #[.int .i64 a0_0, .slice Ao34 x144001_1.length co34, .int .i64 x144002_1]) ?_ 2 _ rfl; exact BF BK143.out NB143_149.out⟩, ⟨by exact BM BK144.out (N1 NB144_149.out (N1 NB144_143.out N0))⟩, ⟨LG HB.out (G1 GE143.out (G1 GE144.out (G1 GE149.out G0)))⟩⟩
        · rw [if_neg c14] at H
          have c14b0 : (x144002_1 == 0) = false := beq_eq_false_iff_ne.mpr c14
          have c14b1 : (x144002_1 != 0) = true := bne_iff_ne.mpr c14
          obtain ⟨ji35, hji35⟩ : ∃ j_ : Int, (mn x144002_1 1099511627775) = j_ := ⟨_, rfl⟩
          replace H : (feed_Tell.l0 k1 l1 (l1.length : Int) (wrap64 (x13_1 + 1)) a0_0 x144001_1 (wrap64 ((ji35) + 1))) = some (r1, r2, r3) := by first | (rw [hji35] at H; exact H) | (simp only [hji35] at H ⊢; exact H)
          have hji35_ : (if 1099511627775 < x144002_1 then 1099511627775 else x144002_1) = ji35 := hji35
          have H' := Aside0.mk H
          clear H
          have p148 : 0 ≤ (x13_1 : Int) := of_decide_eq_true (by first | (with_reducible assumption) | assumption)
          have q148 : x13_1 < (l1.length : Int) := of_decide_eq_true (by first | (with_reducible assumption) | assumption)
          obtain ⟨ad148, e148, hx148_0, hx148_1, hx148_2, hx148_3, hx148_4, hx148_5, hx148_6, hx148_7⟩ := at_T36 HR1.out x13_1 p148 q148
          cases e148
          replace hx148_0 := (HB.out.cell (World.block_lt_of_cell? w _ hx148_0)).trans hx148_0
          replace hx148_1 := (HB.out.cell (World.block_lt_of_cell? w _ hx148_1)).trans hx148_1
          replace hx148_2 := (HB.out.cell (World.block_lt_of_cell? w _ hx148_2)).trans hx148_2
          replace hx148_3 := (HB.out.cell (World.block_lt_of_cell? w _ hx148_3)).trans hx148_3
          replace hx148_4 := (HB.out.cell (World.block_lt_of_cell? w _ hx148_4)).trans hx148_4
          replace hx148_5 := (HB.out.cell (World.block_lt_of_cell? w _ hx148_5)).trans hx148_5
          replace hx148_6 := (HB.out.cell (World.block_lt_of_cell? w _ hx148_6)).trans hx148_6
          replace hx148_7 := (HB.out.cell (World.block_lt_of_cell? w _ hx148_7)).trans hx148_7
          replace p148 := eq_true p148
          replace q148 := eq_true q148
          go_wp2_with (first | ((with_reducible refine gate_dst (N := 6) rfl ?_); (try (refine gate_guard (by rfl) ?_; dsimp only)); refine box_event ?hg (N := 6) ?hd (cs := #[.int .i64 0, .int .i64 0, .int .i64 0, .int .i64 0, .int .i64 0, .int .i64 0, .string (⟨#[]⟩ : ByteArray), .int .i64 0]) (t := 36) ?hr ?_; (case hd => rfl); (case hg => rfl); (case hr => first | (go_simp; done) | (go_simp; rfl)); intro gb149 hg w36 hbox hb; replace HO_144001 := Aside0.mk (Kd.R_below (Kd.R_elderB (Kd.RA HO_144001.out) gb149 (Nat.le_of_eq hg.symm)) hb); have BK149 := Aside0.mk (hbox); have GE149 := Aside0.mk (ge1 hg (LA HB.out)); replace HB := Aside0.mk (below_step (LA HB.out) hb); have NB143_149 := Aside0.mk ((by rw [hg]; exact Nat.ne_of_lt (blk_lt (g := gb143) (o := .cells #[.int .i64 a0_0, u144001, .int .i64 x144002_1] 27 (0, 0)) (BA BK143.out)) : gb143 ≠ gb149)); have NB149_143 := Aside0.mk ((by rw [hg]; exact Nat.ne_of_gt (blk_lt (g := gb143) (o := .cells #[.int .i64 a0_0, u144001, .int .i64 x144002_1] 27 (0, 0)) (BA BK143.out)) : gb149 ≠ gb143)); replace BK143 := Aside0.mk (blk_below (BA BK143.out) hb); have NB144_149 := Aside0.mk ((by rw [hg]; exact Nat.ne_of_lt (blk_lt (g := gb144) (o := .cells #[.int .i64 0, .slice none 0 0, .int .i64 0] 27 (0, 0)) (BA BK144.out)) : gb144 ≠ gb149)); have NB149_144 := Aside0.mk ((by rw [hg]; exact Nat.ne_of_gt (blk_lt (g := gb144) (o := .cells #[.int .i64 0, .slice none 0 0, .int .i64 0] 27 (0, 0)) (BA BK144.out)) : gb149 ≠ gb144)); replace BK144 := Aside0.mk (blk_below (BA BK144.out) hb); clear hb hbox hg; have hnb37 := NB149_143.out; have hnc37 := NB143_149.out; have hnb38 := NB149_144.out; have hnc38 := NB144_149.out; obtain ⟨hcz39_0, hcz39_1, hcz39_2, hcz39_3, hcz39_4, hcz39_5, hcz39_6, hcz39_7, hfz39_0, hfz39_1, hfz39_2, hfz39_3, hfz39_4, hfz39_5, hfz39_6, hfz39_7⟩ := cz8 BK149.out; have hnb40 := NB143_144.out; have hnc40 := NB144_143.out; obtain ⟨hcz41_0, hcz41_1, hcz41_2, hfz41_0, hfz41_1, hfz41_2⟩ := cz3 BK143.out))
          go_roundg k1
          case measure => have := HK1.out; omega
          case rel => exact ⟨(wrap64 (x13_1 + 1)), (x144001_1), (wrap64 ((ji35) + 1)), (u144001), (by first | rfl | (simp; done) | (simp [*]; done)), H', ⟨by have := HK1.out; omega⟩, ⟨by (with_reducible repeat (first | apply Kd.R_alloc | apply Kd.R_drewN | apply Kd.R_drew)); exact Kd.R_mono (Kd.R_ms (gs := [gb143, gb149]) (Kd.R_types (Kd.R_mono HO_144001.out (fun k_ hk => (⟨hk, hk.2⟩ : _ ∧ k_ ≠ gb149))) BK143.out (by decide)) (fun _ hk => N1 (hk.2) (N1 (hk.1.2) (N0)))) (fun _ hk => trivial)⟩, ⟨by (with_reducible repeat (first | refine blk_drewN ?_ _ | refine blk_drew ?_ | refine blk_alloc ?_ _)); refine blk_put (cs := #[.int .i64 a0_0, u144001, .int .i64 x144002_1]) ?_ 2 _ rfl; exact BF BK143.out NB143_149.out⟩, ⟨by exact BM BK144.out (N1 NB144_149.out (N1 NB144_143.out N0))⟩, ⟨LG HB.out (G1 GE143.out (G1 GE144.out (G1 GE149.out G0)))⟩⟩
      · rw [if_neg c11] at H
        have c11b0 : decide (x13_1 < (l1.length : Int)) = false := decide_eq_false c11
        clear c11
        simp only [Option.some.injEq, Prod.mk.injEq] at H
        obtain ⟨rfl, rfl, rfl⟩ := H
        have hnb42 := NB143_144.out
        have hnc42 := NB144_143.out
        have hcz43_0 : wr.cell? ⟨gb143, 0, none⟩ = some (.int .i64 a0_0) := (blk_cell BK143.out 0).trans rfl
        have hcz43_1 : wr.cell? ⟨gb143, 1, none⟩ = some (u144001) := (blk_cell BK143.out 1).trans rfl
        have hcz43_2 : wr.cell? ⟨gb143, 2, none⟩ = some (.int .i64 x144002_1) := (blk_cell BK143.out 2).trans rfl
        have hfz43_0 := blk_frozen BK143.out 0
        have hfz43_1 := blk_frozen BK143.out 1
        have hfz43_2 := blk_frozen BK143.out 2
        have hcz44_0 : wr.cell? ⟨gb144, 0, none⟩ = some (.int .i64 0) := (blk_cell BK144.out 0).trans rfl
        have hcz44_1 : wr.cell? ⟨gb144, 1, none⟩ = some (.slice none 0 0) := (blk_cell BK144.out 1).trans rfl
        have hcz44_2 : wr.cell? ⟨gb144, 2, none⟩ = some (.int .i64 0) := (blk_cell BK144.out 2).trans rfl
        have hfz44_0 := blk_frozen BK144.out 0
        have hfz44_1 := blk_frozen BK144.out 1
        have hfz44_2 := blk_frozen BK144.out 2
        obtain ⟨Ao45, co45, eo45⟩ := Kd.R_slice HO_144001.out
        subst eo45
        go_wp2
        refine bodyPost_ret (results_cell_row rfl _ _ gb144 27 #[.int .i64 a0_0, .slice Ao45 x144001_1.length co45, .int .i64 x144002_1] (0, 0) _ rfl (BP BK144.out (by rfl)) Try.underlying27 rfl (by kernel_rfl)) rfl ?_
        exact ⟨_, by first | rfl | (simp [errW_none, errW_some] <;> rfl) | (simp [*, errW_none, errW_some] <;> rfl), by (with_reducible repeat (first | apply Kd.R_alloc | apply Kd.R_drewN | apply Kd.R_drew)); exact Kd.R_mono (Kd.R_mv (g := gb144) (Kd.R_types HO_144001.out BK144.out (by decide)) (fun _ hk => hk.2)) (fun _ hk => trivial), LG HB.out (G1 GE143.out (G1 GE144.out G0))⟩

/-! ### feed_Covers: function 21 -/
mutual
def feed_Covers.l0 : Nat → List (S36) → List (S36) → Int → Int → Option (Bool)
  | 0, _, _, _, _ => none
  | k + 1, x1, x8, x9, x10 => if x10 < x9 then (if 0 ≤ x10 then (if x10 < (x8.length : Int) then (if ((rd_T36 x8 x10).f0) = 4 then (if ((rd_T36 x8 x10).f2) < 1 then (some false) else (if ((rd_T36 x8 x10).f2) > (x1.length : Int) then (some false) else (if 0 ≤ ((rd_T36 x8 x10).f2) then (if ((rd_T36 x8 x10).f2) ≤ (x1.length : Int) then (feed_Covers.l0 k (x1.drop (((rd_T36 x8 x10).f2) : Int).toNat) x8 x9 (wrap64 (x10 + 1))) else (none)) else (none)))) else (if (x1.length : Int) = 0 then (feed_Covers.j1 k x1 1 x8 x9 x10 true) else (if 0 < (x1.length : Int) then (feed_Covers.j1 k x1 1 x8 x9 x10 (!(((rd_T36 x1 0).f0) == ((rd_T36 x8 x10).f0)) || ((!(((rd_T36 x1 0).f1.f0) == ((rd_T36 x8 x10).f1.f0)) || (!(((rd_T36 x1 0).f1.f1) == ((rd_T36 x8 x10).f1.f1)) || (!(((rd_T36 x1 0).f1.f2) == ((rd_T36 x8 x10).f1.f2)) || (!(((rd_T36 x1 0).f1.f3) == ((rd_T36 x8 x10).f1.f3)) || (!(((rd_T36 x1 0).f1.f4) == ((rd_T36 x8 x10).f1.f4)) || (!((((rd_T36 x1 0).f1.f5).toList) == (((rd_T36 x8 x10).f1.f5).toList)))))))) || (!(((rd_T36 x1 0).f2) == ((rd_T36 x8 x10).f2)))))) else (none)))) else (none)) else (none)) else (some ((x1.length : Int) == 0))
def feed_Covers.j1 : Nat → List (S36) → Int → List (S36) → Int → Int → Bool → Option (Bool)
  | 0, _, _, _, _, _, _ => none
  | k + 1, x1, x7, x8, x9, x10, x28 => if x28 = true then (some false) else (if x7 < 1 then (some false) else (if x7 > (x1.length : Int) then (some false) else (if 0 ≤ x7 then (if x7 ≤ (x1.length : Int) then (feed_Covers.l0 k (x1.drop (x7 : Int).toNat) x8 x9 (wrap64 (x10 + 1))) else (none)) else (none))))
end
def feed_Covers.f (k : Nat) (l0 : List (S36)) (l1 : List (S36)) : Option (Bool) := feed_Covers.l0 k l1 l0 (l0.length : Int) 0
theorem feed_Covers.mono_l : ∀ k, (∀ y0 y1 y2 y3, LeO (feed_Covers.l0 k y0 y1 y2 y3) (feed_Covers.l0 (k + 1) y0 y1 y2 y3)) ∧ (∀ y0 y1 y2 y3 y4 y5, LeO (feed_Covers.j1 k y0 y1 y2 y3 y4 y5) (feed_Covers.j1 (k + 1) y0 y1 y2 y3 y4 y5))
  | 0 => ⟨fun _ _ _ _ r h => by simp [feed_Covers.l0] at h, fun _ _ _ _ _ _ r h => by simp [feed_Covers.j1] at h⟩
  | k + 1 => by
    obtain ⟨ih0, ih1⟩ := feed_Covers.mono_l k
    refine ⟨?_, ?_⟩
    · intro y0 y1 y2 y3
      unfold feed_Covers.l0
      repeat' first
      | (with_reducible exact ih0 _ _ _ _)
      | (with_reducible exact ih1 _ _ _ _ _ _)
      | (with_reducible exact LeO.refl _)
      | (with_reducible exact LeO.none _)
      | (with_reducible refine LeO.ite ?_ ?_)
      | (with_reducible refine LeO.bind ?_ (fun _ => ?_))
      | exact ih0 _ _ _ _
      | exact ih1 _ _ _ _ _ _
      | exact LeO.none _
      | refine LeO.ite ?_ ?_
      | refine LeO.bind ?_ (fun _ => ?_)
    · intro y0 y1 y2 y3 y4 y5
      unfold feed_Covers.j1
      repeat' first
      | (with_reducible exact ih0 _ _ _ _)
      | (with_reducible exact ih1 _ _ _ _ _ _)
      | (with_reducible exact LeO.refl _)
      | (with_reducible exact LeO.none _)
      | (with_reducible refine LeO.ite ?_ ?_)
      | (with_reducible refine LeO.bind ?_ (fun _ => ?_))
      | exact ih0 _ _ _ _
      | exact ih1 _ _ _ _ _ _
      | exact LeO.none _
      | refine LeO.ite ?_ ?_
      | refine LeO.bind ?_ (fun _ => ?_)
theorem feed_Covers.mono : ∀ a0 a1 k, LeO (feed_Covers.f k a0 a1) (feed_Covers.f (k + 1) a0 a1) := by
  intro a0 a1 k
  obtain ⟨ih0, ih1⟩ := feed_Covers.mono_l k
  unfold feed_Covers.f
  repeat' first
      | (with_reducible exact ih0 _ _ _ _)
      | (with_reducible exact ih1 _ _ _ _ _ _)
      | (with_reducible exact LeO.refl _)
      | (with_reducible exact LeO.none _)
      | (with_reducible refine LeO.ite ?_ ?_)
      | (with_reducible refine LeO.bind ?_ (fun _ => ?_))
      | exact ih0 _ _ _ _
      | exact ih1 _ _ _ _ _ _
      | exact LeO.none _
      | refine LeO.ite ?_ ?_
      | refine LeO.bind ?_ (fun _ => ?_)
set_option maxHeartbeats 60000000 in
set_option maxRecDepth 100000 in
theorem feed_Covers.calls (k : Nat) (A0 : Option Addr) (c0 : Nat) (l0 : List (S36)) (P1_ : Nat → Prop) (A1 : Option Addr) (c1 : Nat) (l1 : List (S36)) (r : Bool) (w : World) (hr0 : Kd.C k36 w A0 l0.length l0) (hc0 : l0.length ≤ c0) (hs1 : Kd.V k36 36 w w.heap.size (fun k_ => P1_ k_) (.slice A1 l1.length c1) l1) (h : feed_Covers.f k l0 l1 = some r) :
    Calls Try.prog 21 #[.slice A0 l0.length c0, .slice A1 l1.length c1] w fun e w' => e = .returned (.bool r) ∧ Below w.heap.size w w' := by
  have hu36 := Try.underlying36
  have HR0 := Aside0.mk hr0
  have HC0 := Aside0.mk hc0
  clear hr0 hc0
  have HO1 := Aside0.mk (show Kd.V k36 36 w w.heap.size (fun k_ => (P1_ k_ ∨ w.heap.size ≤ k_)) (.slice A1 l1.length c1) l1 from Kd.V_mono hs1 (fun k_ hk => .inl hk))
  have HB := Aside0.mk (Below.refl w.heap.size w)
  have H : (feed_Covers.l0 k l1 l0 (l0.length : Int) 0) = some r := h
  clear h
  have H' := Aside0.mk H
  clear H
  go_enter Try.func21, Try.ntmps21
  go_wp2
  repeat (go_quiet (fail); try go_wp2)
  go_loopg [1, 10] k (fun kq v1 v10 w' => ∃ (x1_1 : List (S36)) (x10_1 : Int), v10 = .int .i64 x10_1 ∧ Aside0 (feed_Covers.l0 kq x1_1 l0 (l0.length : Int) x10_1 = some r) ∧ Aside0 (kq ≤ k) ∧ Aside0 (Kd.V k36 36 w' w.heap.size (fun k_ => (P1_ k_ ∨ w.heap.size ≤ k_)) v1 x1_1) ∧ Aside0 (Below w.heap.size w w'))
  case atStart => exact ⟨(l1), (0), (by first | rfl | (simp; done) | (simp [*]; done)), H', ⟨Nat.le_refl _⟩, ⟨by (with_reducible repeat (first | apply Kd.V_alloc | apply Kd.V_drewN | apply Kd.V_drew)); exact HO1.out⟩, ⟨LA HB.out⟩⟩
  case round =>
    clear H'
    try clear c1
    try clear c2
    try clear p2
    obtain ⟨x1_1, x10_1, rfl, HA, HK1, HO_1, HB⟩ := hrel
    cases gk with
    | zero => exact absurd HA.out (by simp [feed_Covers.l0])
    | succ k1 =>
      have H := HA.out
      clear HA
      simp only [feed_Covers.l0] at H
      by_cases c3 : x10_1 < (l0.length : Int)
      · rw [if_pos c3] at H
        have c3b0 : decide (x10_1 < (l0.length : Int)) = true := decide_eq_true c3
        clear c3
        by_cases c4 : 0 ≤ x10_1
        rotate_left
        · rw [if_neg c4] at H
          exact absurd H (by simp)
        rw [if_pos c4] at H
        have c4b0 : decide (0 ≤ x10_1) = true := decide_eq_true c4
        clear c4
        by_cases c5 : x10_1 < (l0.length : Int)
        rotate_left
        · rw [if_neg c5] at H
          exact absurd H (by simp)
        rw [if_pos c5] at H
        have c5b0 : decide (x10_1 < (l0.length : Int)) = true := decide_eq_true c5
        clear c5
        by_cases c6 : ((rd_T36 l0 x10_1).f0) = 4
        · rw [if_pos c6] at H
          have c6b0 : (((rd_T36 l0 x10_1).f0) == 4) = true := beq_iff_eq.mpr c6
          have c6b1 : (((rd_T36 l0 x10_1).f0) != 4) = false := bne_eq_false_iff_eq.mpr c6
          clear c6
          by_cases c7 : ((rd_T36 l0 x10_1).f2) < 1
          · rw [if_pos c7] at H
            have c7b0 : decide (((rd_T36 l0 x10_1).f2) < 1) = true := decide_eq_true c7
            clear c7
            obtain rfl := Option.some.inj H
            have p153 : 0 ≤ (x10_1 : Int) := of_decide_eq_true (by first | (with_reducible assumption) | assumption)
            have q153 : x10_1 < (l0.length : Int) := of_decide_eq_true (by first | (with_reducible assumption) | assumption)
            obtain ⟨ad153, e153, hx153_0, hx153_1, hx153_2, hx153_3, hx153_4, hx153_5, hx153_6, hx153_7⟩ := at_T36 HR0.out x10_1 p153 q153
            cases e153
            replace hx153_0 := (HB.out.cell (World.block_lt_of_cell? w _ hx153_0)).trans hx153_0
            replace hx153_1 := (HB.out.cell (World.block_lt_of_cell? w _ hx153_1)).trans hx153_1
            replace hx153_2 := (HB.out.cell (World.block_lt_of_cell? w _ hx153_2)).trans hx153_2
            replace hx153_3 := (HB.out.cell (World.block_lt_of_cell? w _ hx153_3)).trans hx153_3
            replace hx153_4 := (HB.out.cell (World.block_lt_of_cell? w _ hx153_4)).trans hx153_4
            replace hx153_5 := (HB.out.cell (World.block_lt_of_cell? w _ hx153_5)).trans hx153_5
            replace hx153_6 := (HB.out.cell (World.block_lt_of_cell? w _ hx153_6)).trans hx153_6
            replace hx153_7 := (HB.out.cell (World.block_lt_of_cell? w _ hx153_7)).trans hx153_7
            replace p153 := eq_true p153
            replace q153 := eq_true q153
            go_wp2_with (first | ((with_reducible refine gate_dst (N := 6) rfl ?_); (try (refine gate_guard (by rfl) ?_; dsimp only)); refine box_event ?hg (N := 6) ?hd (cs := #[.int .i64 0, .int .i64 0, .int .i64 0, .int .i64 0, .int .i64 0, .int .i64 0, .string (⟨#[]⟩ : ByteArray), .int .i64 0]) (t := 36) ?hr ?_; (case hd => rfl); (case hg => rfl); (case hr => first | (go_simp; done) | (go_simp; rfl)); intro gb154 hg w8 hbox hb; replace HO_1 := Aside0.mk (Kd.V_below (Kd.V_elderB (Kd.VA HO_1.out) gb154 (Nat.le_of_eq hg.symm)) hb); have BK154 := Aside0.mk (hbox); have GW154 := Aside0.mk (ge1 hg (LA HB.out)); have GE154 := Aside0.mk (ge1 hg (LA HB.out)); replace HB := Aside0.mk (below_step (LA HB.out) hb); clear hb hbox hg; obtain ⟨hcz9_0, hcz9_1, hcz9_2, hcz9_3, hcz9_4, hcz9_5, hcz9_6, hcz9_7, hfz9_0, hfz9_1, hfz9_2, hfz9_3, hfz9_4, hfz9_5, hfz9_6, hfz9_7⟩ := cz8 BK154.out))
            repeat (go_quiet (first | ((with_reducible refine gate_dst (N := 6) rfl ?_); (try (refine gate_guard (by rfl) ?_; dsimp only)); refine box_event ?hg (N := 6) ?hd (cs := #[.int .i64 0, .int .i64 0, .int .i64 0, .int .i64 0, .int .i64 0, .int .i64 0, .string (⟨#[]⟩ : ByteArray), .int .i64 0]) (t := 36) ?hr ?_; (case hd => rfl); (case hg => rfl); (case hr => first | (go_simp; done) | (go_simp; rfl)); intro gb154 hg w8 hbox hb; have n0_ := Aside0.mk (Kd.V_below (Kd.V_elderB (Kd.VA HO_1.out) gb154 (Nat.le_of_eq hg.symm)) hb); have n1_ := Aside0.mk (below_step (LA HB.out) hb); have n2_ := Aside0.mk (hbox); have n3_ := Aside0.mk (ge1 hg (LA HB.out)); have n4_ := Aside0.mk (ge1 hg (LA HB.out)); clear HO_1; clear HB; have HO_1 := n0_; have HB := n1_; have BK154 := n2_; have GW154 := n3_; have GE154 := n4_; clear n0_ n1_ n2_ n3_ n4_; clear hb hbox hg; obtain ⟨hcz9_0, hcz9_1, hcz9_2, hcz9_3, hcz9_4, hcz9_5, hcz9_6, hcz9_7, hfz9_0, hfz9_1, hfz9_2, hfz9_3, hfz9_4, hfz9_5, hfz9_6, hfz9_7⟩ := cz8 BK154.out)); try go_wp2_with (first | ((with_reducible refine gate_dst (N := 6) rfl ?_); (try (refine gate_guard (by rfl) ?_; dsimp only)); refine box_event ?hg (N := 6) ?hd (cs := #[.int .i64 0, .int .i64 0, .int .i64 0, .int .i64 0, .int .i64 0, .int .i64 0, .string (⟨#[]⟩ : ByteArray), .int .i64 0]) (t := 36) ?hr ?_; (case hd => rfl); (case hg => rfl); (case hr => first | (go_simp; done) | (go_simp; rfl)); intro gb154 hg w8 hbox hb; have n0_ := Aside0.mk (Kd.V_below (Kd.V_elderB (Kd.VA HO_1.out) gb154 (Nat.le_of_eq hg.symm)) hb); have n1_ := Aside0.mk (below_step (LA HB.out) hb); have n2_ := Aside0.mk (hbox); have n3_ := Aside0.mk (ge1 hg (LA HB.out)); have n4_ := Aside0.mk (ge1 hg (LA HB.out)); clear HO_1; clear HB; have HO_1 := n0_; have HB := n1_; have BK154 := n2_; have GW154 := n3_; have GE154 := n4_; clear n0_ n1_ n2_ n3_ n4_; clear hb hbox hg; obtain ⟨hcz9_0, hcz9_1, hcz9_2, hcz9_3, hcz9_4, hcz9_5, hcz9_6, hcz9_7, hfz9_0, hfz9_1, hfz9_2, hfz9_3, hfz9_4, hfz9_5, hfz9_6, hfz9_7⟩ := cz8 BK154.out)))
            go_ret
            exact ⟨by first | rfl | (simp [errW_none, errW_some] <;> rfl) | (simp [*, errW_none, errW_some] <;> rfl), LG HB.out (G1 GE154.out G0)⟩
          · rw [if_neg c7] at H
            have c7b0 : decide (((rd_T36 l0 x10_1).f2) < 1) = false := decide_eq_false c7
            clear c7
            by_cases c10 : ((rd_T36 l0 x10_1).f2) > (x1_1.length : Int)
            · rw [if_pos c10] at H
              have c10b0 : decide ((x1_1.length : Int) < ((rd_T36 l0 x10_1).f2)) = true := decide_eq_true c10
              clear c10
              obtain rfl := Option.some.inj H
              have p153 : 0 ≤ (x10_1 : Int) := of_decide_eq_true (by first | (with_reducible assumption) | assumption)
              have q153 : x10_1 < (l0.length : Int) := of_decide_eq_true (by first | (with_reducible assumption) | assumption)
              obtain ⟨ad153, e153, hx153_0, hx153_1, hx153_2, hx153_3, hx153_4, hx153_5, hx153_6, hx153_7⟩ := at_T36 HR0.out x10_1 p153 q153
              cases e153
              replace hx153_0 := (HB.out.cell (World.block_lt_of_cell? w _ hx153_0)).trans hx153_0
              replace hx153_1 := (HB.out.cell (World.block_lt_of_cell? w _ hx153_1)).trans hx153_1
              replace hx153_2 := (HB.out.cell (World.block_lt_of_cell? w _ hx153_2)).trans hx153_2
              replace hx153_3 := (HB.out.cell (World.block_lt_of_cell? w _ hx153_3)).trans hx153_3
              replace hx153_4 := (HB.out.cell (World.block_lt_of_cell? w _ hx153_4)).trans hx153_4
              replace hx153_5 := (HB.out.cell (World.block_lt_of_cell? w _ hx153_5)).trans hx153_5
              replace hx153_6 := (HB.out.cell (World.block_lt_of_cell? w _ hx153_6)).trans hx153_6
              replace hx153_7 := (HB.out.cell (World.block_lt_of_cell? w _ hx153_7)).trans hx153_7
              replace p153 := eq_true p153
              replace q153 := eq_true q153
              go_wp2_with (first | ((with_reducible refine gate_dst (N := 6) rfl ?_); (try (refine gate_guard (by rfl) ?_; dsimp only)); refine box_event ?hg (N := 6) ?hd (cs := #[.int .i64 0, .int .i64 0, .int .i64 0, .int .i64 0, .int .i64 0, .int .i64 0, .string (⟨#[]⟩ : ByteArray), .int .i64 0]) (t := 36) ?hr ?_; (case hd => rfl); (case hg => rfl); (case hr => first | (go_simp; done) | (go_simp; rfl)); intro gb154 hg w11 hbox hb; replace HO_1 := Aside0.mk (Kd.V_below (Kd.V_elderB (Kd.VA HO_1.out) gb154 (Nat.le_of_eq hg.symm)) hb); have BK154 := Aside0.mk (hbox); have GW154 := Aside0.mk (ge1 hg (LA HB.out)); have GE154 := Aside0.mk (ge1 hg (LA HB.out)); replace HB := Aside0.mk (below_step (LA HB.out) hb); clear hb hbox hg; obtain ⟨hcz12_0, hcz12_1, hcz12_2, hcz12_3, hcz12_4, hcz12_5, hcz12_6, hcz12_7, hfz12_0, hfz12_1, hfz12_2, hfz12_3, hfz12_4, hfz12_5, hfz12_6, hfz12_7⟩ := cz8 BK154.out; obtain ⟨Ao13, co13, eo13⟩ := Kd.V_slice HO_1.out; subst eo13))
              repeat (go_quiet (first | ((with_reducible refine gate_dst (N := 6) rfl ?_); (try (refine gate_guard (by rfl) ?_; dsimp only)); refine box_event ?hg (N := 6) ?hd (cs := #[.int .i64 0, .int .i64 0, .int .i64 0, .int .i64 0, .int .i64 0, .int .i64 0, .string (⟨#[]⟩ : ByteArray), .int .i64 0]) (t := 36) ?hr ?_; (case hd => rfl); (case hg => rfl); (case hr => first | (go_simp; done) | (go_simp; rfl)); intro gb154 hg w11 hbox hb; have n0_ := Aside0.mk (Kd.V_below (Kd.V_elderB (Kd.VA HO_1.out) gb154 (Nat.le_of_eq hg.symm)) hb); have n1_ := Aside0.mk (below_step (LA HB.out) hb); have n2_ := Aside0.mk (hbox); have n3_ := Aside0.mk (ge1 hg (LA HB.out)); have n4_ := Aside0.mk (ge1 hg (LA HB.out)); clear HO_1; clear HB; have HO_1 := n0_; have HB := n1_; have BK154 := n2_; have GW154 := n3_; have GE154 := n4_; clear n0_ n1_ n2_ n3_ n4_; clear hb hbox hg; obtain ⟨hcz12_0, hcz12_1, hcz12_2, hcz12_3, hcz12_4, hcz12_5, hcz12_6, hcz12_7, hfz12_0, hfz12_1, hfz12_2, hfz12_3, hfz12_4, hfz12_5, hfz12_6, hfz12_7⟩ := cz8 BK154.out; obtain ⟨Ao13, co13, eo13⟩ := Kd.V_slice HO_1.out; subst eo13)); try go_wp2_with (first | ((with_reducible refine gate_dst (N := 6) rfl ?_); (try (refine gate_guard (by rfl) ?_; dsimp only)); refine box_event ?hg (N := 6) ?hd (cs := #[.int .i64 0, .int .i64 0, .int .i64 0, .int .i64 0, .int .i64 0, .int .i64 0, .string (⟨#[]⟩ : ByteArray), .int .i64 0]) (t := 36) ?hr ?_; (case hd => rfl); (case hg => rfl); (case hr => first | (go_simp; done) | (go_simp; rfl)); intro gb154 hg w11 hbox hb; have n0_ := Aside0.mk (Kd.V_below (Kd.V_elderB (Kd.VA HO_1.out) gb154 (Nat.le_of_eq hg.symm)) hb); have n1_ := Aside0.mk (below_step (LA HB.out) hb); have n2_ := Aside0.mk (hbox); have n3_ := Aside0.mk (ge1 hg (LA HB.out)); have n4_ := Aside0.mk (ge1 hg (LA HB.out)); clear HO_1; clear HB; have HO_1 := n0_; have HB := n1_; have BK154 := n2_; have GW154 := n3_; have GE154 := n4_; clear n0_ n1_ n2_ n3_ n4_; clear hb hbox hg; obtain ⟨hcz12_0, hcz12_1, hcz12_2, hcz12_3, hcz12_4, hcz12_5, hcz12_6, hcz12_7, hfz12_0, hfz12_1, hfz12_2, hfz12_3, hfz12_4, hfz12_5, hfz12_6, hfz12_7⟩ := cz8 BK154.out; obtain ⟨Ao13, co13, eo13⟩ := Kd.V_slice HO_1.out; subst eo13)))
              go_ret
              exact ⟨by first | rfl | (simp [errW_none, errW_some] <;> rfl) | (simp [*, errW_none, errW_some] <;> rfl), LG HB.out (G1 GE154.out G0)⟩
            · rw [if_neg c10] at H
              have c10b0 : decide ((x1_1.length : Int) < ((rd_T36 l0 x10_1).f2)) = false := decide_eq_false c10
              clear c10
              by_cases c14 : 0 ≤ ((rd_T36 l0 x10_1).f2)
              rotate_left
              · rw [if_neg c14] at H
                exact absurd H (by simp)
              rw [if_pos c14] at H
              have c14b0 := eq_true c14
              have c14b1 : decide (0 ≤ ((rd_T36 l0 x10_1).f2)) = true := decide_eq_true c14
              clear c14
              by_cases c15 : ((rd_T36 l0 x10_1).f2) ≤ (x1_1.length : Int)
              rotate_left
              · rw [if_neg c15] at H
                exact absurd H (by simp)
              rw [if_pos c15] at H
              have c15b0 := eq_true c15
              have c15b1 : decide (((rd_T36 l0 x10_1).f2) ≤ (x1_1.length : Int)) = true := decide_eq_true c15
              clear c15
              obtain ⟨y155, hy155⟩ : ∃ y_ : List (S36), y_ = (x1_1.drop (((rd_T36 l0 x10_1).f2) : Int).toNat) := ⟨_, rfl⟩
              replace H : (feed_Covers.l0 k1 y155 l0 (l0.length : Int) (wrap64 (x10_1 + 1))) = some r := by first | (rw [hy155]; with_reducible exact H) | (have H2_ := (Option.bind_some _ _).symm.trans H; rw [hy155]; with_reducible exact H2_) | (have H2_ := (Option.bind_some _ _).symm.trans H; with_reducible exact H2_) | with_reducible exact H | (rw [hy155]; exact H) | exact H
              have Ny155 := Aside0.mk hy155
              clear hy155
              have H' := Aside0.mk H
              clear H
              have p153 : 0 ≤ (x10_1 : Int) := of_decide_eq_true (by first | (with_reducible assumption) | assumption)
              have q153 : x10_1 < (l0.length : Int) := of_decide_eq_true (by first | (with_reducible assumption) | assumption)
              obtain ⟨ad153, e153, hx153_0, hx153_1, hx153_2, hx153_3, hx153_4, hx153_5, hx153_6, hx153_7⟩ := at_T36 HR0.out x10_1 p153 q153
              cases e153
              replace hx153_0 := (HB.out.cell (World.block_lt_of_cell? w _ hx153_0)).trans hx153_0
              replace hx153_1 := (HB.out.cell (World.block_lt_of_cell? w _ hx153_1)).trans hx153_1
              replace hx153_2 := (HB.out.cell (World.block_lt_of_cell? w _ hx153_2)).trans hx153_2
              replace hx153_3 := (HB.out.cell (World.block_lt_of_cell? w _ hx153_3)).trans hx153_3
              replace hx153_4 := (HB.out.cell (World.block_lt_of_cell? w _ hx153_4)).trans hx153_4
              replace hx153_5 := (HB.out.cell (World.block_lt_of_cell? w _ hx153_5)).trans hx153_5
              replace hx153_6 := (HB.out.cell (World.block_lt_of_cell? w _ hx153_6)).trans hx153_6
              replace hx153_7 := (HB.out.cell (World.block_lt_of_cell? w _ hx153_7)).trans hx153_7
              replace p153 := eq_true p153
              replace q153 := eq_true q153
              go_wp2_with (first | ((with_reducible refine gate_dst (N := 6) rfl ?_); (try (refine gate_guard (by rfl) ?_; dsimp only)); refine box_event ?hg (N := 6) ?hd (cs := #[.int .i64 0, .int .i64 0, .int .i64 0, .int .i64 0, .int .i64 0, .int .i64 0, .string (⟨#[]⟩ : ByteArray), .int .i64 0]) (t := 36) ?hr ?_; (case hd => rfl); (case hg => rfl); (case hr => first | (go_simp; done) | (go_simp; rfl)); intro gb154 hg w16 hbox hb; replace HO_1 := Aside0.mk (Kd.V_below (Kd.V_elderB (Kd.VA HO_1.out) gb154 (Nat.le_of_eq hg.symm)) hb); have BK154 := Aside0.mk (hbox); have GW154 := Aside0.mk (ge1 hg (LA HB.out)); have GE154 := Aside0.mk (ge1 hg (LA HB.out)); replace HB := Aside0.mk (below_step (LA HB.out) hb); clear hb hbox hg; obtain ⟨hcz17_0, hcz17_1, hcz17_2, hcz17_3, hcz17_4, hcz17_5, hcz17_6, hcz17_7, hfz17_0, hfz17_1, hfz17_2, hfz17_3, hfz17_4, hfz17_5, hfz17_6, hfz17_7⟩ := cz8 BK154.out) | ((with_reducible refine gate_store (t := 36) (p := 6) rfl ?_); (try (rw [drewN_self w16]; generalize hq_ : World.drewN w16 _ = w16; have n0_ := Aside0.mk (Kd.V_at hq_ HO_1.out); have n1_ := Aside0.mk (blk_at hq_ BK154.out); have n2_ := Aside0.mk (below_at hq_ HB.out); clear hq_ HO_1 BK154 HB; have HO_1 := n0_; have BK154 := n1_; have HB := n2_; clear n0_ n1_ n2_)); refine store_event (t := 36) (p := 6) (v := ?vo_w18) (w1 := ((((((((w16.setCell ⟨gb154, 0, none⟩ (.int .i64 ((rd_T36 l0 x10_1).f0))).setCell ⟨gb154, 1, none⟩ (.int .i64 ((rd_T36 l0 x10_1).f1.f0))).setCell ⟨gb154, 2, none⟩ (.int .i64 ((rd_T36 l0 x10_1).f1.f1))).setCell ⟨gb154, 3, none⟩ (.int .i64 ((rd_T36 l0 x10_1).f1.f2))).setCell ⟨gb154, 4, none⟩ (.int .i64 ((rd_T36 l0 x10_1).f1.f3))).setCell ⟨gb154, 5, none⟩ (.int .i64 ((rd_T36 l0 x10_1).f1.f4))).setCell ⟨gb154, 6, none⟩ (.string ((rd_T36 l0 x10_1).f1.f5))).setCell ⟨gb154, 7, none⟩ (.int .i64 ((rd_T36 l0 x10_1).f2)))) ?hg ?ho ?hn ?hr ?_; (case ho => rfl); (case hg => rfl); (case hn => rfl); (case hr => first | (go_simp; done) | (go_simp; rfl)); intro w18 hw; replace HO_1 : Aside0 (Kd.V k36 36 w18 w.heap.size (fun k_ => (P1_ k_ ∨ w.heap.size ≤ k_) ∧ k_ ≠ gb154) u1 x1_1) := ⟨(by rw [hw]; exact (Kd.V_mono (Kd.V_mv (g := gb154) (Kd.V_mono HO_1.out (fun k_ hk => (⟨hk, hk.2⟩ : _ ∧ k_ ≠ gb154))) (fun _ hk => hk.2)) (fun _ hk => ⟨hk.1.1, hk.1.2⟩)))⟩; replace BK154 : Aside0 (w18.heap[gb154]? = some (.cells #[.int .i64 ((rd_T36 l0 x10_1).f0), .int .i64 ((rd_T36 l0 x10_1).f1.f0), .int .i64 ((rd_T36 l0 x10_1).f1.f1), .int .i64 ((rd_T36 l0 x10_1).f1.f2), .int .i64 ((rd_T36 l0 x10_1).f1.f3), .int .i64 ((rd_T36 l0 x10_1).f1.f4), .string ((rd_T36 l0 x10_1).f1.f5), .int .i64 ((rd_T36 l0 x10_1).f2)] 36 (0, 0))) := ⟨(by rw [hw]; exact (BP BK154.out (by rfl)))⟩; replace HB : Aside0 (Below w.heap.size w w18) := ⟨(by rw [hw]; exact (LG HB.out (G1 GE154.out G0)))⟩; clear hw; obtain ⟨hcz19_0, hcz19_1, hcz19_2, hcz19_3, hcz19_4, hcz19_5, hcz19_6, hcz19_7, hfz19_0, hfz19_1, hfz19_2, hfz19_3, hfz19_4, hfz19_5, hfz19_6, hfz19_7⟩ := cz8 BK154.out; obtain ⟨Ao20, co20, eo20⟩ := Kd.V_slice HO_1.out; subst eo20; have q21 : (((rd_T36 l0 x10_1).f2) : Int) ≤ ((x1_1.length : Int) : Int) := of_decide_eq_true (by first | (with_reducible assumption) | assumption); obtain ⟨i021, hi021, _, hsz21, _⟩ := info_parts info36; have hroom21 : x1_1.length ≤ co20 := (Kd.V_reads' HO_1.out).2.1; have hC21 : Kd.F k36 _ _ Ao20 x1_1.length x1_1 := (Kd.V_at (base := w.heap.size) HO_1.out).2.2; have q021 : (0 : Int) ≤ (((rd_T36 l0 x10_1).f2) : Int) := of_decide_eq_true (by first | (with_reducible assumption) | assumption); have hcut21 := cut_from (P := Try.prog) 22 36 .i64 Try.underlying22 hi021 8 hsz21 Ao20 x1_1.length co20 ((rd_T36 l0 x10_1).f2) q021 q21; have hr21 := Kd.F_cut (m := (((rd_T36 l0 x10_1).f2) : Int).toNat) (c := co20) hC21 (by omega) hroom21; obtain ⟨A21, hA21⟩ : ∃ A_, A_ = (if co20 = (((rd_T36 l0 x10_1).f2) : Int).toNat then Ao20 else (Ao20 : Option Addr).map (·.add ((((rd_T36 l0 x10_1).f2) : Int).toNat * 8))) := ⟨_, rfl⟩; obtain ⟨c21, hc21⟩ : ∃ c_, c_ = co20 - (((rd_T36 l0 x10_1).f2) : Int).toNat := ⟨_, rfl⟩; have hy21 : y155.length = x1_1.length - (((rd_T36 l0 x10_1).f2) : Int).toNat := (by rw [Ny155.out, List.length_drop] <;> omega); rw [show (x1_1).drop (((rd_T36 l0 x10_1).f2) : Int).toNat = y155 from Ny155.out.symm] at hr21; replace hr21 : Kd.F k36 _ _ A21 y155.length y155 := (by rw [hA21]; exact hr21); rw [← hy21, ← hA21, ← hc21] at hcut21; have HO159 := Aside0.mk (show Kd.V k36 36 _ w.heap.size _ (.slice A21 y155.length c21) y155 from Kd.V_mk (by rw [hy21, hc21]; exact Nat.sub_le_sub_right hroom21 _) hr21); have HC159 := Aside0.mk (show y155.length ≤ c21 from by rw [hy21, hc21]; exact Nat.sub_le_sub_right hroom21 _); clear hr21 hC21 hroom21 hi021 hsz21 hc21; have KY21 := Aside0.mk hy21; have KA21 := Aside0.mk hA21; clear hy21 hA21; replace q21 := eq_true q21))
              repeat (go_quiet (first | ((with_reducible refine gate_dst (N := 6) rfl ?_); (try (refine gate_guard (by rfl) ?_; dsimp only)); refine box_event ?hg (N := 6) ?hd (cs := #[.int .i64 0, .int .i64 0, .int .i64 0, .int .i64 0, .int .i64 0, .int .i64 0, .string (⟨#[]⟩ : ByteArray), .int .i64 0]) (t := 36) ?hr ?_; (case hd => rfl); (case hg => rfl); (case hr => first | (go_simp; done) | (go_simp; rfl)); intro gb154 hg w16 hbox hb; have n0_ := Aside0.mk (Kd.V_below (Kd.V_elderB (Kd.VA HO_1.out) gb154 (Nat.le_of_eq hg.symm)) hb); have n1_ := Aside0.mk (below_step (LA HB.out) hb); have n2_ := Aside0.mk (hbox); have n3_ := Aside0.mk (ge1 hg (LA HB.out)); have n4_ := Aside0.mk (ge1 hg (LA HB.out)); clear HO_1; clear HB; have HO_1 := n0_; have HB := n1_; have BK154 := n2_; have GW154 := n3_; have GE154 := n4_; clear n0_ n1_ n2_ n3_ n4_; clear hb hbox hg; obtain ⟨hcz17_0, hcz17_1, hcz17_2, hcz17_3, hcz17_4, hcz17_5, hcz17_6, hcz17_7, hfz17_0, hfz17_1, hfz17_2, hfz17_3, hfz17_4, hfz17_5, hfz17_6, hfz17_7⟩ := cz8 BK154.out) | ((with_reducible refine gate_store (t := 36) (p := 6) rfl ?_); (try (rw [drewN_self w16]; generalize hq_ : World.drewN w16 _ = w16; have n0_ := Aside0.mk (Kd.V_at hq_ HO_1.out); have n1_ := Aside0.mk (blk_at hq_ BK154.out); have n2_ := Aside0.mk (below_at hq_ HB.out); clear hq_ HO_1 BK154 HB; have HO_1 := n0_; have BK154 := n1_; have HB := n2_; clear n0_ n1_ n2_)); refine store_event (t := 36) (p := 6) (v := ?vo_w18) (w1 := ((((((((w16.setCell ⟨gb154, 0, none⟩ (.int .i64 ((rd_T36 l0 x10_1).f0))).setCell ⟨gb154, 1, none⟩ (.int .i64 ((rd_T36 l0 x10_1).f1.f0))).setCell ⟨gb154, 2, none⟩ (.int .i64 ((rd_T36 l0 x10_1).f1.f1))).setCell ⟨gb154, 3, none⟩ (.int .i64 ((rd_T36 l0 x10_1).f1.f2))).setCell ⟨gb154, 4, none⟩ (.int .i64 ((rd_T36 l0 x10_1).f1.f3))).setCell ⟨gb154, 5, none⟩ (.int .i64 ((rd_T36 l0 x10_1).f1.f4))).setCell ⟨gb154, 6, none⟩ (.string ((rd_T36 l0 x10_1).f1.f5))).setCell ⟨gb154, 7, none⟩ (.int .i64 ((rd_T36 l0 x10_1).f2)))) ?hg ?ho ?hn ?hr ?_; (case ho => rfl); (case hg => rfl); (case hn => rfl); (case hr => first | (go_simp; done) | (go_simp; rfl)); intro w18 hw; have n0_ : Aside0 (Kd.V k36 36 w18 w.heap.size (fun k_ => (P1_ k_ ∨ w.heap.size ≤ k_) ∧ k_ ≠ gb154) u1 x1_1) := ⟨(by rw [hw]; exact (Kd.V_mono (Kd.V_mv (g := gb154) (Kd.V_mono HO_1.out (fun k_ hk => (⟨hk, hk.2⟩ : _ ∧ k_ ≠ gb154))) (fun _ hk => hk.2)) (fun _ hk => ⟨hk.1.1, hk.1.2⟩)))⟩; have n1_ : Aside0 (w18.heap[gb154]? = some (.cells #[.int .i64 ((rd_T36 l0 x10_1).f0), .int .i64 ((rd_T36 l0 x10_1).f1.f0), .int .i64 ((rd_T36 l0 x10_1).f1.f1), .int .i64 ((rd_T36 l0 x10_1).f1.f2), .int .i64 ((rd_T36 l0 x10_1).f1.f3), .int .i64 ((rd_T36 l0 x10_1).f1.f4), .string ((rd_T36 l0 x10_1).f1.f5), .int .i64 ((rd_T36 l0 x10_1).f2)] 36 (0, 0))) := ⟨(by rw [hw]; exact (BP BK154.out (by rfl)))⟩; have n2_ : Aside0 (Below w.heap.size w w18) := ⟨(by rw [hw]; exact (LG HB.out (G1 GE154.out G0)))⟩; clear hw; clear HO_1; clear BK154; clear HB; have HO_1 := n0_; have BK154 := n1_; have HB := n2_; clear n0_ n1_ n2_; obtain ⟨hcz19_0, hcz19_1, hcz19_2, hcz19_3, hcz19_4, hcz19_5, hcz19_6, hcz19_7, hfz19_0, hfz19_1, hfz19_2, hfz19_3, hfz19_4, hfz19_5, hfz19_6, hfz19_7⟩ := cz8 BK154.out; obtain ⟨Ao20, co20, eo20⟩ := Kd.V_slice HO_1.out; subst eo20; have q21 : (((rd_T36 l0 x10_1).f2) : Int) ≤ ((x1_1.length : Int) : Int) := of_decide_eq_true (by first | (with_reducible assumption) | assumption); obtain ⟨i021, hi021, _, hsz21, _⟩ := info_parts info36; have hroom21 : x1_1.length ≤ co20 := (Kd.V_reads' HO_1.out).2.1; have hC21 : Kd.F k36 _ _ Ao20 x1_1.length x1_1 := (Kd.V_at (base := w.heap.size) HO_1.out).2.2; have q021 : (0 : Int) ≤ (((rd_T36 l0 x10_1).f2) : Int) := of_decide_eq_true (by first | (with_reducible assumption) | assumption); have hcut21 := cut_from (P := Try.prog) 22 36 .i64 Try.underlying22 hi021 8 hsz21 Ao20 x1_1.length co20 ((rd_T36 l0 x10_1).f2) q021 q21; have hr21 := Kd.F_cut (m := (((rd_T36 l0 x10_1).f2) : Int).toNat) (c := co20) hC21 (by omega) hroom21; obtain ⟨A21, hA21⟩ : ∃ A_, A_ = (if co20 = (((rd_T36 l0 x10_1).f2) : Int).toNat then Ao20 else (Ao20 : Option Addr).map (·.add ((((rd_T36 l0 x10_1).f2) : Int).toNat * 8))) := ⟨_, rfl⟩; obtain ⟨c21, hc21⟩ : ∃ c_, c_ = co20 - (((rd_T36 l0 x10_1).f2) : Int).toNat := ⟨_, rfl⟩; have hy21 : y155.length = x1_1.length - (((rd_T36 l0 x10_1).f2) : Int).toNat := (by rw [Ny155.out, List.length_drop] <;> omega); rw [show (x1_1).drop (((rd_T36 l0 x10_1).f2) : Int).toNat = y155 from Ny155.out.symm] at hr21; replace hr21 : Kd.F k36 _ _ A21 y155.length y155 := (by rw [hA21]; exact hr21); rw [← hy21, ← hA21, ← hc21] at hcut21; have HO159 := Aside0.mk (show Kd.V k36 36 _ w.heap.size _ (.slice A21 y155.length c21) y155 from Kd.V_mk (by rw [hy21, hc21]; exact Nat.sub_le_sub_right hroom21 _) hr21); have HC159 := Aside0.mk (show y155.length ≤ c21 from by rw [hy21, hc21]; exact Nat.sub_le_sub_right hroom21 _); clear hr21 hC21 hroom21 hi021 hsz21 hc21; have KY21 := Aside0.mk hy21; have KA21 := Aside0.mk hA21; clear hy21 hA21; replace q21 := eq_true q21)); try go_wp2_with (first | ((with_reducible refine gate_dst (N := 6) rfl ?_); (try (refine gate_guard (by rfl) ?_; dsimp only)); refine box_event ?hg (N := 6) ?hd (cs := #[.int .i64 0, .int .i64 0, .int .i64 0, .int .i64 0, .int .i64 0, .int .i64 0, .string (⟨#[]⟩ : ByteArray), .int .i64 0]) (t := 36) ?hr ?_; (case hd => rfl); (case hg => rfl); (case hr => first | (go_simp; done) | (go_simp; rfl)); intro gb154 hg w16 hbox hb; have n0_ := Aside0.mk (Kd.V_below (Kd.V_elderB (Kd.VA HO_1.out) gb154 (Nat.le_of_eq hg.symm)) hb); have n1_ := Aside0.mk (below_step (LA HB.out) hb); have n2_ := Aside0.mk (hbox); have n3_ := Aside0.mk (ge1 hg (LA HB.out)); have n4_ := Aside0.mk (ge1 hg (LA HB.out)); clear HO_1; clear HB; have HO_1 := n0_; have HB := n1_; have BK154 := n2_; have GW154 := n3_; have GE154 := n4_; clear n0_ n1_ n2_ n3_ n4_; clear hb hbox hg; obtain ⟨hcz17_0, hcz17_1, hcz17_2, hcz17_3, hcz17_4, hcz17_5, hcz17_6, hcz17_7, hfz17_0, hfz17_1, hfz17_2, hfz17_3, hfz17_4, hfz17_5, hfz17_6, hfz17_7⟩ := cz8 BK154.out) | ((with_reducible refine gate_store (t := 36) (p := 6) rfl ?_); (try (rw [drewN_self w16]; generalize hq_ : World.drewN w16 _ = w16; have n0_ := Aside0.mk (Kd.V_at hq_ HO_1.out); have n1_ := Aside0.mk (blk_at hq_ BK154.out); have n2_ := Aside0.mk (below_at hq_ HB.out); clear hq_ HO_1 BK154 HB; have HO_1 := n0_; have BK154 := n1_; have HB := n2_; clear n0_ n1_ n2_)); refine store_event (t := 36) (p := 6) (v := ?vo_w18) (w1 := ((((((((w16.setCell ⟨gb154, 0, none⟩ (.int .i64 ((rd_T36 l0 x10_1).f0))).setCell ⟨gb154, 1, none⟩ (.int .i64 ((rd_T36 l0 x10_1).f1.f0))).setCell ⟨gb154, 2, none⟩ (.int .i64 ((rd_T36 l0 x10_1).f1.f1))).setCell ⟨gb154, 3, none⟩ (.int .i64 ((rd_T36 l0 x10_1).f1.f2))).setCell ⟨gb154, 4, none⟩ (.int .i64 ((rd_T36 l0 x10_1).f1.f3))).setCell ⟨gb154, 5, none⟩ (.int .i64 ((rd_T36 l0 x10_1).f1.f4))).setCell ⟨gb154, 6, none⟩ (.string ((rd_T36 l0 x10_1).f1.f5))).setCell ⟨gb154, 7, none⟩ (.int .i64 ((rd_T36 l0 x10_1).f2)))) ?hg ?ho ?hn ?hr ?_; (case ho => rfl); (case hg => rfl); (case hn => rfl); (case hr => first | (go_simp; done) | (go_simp; rfl)); intro w18 hw; have n0_ : Aside0 (Kd.V k36 36 w18 w.heap.size (fun k_ => (P1_ k_ ∨ w.heap.size ≤ k_) ∧ k_ ≠ gb154) u1 x1_1) := ⟨(by rw [hw]; exact (Kd.V_mono (Kd.V_mv (g := gb154) (Kd.V_mono HO_1.out (fun k_ hk => (⟨hk, hk.2⟩ : _ ∧ k_ ≠ gb154))) (fun _ hk => hk.2)) (fun _ hk => ⟨hk.1.1, hk.1.2⟩)))⟩; have n1_ : Aside0 (w18.heap[gb154]? = some (.cells #[.int .i64 ((rd_T36 l0 x10_1).f0), .int .i64 ((rd_T36 l0 x10_1).f1.f0), .int .i64 ((rd_T36 l0 x10_1).f1.f1), .int .i64 ((rd_T36 l0 x10_1).f1.f2), .int .i64 ((rd_T36 l0 x10_1).f1.f3), .int .i64 ((rd_T36 l0 x10_1).f1.f4), .string ((rd_T36 l0 x10_1).f1.f5), .int .i64 ((rd_T36 l0 x10_1).f2)] 36 (0, 0))) := ⟨(by rw [hw]; exact (BP BK154.out (by rfl)))⟩; have n2_ : Aside0 (Below w.heap.size w w18) := ⟨(by rw [hw]; exact (LG HB.out (G1 GE154.out G0)))⟩; clear hw; clear HO_1; clear BK154; clear HB; have HO_1 := n0_; have BK154 := n1_; have HB := n2_; clear n0_ n1_ n2_; obtain ⟨hcz19_0, hcz19_1, hcz19_2, hcz19_3, hcz19_4, hcz19_5, hcz19_6, hcz19_7, hfz19_0, hfz19_1, hfz19_2, hfz19_3, hfz19_4, hfz19_5, hfz19_6, hfz19_7⟩ := cz8 BK154.out; obtain ⟨Ao20, co20, eo20⟩ := Kd.V_slice HO_1.out; subst eo20; have q21 : (((rd_T36 l0 x10_1).f2) : Int) ≤ ((x1_1.length : Int) : Int) := of_decide_eq_true (by first | (with_reducible assumption) | assumption); obtain ⟨i021, hi021, _, hsz21, _⟩ := info_parts info36; have hroom21 : x1_1.length ≤ co20 := (Kd.V_reads' HO_1.out).2.1; have hC21 : Kd.F k36 _ _ Ao20 x1_1.length x1_1 := (Kd.V_at (base := w.heap.size) HO_1.out).2.2; have q021 : (0 : Int) ≤ (((rd_T36 l0 x10_1).f2) : Int) := of_decide_eq_true (by first | (with_reducible assumption) | assumption); have hcut21 := cut_from (P := Try.prog) 22 36 .i64 Try.underlying22 hi021 8 hsz21 Ao20 x1_1.length co20 ((rd_T36 l0 x10_1).f2) q021 q21; have hr21 := Kd.F_cut (m := (((rd_T36 l0 x10_1).f2) : Int).toNat) (c := co20) hC21 (by omega) hroom21; obtain ⟨A21, hA21⟩ : ∃ A_, A_ = (if co20 = (((rd_T36 l0 x10_1).f2) : Int).toNat then Ao20 else (Ao20 : Option Addr).map (·.add ((((rd_T36 l0 x10_1).f2) : Int).toNat * 8))) := ⟨_, rfl⟩; obtain ⟨c21, hc21⟩ : ∃ c_, c_ = co20 - (((rd_T36 l0 x10_1).f2) : Int).toNat := ⟨_, rfl⟩; have hy21 : y155.length = x1_1.length - (((rd_T36 l0 x10_1).f2) : Int).toNat := (by rw [Ny155.out, List.length_drop] <;> omega); rw [show (x1_1).drop (((rd_T36 l0 x10_1).f2) : Int).toNat = y155 from Ny155.out.symm] at hr21; replace hr21 : Kd.F k36 _ _ A21 y155.length y155 := (by rw [hA21]; exact hr21); rw [← hy21, ← hA21, ← hc21] at hcut21; have HO159 := Aside0.mk (show Kd.V k36 36 _ w.heap.size _ (.slice A21 y155.length c21) y155 from Kd.V_mk (by rw [hy21, hc21]; exact Nat.sub_le_sub_right hroom21 _) hr21); have HC159 := Aside0.mk (show y155.length ≤ c21 from by rw [hy21, hc21]; exact Nat.sub_le_sub_right hroom21 _); clear hr21 hC21 hroom21 hi021 hsz21 hc21; have KY21 := Aside0.mk hy21; have KA21 := Aside0.mk hA21; clear hy21 hA21; replace q21 := eq_true q21)))
              go_roundg k1
              case measure => have := HK1.out; omega
              case rel => exact ⟨(y155), (wrap64 (x10_1 + 1)), (by first | rfl | (simp; done) | (simp [*]; done)), H', ⟨by have := HK1.out; omega⟩, ⟨by (with_reducible repeat (first | apply Kd.V_alloc | apply Kd.V_drewN | apply Kd.V_drew)); exact Kd.V_mono HO159.out (fun _ hk => hk.1)⟩, ⟨LG HB.out (G1 GE154.out G0)⟩⟩
        · rw [if_neg c6] at H
          have c6b0 : (((rd_T36 l0 x10_1).f0) == 4) = false := beq_eq_false_iff_ne.mpr c6
          have c6b1 : (((rd_T36 l0 x10_1).f0) != 4) = true := bne_iff_ne.mpr c6
          have HC22 := Aside0.mk H
          clear H
          have p153 : 0 ≤ (x10_1 : Int) := of_decide_eq_true (by first | (with_reducible assumption) | assumption)
          have q153 : x10_1 < (l0.length : Int) := of_decide_eq_true (by first | (with_reducible assumption) | assumption)
          obtain ⟨ad153, e153, hx153_0, hx153_1, hx153_2, hx153_3, hx153_4, hx153_5, hx153_6, hx153_7⟩ := at_T36 HR0.out x10_1 p153 q153
          cases e153
          replace hx153_0 := (HB.out.cell (World.block_lt_of_cell? w _ hx153_0)).trans hx153_0
          replace hx153_1 := (HB.out.cell (World.block_lt_of_cell? w _ hx153_1)).trans hx153_1
          replace hx153_2 := (HB.out.cell (World.block_lt_of_cell? w _ hx153_2)).trans hx153_2
          replace hx153_3 := (HB.out.cell (World.block_lt_of_cell? w _ hx153_3)).trans hx153_3
          replace hx153_4 := (HB.out.cell (World.block_lt_of_cell? w _ hx153_4)).trans hx153_4
          replace hx153_5 := (HB.out.cell (World.block_lt_of_cell? w _ hx153_5)).trans hx153_5
          replace hx153_6 := (HB.out.cell (World.block_lt_of_cell? w _ hx153_6)).trans hx153_6
          replace hx153_7 := (HB.out.cell (World.block_lt_of_cell? w _ hx153_7)).trans hx153_7
          replace p153 := eq_true p153
          replace q153 := eq_true q153
          go_upto_region 7 with (first | ((with_reducible refine gate_dst (N := 6) rfl ?_); (try (refine gate_guard (by rfl) ?_; dsimp only)); refine box_event ?hg (N := 6) ?hd (cs := #[.int .i64 0, .int .i64 0, .int .i64 0, .int .i64 0, .int .i64 0, .int .i64 0, .string (⟨#[]⟩ : ByteArray), .int .i64 0]) (t := 36) ?hr ?_; (case hd => rfl); (case hg => rfl); (case hr => first | (go_simp; done) | (go_simp; rfl)); intro gb154 hg w23 hbox hb; replace HO_1 := Aside0.mk (Kd.V_below (Kd.V_elderB (Kd.VA HO_1.out) gb154 (Nat.le_of_eq hg.symm)) hb); have BK154 := Aside0.mk (hbox); have GW154 := Aside0.mk (ge1 hg (LA HB.out)); have GE154 := Aside0.mk (ge1 hg (LA HB.out)); replace HB := Aside0.mk (below_step (LA HB.out) hb); clear hb hbox hg; obtain ⟨hcz24_0, hcz24_1, hcz24_2, hcz24_3, hcz24_4, hcz24_5, hcz24_6, hcz24_7, hfz24_0, hfz24_1, hfz24_2, hfz24_3, hfz24_4, hfz24_5, hfz24_6, hfz24_7⟩ := cz8 BK154.out))
          repeat (go_quiet (first | ((with_reducible refine gate_dst (N := 6) rfl ?_); (try (refine gate_guard (by rfl) ?_; dsimp only)); refine box_event ?hg (N := 6) ?hd (cs := #[.int .i64 0, .int .i64 0, .int .i64 0, .int .i64 0, .int .i64 0, .int .i64 0, .string (⟨#[]⟩ : ByteArray), .int .i64 0]) (t := 36) ?hr ?_; (case hd => rfl); (case hg => rfl); (case hr => first | (go_simp; done) | (go_simp; rfl)); intro gb154 hg w23 hbox hb; have n0_ := Aside0.mk (Kd.V_below (Kd.V_elderB (Kd.VA HO_1.out) gb154 (Nat.le_of_eq hg.symm)) hb); have n1_ := Aside0.mk (below_step (LA HB.out) hb); have n2_ := Aside0.mk (hbox); have n3_ := Aside0.mk (ge1 hg (LA HB.out)); have n4_ := Aside0.mk (ge1 hg (LA HB.out)); clear HO_1; clear HB; have HO_1 := n0_; have HB := n1_; have BK154 := n2_; have GW154 := n3_; have GE154 := n4_; clear n0_ n1_ n2_ n3_ n4_; clear hb hbox hg; obtain ⟨hcz24_0, hcz24_1, hcz24_2, hcz24_3, hcz24_4, hcz24_5, hcz24_6, hcz24_7, hfz24_0, hfz24_1, hfz24_2, hfz24_3, hfz24_4, hfz24_5, hfz24_6, hfz24_7⟩ := cz8 BK154.out)); go_upto_region 7 with (first | ((with_reducible refine gate_dst (N := 6) rfl ?_); (try (refine gate_guard (by rfl) ?_; dsimp only)); refine box_event ?hg (N := 6) ?hd (cs := #[.int .i64 0, .int .i64 0, .int .i64 0, .int .i64 0, .int .i64 0, .int .i64 0, .string (⟨#[]⟩ : ByteArray), .int .i64 0]) (t := 36) ?hr ?_; (case hd => rfl); (case hg => rfl); (case hr => first | (go_simp; done) | (go_simp; rfl)); intro gb154 hg w23 hbox hb; have n0_ := Aside0.mk (Kd.V_below (Kd.V_elderB (Kd.VA HO_1.out) gb154 (Nat.le_of_eq hg.symm)) hb); have n1_ := Aside0.mk (below_step (LA HB.out) hb); have n2_ := Aside0.mk (hbox); have n3_ := Aside0.mk (ge1 hg (LA HB.out)); have n4_ := Aside0.mk (ge1 hg (LA HB.out)); clear HO_1; clear HB; have HO_1 := n0_; have HB := n1_; have BK154 := n2_; have GW154 := n3_; have GE154 := n4_; clear n0_ n1_ n2_ n3_ n4_; clear hb hbox hg; obtain ⟨hcz24_0, hcz24_1, hcz24_2, hcz24_3, hcz24_4, hcz24_5, hcz24_6, hcz24_7, hfz24_0, hfz24_1, hfz24_2, hfz24_3, hfz24_4, hfz24_5, hfz24_6, hfz24_7⟩ := cz8 BK154.out)))
          (try simp only [Act.put, PU])
          go_cut [28] (fun v28 wc => ∃ (kq : Nat) (x28_21 : Bool), v28 = .bool x28_21 ∧ Aside0 (feed_Covers.j1 kq x1_1 1 l0 (l0.length : Int) x10_1 x28_21 = some r) ∧ Aside0 (kq ≤ k1) ∧ Aside0 (Kd.V k36 36 wc w.heap.size (fun k_ => (P1_ k_ ∨ w.heap.size ≤ k_) ∧ k_ ≠ gb154) u1 x1_1) ∧ Aside0 (wc.heap[gb154]? = some (.cells #[.int .i64 ((rd_T36 l0 x10_1).f0), .int .i64 ((rd_T36 l0 x10_1).f1.f0), .int .i64 ((rd_T36 l0 x10_1).f1.f1), .int .i64 ((rd_T36 l0 x10_1).f1.f2), .int .i64 ((rd_T36 l0 x10_1).f1.f3), .int .i64 ((rd_T36 l0 x10_1).f1.f4), .string ((rd_T36 l0 x10_1).f1.f5), .int .i64 ((rd_T36 l0 x10_1).f2)] 36 (0, 0))) ∧ Aside0 (Below w.heap.size w wc))
          case first =>
            have H := HC22.out
            clear HC22
            by_cases c25 : (x1_1.length : Int) = 0
            · rw [if_pos c25] at H
              have c25b0 : ((x1_1.length : Int) == 0) = true := beq_iff_eq.mpr c25
              have c25b1 : ((x1_1.length : Int) != 0) = false := bne_eq_false_iff_eq.mpr c25
              clear c25
              (first | rw [c25b0] | (simp only [i64_w, i32_w]; rw [c25b0]) | skip)
              have H' := Aside0.mk H
              clear H
              obtain ⟨Ao26, co26, eo26⟩ := Kd.V_slice HO_1.out
              subst eo26
              go_wp2
              repeat (go_quiet (fail); try go_wp2)
              go_meet
              case rel => exact ⟨_, (true), (by first | rfl | (simp; done) | (simp [*]; done)), H', ⟨by have := HK1.out; first | omega | exact Nat.le_refl _⟩, ⟨by (with_reducible repeat (first | apply Kd.V_alloc | apply Kd.V_drewN | apply Kd.V_drew)); exact Kd.V_mono (Kd.V_mv (g := gb154) (Kd.V_mono HO_1.out (fun k_ hk => (⟨hk, hk.2⟩ : _ ∧ k_ ≠ gb154))) (fun _ hk => hk.2)) (fun _ hk => ⟨hk.1.1, hk.1.2⟩)⟩, ⟨by exact BP BK154.out (by rfl)⟩, ⟨LG HB.out (G1 GE154.out G0)⟩⟩
            · rw [if_neg c25] at H
              have c25b0 : ((x1_1.length : Int) == 0) = false := beq_eq_false_iff_ne.mpr c25
              have c25b1 : ((x1_1.length : Int) != 0) = true := bne_iff_ne.mpr c25
              have c25b2 : ¬ (x1_1 = []) := fun h_ => c25 (by rw [h_]; rfl)
              (first | rw [c25b0] | (simp only [i64_w, i32_w]; rw [c25b0]) | skip)
              by_cases c27 : 0 < (x1_1.length : Int)
              rotate_left
              · rw [if_neg c27] at H
                exact absurd H (by simp)
              rw [if_pos c27] at H
              have c27b0 : decide (0 < (x1_1.length : Int)) = true := decide_eq_true c27
              have c27b1 : decide (0 < x1_1.length) = true := decide_eq_true (by omega)
              clear c27
              have H' := Aside0.mk H
              clear H
              obtain ⟨Ao28, co28, eo28⟩ := Kd.V_slice HO_1.out
              subst eo28
              have p160 : 0 ≤ (0 : Int) := (by omega)
              have q160 : 0 < (x1_1.length : Int) := of_decide_eq_true (by first | (with_reducible assumption) | assumption)
              obtain ⟨ad160, e160, hx160_0, hx160_1, hx160_2, hx160_3, hx160_4, hx160_5, hx160_6, hx160_7⟩ := at_T36 (Kd.V_reads' HO_1.out).2.2 0 p160 q160
              cases e160
              have qi160 : (0 < x1_1.length) = True := eq_true (by omega)
              (try rw [show ((0 : Int)).toNat = 0 from rfl] at hx160_0)
              (try rw [show 0 * 8 = 0 from rfl] at hx160_0)
              (try rw [Addr.add_zero'] at hx160_0)
              (try rw [show ((0 : Int)).toNat = 0 from rfl] at hx160_1)
              (try rw [show 0 * 8 = 0 from rfl] at hx160_1)
              (try rw [Addr.add_zero'] at hx160_1)
              (try rw [show ((0 : Int)).toNat = 0 from rfl] at hx160_2)
              (try rw [show 0 * 8 = 0 from rfl] at hx160_2)
              (try rw [Addr.add_zero'] at hx160_2)
              (try rw [show ((0 : Int)).toNat = 0 from rfl] at hx160_3)
              (try rw [show 0 * 8 = 0 from rfl] at hx160_3)
              (try rw [Addr.add_zero'] at hx160_3)
              (try rw [show ((0 : Int)).toNat = 0 from rfl] at hx160_4)
              (try rw [show 0 * 8 = 0 from rfl] at hx160_4)
              (try rw [Addr.add_zero'] at hx160_4)
              (try rw [show ((0 : Int)).toNat = 0 from rfl] at hx160_5)
              (try rw [show 0 * 8 = 0 from rfl] at hx160_5)
              (try rw [Addr.add_zero'] at hx160_5)
              (try rw [show ((0 : Int)).toNat = 0 from rfl] at hx160_6)
              (try rw [show 0 * 8 = 0 from rfl] at hx160_6)
              (try rw [Addr.add_zero'] at hx160_6)
              (try rw [show ((0 : Int)).toNat = 0 from rfl] at hx160_7)
              (try rw [show 0 * 8 = 0 from rfl] at hx160_7)
              (try rw [Addr.add_zero'] at hx160_7)
              have hn160_0 : ad160.block ≠ gb154 := Kd.V_not HO_1.out (by decide) (by omega) (fun hk => by first | exact hk.2 rfl | exact hk.1.2 rfl | exact hk.2.2 rfl | exact hk.2.1 rfl)
              have hn160_1 : ad160.block ≠ gb154 := Kd.V_not HO_1.out (by decide) (by omega) (fun hk => by first | exact hk.2 rfl | exact hk.1.2 rfl | exact hk.2.2 rfl | exact hk.2.1 rfl)
              have hn160_2 : ad160.block ≠ gb154 := Kd.V_not HO_1.out (by decide) (by omega) (fun hk => by first | exact hk.2 rfl | exact hk.1.2 rfl | exact hk.2.2 rfl | exact hk.2.1 rfl)
              have hn160_3 : ad160.block ≠ gb154 := Kd.V_not HO_1.out (by decide) (by omega) (fun hk => by first | exact hk.2 rfl | exact hk.1.2 rfl | exact hk.2.2 rfl | exact hk.2.1 rfl)
              have hn160_4 : ad160.block ≠ gb154 := Kd.V_not HO_1.out (by decide) (by omega) (fun hk => by first | exact hk.2 rfl | exact hk.1.2 rfl | exact hk.2.2 rfl | exact hk.2.1 rfl)
              have hn160_5 : ad160.block ≠ gb154 := Kd.V_not HO_1.out (by decide) (by omega) (fun hk => by first | exact hk.2 rfl | exact hk.1.2 rfl | exact hk.2.2 rfl | exact hk.2.1 rfl)
              have hn160_6 : ad160.block ≠ gb154 := Kd.V_not HO_1.out (by decide) (by omega) (fun hk => by first | exact hk.2 rfl | exact hk.1.2 rfl | exact hk.2.2 rfl | exact hk.2.1 rfl)
              have hn160_7 : ad160.block ≠ gb154 := Kd.V_not HO_1.out (by decide) (by omega) (fun hk => by first | exact hk.2 rfl | exact hk.1.2 rfl | exact hk.2.2 rfl | exact hk.2.1 rfl)
              replace hx160_0 := (cell_far (p := ⟨gb154, 0, none⟩) (by first | (rw [add_block]; exact hn160_0) | (show (Addr.add _ _).block ≠ _; rw [add_block]; exact hn160_0) | exact hn160_0) (.int .i64 ((rd_T36 l0 x10_1).f0))).trans hx160_0
              replace hx160_1 := (cell_far (p := ⟨gb154, 0, none⟩) (by first | (rw [add_block]; exact hn160_0) | (show (Addr.add _ _).block ≠ _; rw [add_block]; exact hn160_0) | exact hn160_0) (.int .i64 ((rd_T36 l0 x10_1).f0))).trans hx160_1
              replace hx160_2 := (cell_far (p := ⟨gb154, 0, none⟩) (by first | (rw [add_block]; exact hn160_0) | (show (Addr.add _ _).block ≠ _; rw [add_block]; exact hn160_0) | exact hn160_0) (.int .i64 ((rd_T36 l0 x10_1).f0))).trans hx160_2
              replace hx160_3 := (cell_far (p := ⟨gb154, 0, none⟩) (by first | (rw [add_block]; exact hn160_0) | (show (Addr.add _ _).block ≠ _; rw [add_block]; exact hn160_0) | exact hn160_0) (.int .i64 ((rd_T36 l0 x10_1).f0))).trans hx160_3
              replace hx160_4 := (cell_far (p := ⟨gb154, 0, none⟩) (by first | (rw [add_block]; exact hn160_0) | (show (Addr.add _ _).block ≠ _; rw [add_block]; exact hn160_0) | exact hn160_0) (.int .i64 ((rd_T36 l0 x10_1).f0))).trans hx160_4
              replace hx160_5 := (cell_far (p := ⟨gb154, 0, none⟩) (by first | (rw [add_block]; exact hn160_0) | (show (Addr.add _ _).block ≠ _; rw [add_block]; exact hn160_0) | exact hn160_0) (.int .i64 ((rd_T36 l0 x10_1).f0))).trans hx160_5
              replace hx160_6 := (cell_far (p := ⟨gb154, 0, none⟩) (by first | (rw [add_block]; exact hn160_0) | (show (Addr.add _ _).block ≠ _; rw [add_block]; exact hn160_0) | exact hn160_0) (.int .i64 ((rd_T36 l0 x10_1).f0))).trans hx160_6
              replace hx160_7 := (cell_far (p := ⟨gb154, 0, none⟩) (by first | (rw [add_block]; exact hn160_0) | (show (Addr.add _ _).block ≠ _; rw [add_block]; exact hn160_0) | exact hn160_0) (.int .i64 ((rd_T36 l0 x10_1).f0))).trans hx160_7
              replace hx160_0 := (cell_far (p := ⟨gb154, 1, none⟩) (by first | (rw [add_block]; exact hn160_1) | (show (Addr.add _ _).block ≠ _; rw [add_block]; exact hn160_1) | exact hn160_1) (.int .i64 ((rd_T36 l0 x10_1).f1.f0))).trans hx160_0
              replace hx160_1 := (cell_far (p := ⟨gb154, 1, none⟩) (by first | (rw [add_block]; exact hn160_1) | (show (Addr.add _ _).block ≠ _; rw [add_block]; exact hn160_1) | exact hn160_1) (.int .i64 ((rd_T36 l0 x10_1).f1.f0))).trans hx160_1
              replace hx160_2 := (cell_far (p := ⟨gb154, 1, none⟩) (by first | (rw [add_block]; exact hn160_1) | (show (Addr.add _ _).block ≠ _; rw [add_block]; exact hn160_1) | exact hn160_1) (.int .i64 ((rd_T36 l0 x10_1).f1.f0))).trans hx160_2
              replace hx160_3 := (cell_far (p := ⟨gb154, 1, none⟩) (by first | (rw [add_block]; exact hn160_1) | (show (Addr.add _ _).block ≠ _; rw [add_block]; exact hn160_1) | exact hn160_1) (.int .i64 ((rd_T36 l0 x10_1).f1.f0))).trans hx160_3
              replace hx160_4 := (cell_far (p := ⟨gb154, 1, none⟩) (by first | (rw [add_block]; exact hn160_1) | (show (Addr.add _ _).block ≠ _; rw [add_block]; exact hn160_1) | exact hn160_1) (.int .i64 ((rd_T36 l0 x10_1).f1.f0))).trans hx160_4
              replace hx160_5 := (cell_far (p := ⟨gb154, 1, none⟩) (by first | (rw [add_block]; exact hn160_1) | (show (Addr.add _ _).block ≠ _; rw [add_block]; exact hn160_1) | exact hn160_1) (.int .i64 ((rd_T36 l0 x10_1).f1.f0))).trans hx160_5
              replace hx160_6 := (cell_far (p := ⟨gb154, 1, none⟩) (by first | (rw [add_block]; exact hn160_1) | (show (Addr.add _ _).block ≠ _; rw [add_block]; exact hn160_1) | exact hn160_1) (.int .i64 ((rd_T36 l0 x10_1).f1.f0))).trans hx160_6
              replace hx160_7 := (cell_far (p := ⟨gb154, 1, none⟩) (by first | (rw [add_block]; exact hn160_1) | (show (Addr.add _ _).block ≠ _; rw [add_block]; exact hn160_1) | exact hn160_1) (.int .i64 ((rd_T36 l0 x10_1).f1.f0))).trans hx160_7
              replace hx160_0 := (cell_far (p := ⟨gb154, 2, none⟩) (by first | (rw [add_block]; exact hn160_2) | (show (Addr.add _ _).block ≠ _; rw [add_block]; exact hn160_2) | exact hn160_2) (.int .i64 ((rd_T36 l0 x10_1).f1.f1))).trans hx160_0
              replace hx160_1 := (cell_far (p := ⟨gb154, 2, none⟩) (by first | (rw [add_block]; exact hn160_2) | (show (Addr.add _ _).block ≠ _; rw [add_block]; exact hn160_2) | exact hn160_2) (.int .i64 ((rd_T36 l0 x10_1).f1.f1))).trans hx160_1
              replace hx160_2 := (cell_far (p := ⟨gb154, 2, none⟩) (by first | (rw [add_block]; exact hn160_2) | (show (Addr.add _ _).block ≠ _; rw [add_block]; exact hn160_2) | exact hn160_2) (.int .i64 ((rd_T36 l0 x10_1).f1.f1))).trans hx160_2
              replace hx160_3 := (cell_far (p := ⟨gb154, 2, none⟩) (by first | (rw [add_block]; exact hn160_2) | (show (Addr.add _ _).block ≠ _; rw [add_block]; exact hn160_2) | exact hn160_2) (.int .i64 ((rd_T36 l0 x10_1).f1.f1))).trans hx160_3
              replace hx160_4 := (cell_far (p := ⟨gb154, 2, none⟩) (by first | (rw [add_block]; exact hn160_2) | (show (Addr.add _ _).block ≠ _; rw [add_block]; exact hn160_2) | exact hn160_2) (.int .i64 ((rd_T36 l0 x10_1).f1.f1))).trans hx160_4
              replace hx160_5 := (cell_far (p := ⟨gb154, 2, none⟩) (by first | (rw [add_block]; exact hn160_2) | (show (Addr.add _ _).block ≠ _; rw [add_block]; exact hn160_2) | exact hn160_2) (.int .i64 ((rd_T36 l0 x10_1).f1.f1))).trans hx160_5
              replace hx160_6 := (cell_far (p := ⟨gb154, 2, none⟩) (by first | (rw [add_block]; exact hn160_2) | (show (Addr.add _ _).block ≠ _; rw [add_block]; exact hn160_2) | exact hn160_2) (.int .i64 ((rd_T36 l0 x10_1).f1.f1))).trans hx160_6
              replace hx160_7 := (cell_far (p := ⟨gb154, 2, none⟩) (by first | (rw [add_block]; exact hn160_2) | (show (Addr.add _ _).block ≠ _; rw [add_block]; exact hn160_2) | exact hn160_2) (.int .i64 ((rd_T36 l0 x10_1).f1.f1))).trans hx160_7
              replace hx160_0 := (cell_far (p := ⟨gb154, 3, none⟩) (by first | (rw [add_block]; exact hn160_3) | (show (Addr.add _ _).block ≠ _; rw [add_block]; exact hn160_3) | exact hn160_3) (.int .i64 ((rd_T36 l0 x10_1).f1.f2))).trans hx160_0
              replace hx160_1 := (cell_far (p := ⟨gb154, 3, none⟩) (by first | (rw [add_block]; exact hn160_3) | (show (Addr.add _ _).block ≠ _; rw [add_block]; exact hn160_3) | exact hn160_3) (.int .i64 ((rd_T36 l0 x10_1).f1.f2))).trans hx160_1
              replace hx160_2 := (cell_far (p := ⟨gb154, 3, none⟩) (by first | (rw [add_block]; exact hn160_3) | (show (Addr.add _ _).block ≠ _; rw [add_block]; exact hn160_3) | exact hn160_3) (.int .i64 ((rd_T36 l0 x10_1).f1.f2))).trans hx160_2
              replace hx160_3 := (cell_far (p := ⟨gb154, 3, none⟩) (by first | (rw [add_block]; exact hn160_3) | (show (Addr.add _ _).block ≠ _; rw [add_block]; exact hn160_3) | exact hn160_3) (.int .i64 ((rd_T36 l0 x10_1).f1.f2))).trans hx160_3
              replace hx160_4 := (cell_far (p := ⟨gb154, 3, none⟩) (by first | (rw [add_block]; exact hn160_3) | (show (Addr.add _ _).block ≠ _; rw [add_block]; exact hn160_3) | exact hn160_3) (.int .i64 ((rd_T36 l0 x10_1).f1.f2))).trans hx160_4
              replace hx160_5 := (cell_far (p := ⟨gb154, 3, none⟩) (by first | (rw [add_block]; exact hn160_3) | (show (Addr.add _ _).block ≠ _; rw [add_block]; exact hn160_3) | exact hn160_3) (.int .i64 ((rd_T36 l0 x10_1).f1.f2))).trans hx160_5
              replace hx160_6 := (cell_far (p := ⟨gb154, 3, none⟩) (by first | (rw [add_block]; exact hn160_3) | (show (Addr.add _ _).block ≠ _; rw [add_block]; exact hn160_3) | exact hn160_3) (.int .i64 ((rd_T36 l0 x10_1).f1.f2))).trans hx160_6
              replace hx160_7 := (cell_far (p := ⟨gb154, 3, none⟩) (by first | (rw [add_block]; exact hn160_3) | (show (Addr.add _ _).block ≠ _; rw [add_block]; exact hn160_3) | exact hn160_3) (.int .i64 ((rd_T36 l0 x10_1).f1.f2))).trans hx160_7
              replace hx160_0 := (cell_far (p := ⟨gb154, 4, none⟩) (by first | (rw [add_block]; exact hn160_4) | (show (Addr.add _ _).block ≠ _; rw [add_block]; exact hn160_4) | exact hn160_4) (.int .i64 ((rd_T36 l0 x10_1).f1.f3))).trans hx160_0
              replace hx160_1 := (cell_far (p := ⟨gb154, 4, none⟩) (by first | (rw [add_block]; exact hn160_4) | (show (Addr.add _ _).block ≠ _; rw [add_block]; exact hn160_4) | exact hn160_4) (.int .i64 ((rd_T36 l0 x10_1).f1.f3))).trans hx160_1
              replace hx160_2 := (cell_far (p := ⟨gb154, 4, none⟩) (by first | (rw [add_block]; exact hn160_4) | (show (Addr.add _ _).block ≠ _; rw [add_block]; exact hn160_4) | exact hn160_4) (.int .i64 ((rd_T36 l0 x10_1).f1.f3))).trans hx160_2
              replace hx160_3 := (cell_far (p := ⟨gb154, 4, none⟩) (by first | (rw [add_block]; exact hn160_4) | (show (Addr.add _ _).block ≠ _; rw [add_block]; exact hn160_4) | exact hn160_4) (.int .i64 ((rd_T36 l0 x10_1).f1.f3))).trans hx160_3
              replace hx160_4 := (cell_far (p := ⟨gb154, 4, none⟩) (by first | (rw [add_block]; exact hn160_4) | (show (Addr.add _ _).block ≠ _; rw [add_block]; exact hn160_4) | exact hn160_4) (.int .i64 ((rd_T36 l0 x10_1).f1.f3))).trans hx160_4
              replace hx160_5 := (cell_far (p := ⟨gb154, 4, none⟩) (by first | (rw [add_block]; exact hn160_4) | (show (Addr.add _ _).block ≠ _; rw [add_block]; exact hn160_4) | exact hn160_4) (.int .i64 ((rd_T36 l0 x10_1).f1.f3))).trans hx160_5
              replace hx160_6 := (cell_far (p := ⟨gb154, 4, none⟩) (by first | (rw [add_block]; exact hn160_4) | (show (Addr.add _ _).block ≠ _; rw [add_block]; exact hn160_4) | exact hn160_4) (.int .i64 ((rd_T36 l0 x10_1).f1.f3))).trans hx160_6
              replace hx160_7 := (cell_far (p := ⟨gb154, 4, none⟩) (by first | (rw [add_block]; exact hn160_4) | (show (Addr.add _ _).block ≠ _; rw [add_block]; exact hn160_4) | exact hn160_4) (.int .i64 ((rd_T36 l0 x10_1).f1.f3))).trans hx160_7
              replace hx160_0 := (cell_far (p := ⟨gb154, 5, none⟩) (by first | (rw [add_block]; exact hn160_5) | (show (Addr.add _ _).block ≠ _; rw [add_block]; exact hn160_5) | exact hn160_5) (.int .i64 ((rd_T36 l0 x10_1).f1.f4))).trans hx160_0
              replace hx160_1 := (cell_far (p := ⟨gb154, 5, none⟩) (by first | (rw [add_block]; exact hn160_5) | (show (Addr.add _ _).block ≠ _; rw [add_block]; exact hn160_5) | exact hn160_5) (.int .i64 ((rd_T36 l0 x10_1).f1.f4))).trans hx160_1
              replace hx160_2 := (cell_far (p := ⟨gb154, 5, none⟩) (by first | (rw [add_block]; exact hn160_5) | (show (Addr.add _ _).block ≠ _; rw [add_block]; exact hn160_5) | exact hn160_5) (.int .i64 ((rd_T36 l0 x10_1).f1.f4))).trans hx160_2
              replace hx160_3 := (cell_far (p := ⟨gb154, 5, none⟩) (by first | (rw [add_block]; exact hn160_5) | (show (Addr.add _ _).block ≠ _; rw [add_block]; exact hn160_5) | exact hn160_5) (.int .i64 ((rd_T36 l0 x10_1).f1.f4))).trans hx160_3
              replace hx160_4 := (cell_far (p := ⟨gb154, 5, none⟩) (by first | (rw [add_block]; exact hn160_5) | (show (Addr.add _ _).block ≠ _; rw [add_block]; exact hn160_5) | exact hn160_5) (.int .i64 ((rd_T36 l0 x10_1).f1.f4))).trans hx160_4
              replace hx160_5 := (cell_far (p := ⟨gb154, 5, none⟩) (by first | (rw [add_block]; exact hn160_5) | (show (Addr.add _ _).block ≠ _; rw [add_block]; exact hn160_5) | exact hn160_5) (.int .i64 ((rd_T36 l0 x10_1).f1.f4))).trans hx160_5
              replace hx160_6 := (cell_far (p := ⟨gb154, 5, none⟩) (by first | (rw [add_block]; exact hn160_5) | (show (Addr.add _ _).block ≠ _; rw [add_block]; exact hn160_5) | exact hn160_5) (.int .i64 ((rd_T36 l0 x10_1).f1.f4))).trans hx160_6
              replace hx160_7 := (cell_far (p := ⟨gb154, 5, none⟩) (by first | (rw [add_block]; exact hn160_5) | (show (Addr.add _ _).block ≠ _; rw [add_block]; exact hn160_5) | exact hn160_5) (.int .i64 ((rd_T36 l0 x10_1).f1.f4))).trans hx160_7
              replace hx160_0 := (cell_far (p := ⟨gb154, 6, none⟩) (by first | (rw [add_block]; exact hn160_6) | (show (Addr.add _ _).block ≠ _; rw [add_block]; exact hn160_6) | exact hn160_6) (.string ((rd_T36 l0 x10_1).f1.f5))).trans hx160_0
              replace hx160_1 := (cell_far (p := ⟨gb154, 6, none⟩) (by first | (rw [add_block]; exact hn160_6) | (show (Addr.add _ _).block ≠ _; rw [add_block]; exact hn160_6) | exact hn160_6) (.string ((rd_T36 l0 x10_1).f1.f5))).trans hx160_1
              replace hx160_2 := (cell_far (p := ⟨gb154, 6, none⟩) (by first | (rw [add_block]; exact hn160_6) | (show (Addr.add _ _).block ≠ _; rw [add_block]; exact hn160_6) | exact hn160_6) (.string ((rd_T36 l0 x10_1).f1.f5))).trans hx160_2
              replace hx160_3 := (cell_far (p := ⟨gb154, 6, none⟩) (by first | (rw [add_block]; exact hn160_6) | (show (Addr.add _ _).block ≠ _; rw [add_block]; exact hn160_6) | exact hn160_6) (.string ((rd_T36 l0 x10_1).f1.f5))).trans hx160_3
              replace hx160_4 := (cell_far (p := ⟨gb154, 6, none⟩) (by first | (rw [add_block]; exact hn160_6) | (show (Addr.add _ _).block ≠ _; rw [add_block]; exact hn160_6) | exact hn160_6) (.string ((rd_T36 l0 x10_1).f1.f5))).trans hx160_4
              replace hx160_5 := (cell_far (p := ⟨gb154, 6, none⟩) (by first | (rw [add_block]; exact hn160_6) | (show (Addr.add _ _).block ≠ _; rw [add_block]; exact hn160_6) | exact hn160_6) (.string ((rd_T36 l0 x10_1).f1.f5))).trans hx160_5
              replace hx160_6 := (cell_far (p := ⟨gb154, 6, none⟩) (by first | (rw [add_block]; exact hn160_6) | (show (Addr.add _ _).block ≠ _; rw [add_block]; exact hn160_6) | exact hn160_6) (.string ((rd_T36 l0 x10_1).f1.f5))).trans hx160_6
              replace hx160_7 := (cell_far (p := ⟨gb154, 6, none⟩) (by first | (rw [add_block]; exact hn160_6) | (show (Addr.add _ _).block ≠ _; rw [add_block]; exact hn160_6) | exact hn160_6) (.string ((rd_T36 l0 x10_1).f1.f5))).trans hx160_7
              replace hx160_0 := (cell_far (p := ⟨gb154, 7, none⟩) (by first | (rw [add_block]; exact hn160_7) | (show (Addr.add _ _).block ≠ _; rw [add_block]; exact hn160_7) | exact hn160_7) (.int .i64 ((rd_T36 l0 x10_1).f2))).trans hx160_0
              replace hx160_1 := (cell_far (p := ⟨gb154, 7, none⟩) (by first | (rw [add_block]; exact hn160_7) | (show (Addr.add _ _).block ≠ _; rw [add_block]; exact hn160_7) | exact hn160_7) (.int .i64 ((rd_T36 l0 x10_1).f2))).trans hx160_1
              replace hx160_2 := (cell_far (p := ⟨gb154, 7, none⟩) (by first | (rw [add_block]; exact hn160_7) | (show (Addr.add _ _).block ≠ _; rw [add_block]; exact hn160_7) | exact hn160_7) (.int .i64 ((rd_T36 l0 x10_1).f2))).trans hx160_2
              replace hx160_3 := (cell_far (p := ⟨gb154, 7, none⟩) (by first | (rw [add_block]; exact hn160_7) | (show (Addr.add _ _).block ≠ _; rw [add_block]; exact hn160_7) | exact hn160_7) (.int .i64 ((rd_T36 l0 x10_1).f2))).trans hx160_3
              replace hx160_4 := (cell_far (p := ⟨gb154, 7, none⟩) (by first | (rw [add_block]; exact hn160_7) | (show (Addr.add _ _).block ≠ _; rw [add_block]; exact hn160_7) | exact hn160_7) (.int .i64 ((rd_T36 l0 x10_1).f2))).trans hx160_4
              replace hx160_5 := (cell_far (p := ⟨gb154, 7, none⟩) (by first | (rw [add_block]; exact hn160_7) | (show (Addr.add _ _).block ≠ _; rw [add_block]; exact hn160_7) | exact hn160_7) (.int .i64 ((rd_T36 l0 x10_1).f2))).trans hx160_5
              replace hx160_6 := (cell_far (p := ⟨gb154, 7, none⟩) (by first | (rw [add_block]; exact hn160_7) | (show (Addr.add _ _).block ≠ _; rw [add_block]; exact hn160_7) | exact hn160_7) (.int .i64 ((rd_T36 l0 x10_1).f2))).trans hx160_6
              replace hx160_7 := (cell_far (p := ⟨gb154, 7, none⟩) (by first | (rw [add_block]; exact hn160_7) | (show (Addr.add _ _).block ≠ _; rw [add_block]; exact hn160_7) | exact hn160_7) (.int .i64 ((rd_T36 l0 x10_1).f2))).trans hx160_7
              (try have hy160_0 := fun (n_ : Nat) => sdc (sd (sd (sd (sd (sd (sd (sd (sd ((show (w23.drewN n_) = (w23.drewN n_) from rfl)))))))))) hx160_0)
              (try have hy160_1 := fun (n_ : Nat) => sdc (sd (sd (sd (sd (sd (sd (sd (sd ((show (w23.drewN n_) = (w23.drewN n_) from rfl)))))))))) hx160_1)
              (try have hy160_2 := fun (n_ : Nat) => sdc (sd (sd (sd (sd (sd (sd (sd (sd ((show (w23.drewN n_) = (w23.drewN n_) from rfl)))))))))) hx160_2)
              (try have hy160_3 := fun (n_ : Nat) => sdc (sd (sd (sd (sd (sd (sd (sd (sd ((show (w23.drewN n_) = (w23.drewN n_) from rfl)))))))))) hx160_3)
              (try have hy160_4 := fun (n_ : Nat) => sdc (sd (sd (sd (sd (sd (sd (sd (sd ((show (w23.drewN n_) = (w23.drewN n_) from rfl)))))))))) hx160_4)
              (try have hy160_5 := fun (n_ : Nat) => sdc (sd (sd (sd (sd (sd (sd (sd (sd ((show (w23.drewN n_) = (w23.drewN n_) from rfl)))))))))) hx160_5)
              (try have hy160_6 := fun (n_ : Nat) => sdc (sd (sd (sd (sd (sd (sd (sd (sd ((show (w23.drewN n_) = (w23.drewN n_) from rfl)))))))))) hx160_6)
              (try have hy160_7 := fun (n_ : Nat) => sdc (sd (sd (sd (sd (sd (sd (sd (sd ((show (w23.drewN n_) = (w23.drewN n_) from rfl)))))))))) hx160_7)
              clear hn160_0
              clear hn160_1
              clear hn160_2
              clear hn160_3
              clear hn160_4
              clear hn160_5
              clear hn160_6
              clear hn160_7
              replace p160 := eq_true p160
              replace q160 := eq_true q160
              have hcz29_0 : w23.cell? ⟨gb154, 0, none⟩ = some (.int .i64 0) := (blk_cell BK154.out 0).trans rfl
              have hcz29_1 : w23.cell? ⟨gb154, 1, none⟩ = some (.int .i64 0) := (blk_cell BK154.out 1).trans rfl
              have hcz29_2 : w23.cell? ⟨gb154, 2, none⟩ = some (.int .i64 0) := (blk_cell BK154.out 2).trans rfl
              have hcz29_3 : w23.cell? ⟨gb154, 3, none⟩ = some (.int .i64 0) := (blk_cell BK154.out 3).trans rfl
              have hcz29_4 : w23.cell? ⟨gb154, 4, none⟩ = some (.int .i64 0) := (blk_cell BK154.out 4).trans rfl
              have hcz29_5 : w23.cell? ⟨gb154, 5, none⟩ = some (.int .i64 0) := (blk_cell BK154.out 5).trans rfl
              have hcz29_6 : w23.cell? ⟨gb154, 6, none⟩ = some (.string (⟨#[]⟩ : ByteArray)) := (blk_cell BK154.out 6).trans rfl
              have hcz29_7 : w23.cell? ⟨gb154, 7, none⟩ = some (.int .i64 0) := (blk_cell BK154.out 7).trans rfl
              have hfz29_0 := blk_frozen BK154.out 0
              have hfz29_1 := blk_frozen BK154.out 1
              have hfz29_2 := blk_frozen BK154.out 2
              have hfz29_3 := blk_frozen BK154.out 3
              have hfz29_4 := blk_frozen BK154.out 4
              have hfz29_5 := blk_frozen BK154.out 5
              have hfz29_6 := blk_frozen BK154.out 6
              have hfz29_7 := blk_frozen BK154.out 7
              go_wp2
              repeat (go_quiet (fail); try go_wp2)
              go_meet
              case rel => exact ⟨_, ((!(((rd_T36 x1_1 0).f0) == ((rd_T36 l0 x10_1).f0)) || ((!(((rd_T36 x1_1 0).f1.f0) == ((rd_T36 l0 x10_1).f1.f0)) || (!(((rd_T36 x1_1 0).f1.f1) == ((rd_T36 l0 x10_1).f1.f1)) || (!(((rd_T36 x1_1 0).f1.f2) == ((rd_T36 l0 x10_1).f1.f2)) || (!(((rd_T36 x1_1 0).f1.f3) == ((rd_T36 l0 x10_1).f1.f3)) || (!(((rd_T36 x1_1 0).f1.f4) == ((rd_T36 l0 x10_1).f1.f4)) || (!((((rd_T36 x1_1 0).f1.f5).toList) == (((rd_T36 l0 x10_1).f1.f5).toList)))))))) || (!(((rd_T36 x1_1 0).f2) == ((rd_T36 l0 x10_1).f2)))))), (by first | rfl | (simp; done) | (simp [*]; done)), H', ⟨by have := HK1.out; first | omega | exact Nat.le_refl _⟩, ⟨by (with_reducible repeat (first | apply Kd.V_alloc | apply Kd.V_drewN | apply Kd.V_drew)); exact Kd.V_mono (Kd.V_mv (g := gb154) (Kd.V_mono HO_1.out (fun k_ hk => (⟨hk, hk.2⟩ : _ ∧ k_ ≠ gb154))) (fun _ hk => hk.2)) (fun _ hk => ⟨hk.1.1, hk.1.2⟩)⟩, ⟨by exact BP BK154.out (by rfl)⟩, ⟨LG HB.out (G1 GE154.out G0)⟩⟩
          case rest =>
            clear HC22
            try clear c1
            try clear p1
            try clear q1
            try clear hx1
            try clear qi1
            try clear c2
            try clear p2
            try clear q2
            try clear c3
            try clear c3b0
            try clear c4
            try clear c4b0
            try clear c5
            try clear c5b0
            try clear c6
            try clear c6b0
            try clear c6b1
            try clear p6
            try clear c7
            try clear c7b0
            try clear c10
            try clear c10b0
            try clear c14
            try clear c14b0
            try clear c14b1
            try clear c15
            try clear c15b0
            try clear c15b1
            try clear p15
            try clear q15
            try clear hx15
            try clear p16
            try clear q16
            try clear hx16
            try clear qi16
            try clear c21
            try clear q21
            try clear c25
            try clear c25b0
            try clear c25b1
            try clear c25b2
            try clear c27
            try clear c27b0
            try clear c27b1
            try clear hcz12_0
            try clear hcz12_1
            try clear hcz12_2
            try clear hcz12_3
            try clear hcz12_4
            try clear hcz12_5
            try clear hcz12_6
            try clear hcz12_7
            try clear hcz17_0
            try clear hcz17_1
            try clear hcz17_2
            try clear hcz17_3
            try clear hcz17_4
            try clear hcz17_5
            try clear hcz17_6
            try clear hcz17_7
            try clear hcz19_0
            try clear hcz19_1
            try clear hcz19_2
            try clear hcz19_3
            try clear hcz19_4
            try clear hcz19_5
            try clear hcz19_6
            try clear hcz19_7
            try clear hcz24_0
            try clear hcz24_1
            try clear hcz24_2
            try clear hcz24_3
            try clear hcz24_4
            try clear hcz24_5
            try clear hcz24_6
            try clear hcz24_7
            try clear hcz29_0
            try clear hcz29_1
            try clear hcz29_2
            try clear hcz29_3
            try clear hcz29_4
            try clear hcz29_5
            try clear hcz29_6
            try clear hcz29_7
            try clear hcz9_0
            try clear hcz9_1
            try clear hcz9_2
            try clear hcz9_3
            try clear hcz9_4
            try clear hcz9_5
            try clear hcz9_6
            try clear hcz9_7
            try clear hfz12_0
            try clear hfz12_1
            try clear hfz12_2
            try clear hfz12_3
            try clear hfz12_4
            try clear hfz12_5
            try clear hfz12_6
            try clear hfz12_7
            try clear hfz17_0
            try clear hfz17_1
            try clear hfz17_2
            try clear hfz17_3
            try clear hfz17_4
            try clear hfz17_5
            try clear hfz17_6
            try clear hfz17_7
            try clear hfz19_0
            try clear hfz19_1
            try clear hfz19_2
            try clear hfz19_3
            try clear hfz19_4
            try clear hfz19_5
            try clear hfz19_6
            try clear hfz19_7
            try clear hfz24_0
            try clear hfz24_1
            try clear hfz24_2
            try clear hfz24_3
            try clear hfz24_4
            try clear hfz24_5
            try clear hfz24_6
            try clear hfz24_7
            try clear hfz29_0
            try clear hfz29_1
            try clear hfz29_2
            try clear hfz29_3
            try clear hfz29_4
            try clear hfz29_5
            try clear hfz29_6
            try clear hfz29_7
            try clear hfz9_0
            try clear hfz9_1
            try clear hfz9_2
            try clear hfz9_3
            try clear hfz9_4
            try clear hfz9_5
            try clear hfz9_6
            try clear hfz9_7
            try clear hx153_0
            try clear hx153_1
            try clear hx153_2
            try clear hx153_3
            try clear hx153_4
            try clear hx153_5
            try clear hx153_6
            try clear hx153_7
            try clear hx160_0
            try clear hx160_1
            try clear hx160_2
            try clear hx160_3
            try clear hx160_4
            try clear hx160_5
            try clear hx160_6
            try clear hx160_7
            try clear p153
            try clear p160
            try clear p2
            try clear q021
            try clear q153
            try clear q160
            try clear q21
            obtain ⟨kq, x28_21, rfl, HA, HJ21, HO_1, BK154, HB⟩ := hcut
            cases kq with
            | zero => exact absurd HA.out (by simp [feed_Covers.j1])
            | succ kj21 =>
              have H := HA.out
              clear HA
              simp only [feed_Covers.j1] at H
              by_cases c30 : x28_21 = true
              · subst c30
                have H1 : (some false) = some r := by rw [if_pos rfl] at H; exact H
                clear H
                have H := H1
                clear H1
                obtain rfl := Option.some.inj H
                go_wp2
                repeat (go_quiet (fail); try go_wp2)
                go_ret
                exact ⟨by first | rfl | (simp [errW_none, errW_some] <;> rfl) | (simp [*, errW_none, errW_some] <;> rfl), LG HB.out (G1 GE154.out G0)⟩
              · replace c30 := Bool.eq_false_iff.mpr c30
                subst c30
                have H1 : (if 1 < 1 then (some false) else (if 1 > (x1_1.length : Int) then (some false) else (if 0 ≤ 1 then (if 1 ≤ (x1_1.length : Int) then (feed_Covers.l0 kj21 (x1_1.drop (1 : Int).toNat) l0 (l0.length : Int) (wrap64 (x10_1 + 1))) else (none)) else (none)))) = some r := by rw [if_neg (show ¬ (false = true) by decide)] at H; exact H
                clear H
                have H := H1
                clear H1
                by_cases c31 : 1 < 1
                · exact absurd c31 (by decide)
                · rw [if_neg c31] at H
                  have c31b0 : decide (1 < 1) = false := decide_eq_false c31
                  clear c31
                  by_cases c32 : 1 > (x1_1.length : Int)
                  · rw [if_pos c32] at H
                    have c32b0 : decide ((x1_1.length : Int) < 1) = true := decide_eq_true c32
                    have c32b1 : decide (x1_1.length < 1) = true := decide_eq_true (by omega)
                    clear c32
                    obtain rfl := Option.some.inj H
                    obtain ⟨Ao33, co33, eo33⟩ := Kd.V_slice HO_1.out
                    subst eo33
                    go_wp2
                    repeat (go_quiet (fail); try go_wp2)
                    go_ret
                    exact ⟨by first | rfl | (simp [errW_none, errW_some] <;> rfl) | (simp [*, errW_none, errW_some] <;> rfl), LG HB.out (G1 GE154.out G0)⟩
                  · rw [if_neg c32] at H
                    have c32b0 : decide ((x1_1.length : Int) < 1) = false := decide_eq_false c32
                    have c32b1 : decide (x1_1.length < 1) = false := decide_eq_false (by omega)
                    clear c32
                    by_cases c34 : 0 ≤ 1
                    rotate_left
                    · rw [if_neg c34] at H
                      exact absurd H (by simp)
                    rw [if_pos c34] at H
                    have c34b0 := eq_true c34
                    have c34b1 : decide (0 ≤ 1) = true := decide_eq_true c34
                    clear c34
                    by_cases c35 : 1 ≤ (x1_1.length : Int)
                    rotate_left
                    · rw [if_neg c35] at H
                      exact absurd H (by simp)
                    rw [if_pos c35] at H
                    have c35b0 := eq_true c35
                    have c35b1 : decide (1 ≤ (x1_1.length : Int)) = true := decide_eq_true c35
                    clear c35
                    obtain ⟨y161, hy161⟩ : ∃ y_ : List (S36), y_ = (x1_1.drop (1 : Int).toNat) := ⟨_, rfl⟩
                    replace H : (feed_Covers.l0 kj21 y161 l0 (l0.length : Int) (wrap64 (x10_1 + 1))) = some r := by first | (rw [hy161]; with_reducible exact H) | (have H2_ := (Option.bind_some _ _).symm.trans H; rw [hy161]; with_reducible exact H2_) | (have H2_ := (Option.bind_some _ _).symm.trans H; with_reducible exact H2_) | with_reducible exact H | (rw [hy161]; exact H) | exact H
                    have Ny161 := Aside0.mk hy161
                    clear hy161
                    have H' := Aside0.mk H
                    clear H
                    obtain ⟨Ao36, co36, eo36⟩ := Kd.V_slice HO_1.out
                    subst eo36
                    have q37 : (1 : Int) ≤ ((x1_1.length : Int) : Int) := of_decide_eq_true (by first | (with_reducible assumption) | assumption)
                    obtain ⟨i037, hi037, _, hsz37, _⟩ := info_parts info36
                    have hroom37 : x1_1.length ≤ co36 := (Kd.V_reads' HO_1.out).2.1
                    have hC37 : Kd.F k36 _ _ Ao36 x1_1.length x1_1 := (Kd.V_at (base := w.heap.size) HO_1.out).2.2
                    have hcut37 := cut_from (P := Try.prog) 22 36 .i64 Try.underlying22 hi037 8 hsz37 Ao36 x1_1.length co36 1 (by omega) q37
                    have hr37 := Kd.F_cut (m := (1 : Int).toNat) (c := co36) hC37 (by omega) hroom37
                    obtain ⟨A37, hA37⟩ : ∃ A_, A_ = (if co36 = (1 : Int).toNat then Ao36 else (Ao36 : Option Addr).map (·.add ((1 : Int).toNat * 8))) := ⟨_, rfl⟩
                    obtain ⟨c37, hc37⟩ : ∃ c_, c_ = co36 - (1 : Int).toNat := ⟨_, rfl⟩
                    have hy37 : y161.length = x1_1.length - (1 : Int).toNat := (by rw [Ny161.out, List.length_drop] <;> omega)
                    rw [show (x1_1).drop (1 : Int).toNat = y161 from Ny161.out.symm] at hr37
                    replace hr37 : Kd.F k36 _ _ A37 y161.length y161 := (by rw [hA37]; exact hr37)
                    rw [← hy37, ← hA37, ← hc37] at hcut37
                    have HO165 := Aside0.mk (show Kd.V k36 36 _ w.heap.size _ (.slice A37 y161.length c37) y161 from Kd.V_mk (by rw [hy37, hc37]; exact Nat.sub_le_sub_right hroom37 _) hr37)
                    have HC165 := Aside0.mk (show y161.length ≤ c37 from by rw [hy37, hc37]; exact Nat.sub_le_sub_right hroom37 _)
                    clear hr37 hC37 hroom37 hi037 hsz37 hc37
                    have KY37 := Aside0.mk hy37
                    have KA37 := Aside0.mk hA37
                    clear hy37 hA37
                    replace q37 := eq_true q37
                    go_wp2
                    repeat (go_quiet (fail); try go_wp2)
                    go_roundg kj21
                    case measure => have := HK1.out; have := HJ21.out; omega
                    case rel => exact ⟨(y161), (wrap64 (x10_1 + 1)), (by first | rfl | (simp; done) | (simp [*]; done)), H', ⟨by have := HK1.out; have := HJ21.out; omega⟩, ⟨by (with_reducible repeat (first | apply Kd.V_alloc | apply Kd.V_drewN | apply Kd.V_drew)); exact Kd.V_mono HO165.out (fun _ hk => hk.1)⟩, ⟨LG HB.out (G1 GE154.out G0)⟩⟩
      · rw [if_neg c3] at H
        have c3b0 : decide (x10_1 < (l0.length : Int)) = false := decide_eq_false c3
        clear c3
        obtain rfl := Option.some.inj H
        obtain ⟨Ao38, co38, eo38⟩ := Kd.V_slice HO_1.out
        subst eo38
        go_wp2
        repeat (go_quiet (fail); try go_wp2)
        go_ret
        exact ⟨by first | rfl | (simp [errW_none, errW_some] <;> rfl) | (simp [*, errW_none, errW_some] <;> rfl), LA HB.out⟩

end Go.Proofs.Ythmnedlaecekkaa.PFeedCovers
