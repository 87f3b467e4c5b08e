/- What the functions that the law reaches answer, each as a plain Lean function, with a proof that the call in memory comes to that answer. Written by wip/tools/given.py of this session out of the print.py of the kit, with stand-ins for some functions. -/
import Derived.Test.YthmnedlaecekkaaPFeedPartsx0
import Derived.Test.YthmnedlaecekkaaPFeedPartsx1
namespace Go.Proofs.Ythmnedlaecekkaa.PFeedParts
open Go.RowKit Go.Proofs.YthmnedlaecekkaaW.PrintWords Go.Proofs.YthmnedlaecekkaaW.PrintLast Go.Proofs.YthmnedlaecekkaaW.PrintMore
attribute [local go_sem] max2_int min2_int max_two min_two max_three min_three max_four min_four   -- for this text's walks alone
set_option linter.unusedVariables false
set_option linter.unusedSimpArgs false

attribute [local go_sem high] eqA36
/-! ### feed_Covers: function 21 -/
mutual
def feed_Covers.l0 : Nat → List (S36) → List (S36) → Int → Int → Option (Bool)
  | 0, _, _, _, _ => none
  | k + 1, x1, x8, x9, x10 => if x10 < x9 then (if 0 ≤ x10 then (if x10 < (x8.length : Int) then (if ((rd_T36 x8 x10).f0) = 4 then (if ((rd_T36 x8 x10).f2) < 1 then (some false) else (if ((rd_T36 x8 x10).f2) > (x1.length : Int) then (some false) else (if 0 ≤ ((rd_T36 x8 x10).f2) then (if ((rd_T36 x8 x10).f2) ≤ (x1.length : Int) then (feed_Covers.l0 k (x1.drop (((rd_T36 x8 x10).f2) : Int).toNat) x8 x9 (wrap64 (x10 + 1))) else (none)) else (none)))) else (if (x1.length : Int) = 0 then (feed_Covers.j1 k x1 1 x8 x9 x10 true) else (if 0 < (x1.length : Int) then (feed_Covers.j1 k x1 1 x8 x9 x10 (!(((rd_T36 x1 0).f0) == ((rd_T36 x8 x10).f0)) || ((!(((rd_T36 x1 0).f1.f0) == ((rd_T36 x8 x10).f1.f0)) || (!(((rd_T36 x1 0).f1.f1) == ((rd_T36 x8 x10).f1.f1)) || (!(((rd_T36 x1 0).f1.f2) == ((rd_T36 x8 x10).f1.f2)) || (!(((rd_T36 x1 0).f1.f3) == ((rd_T36 x8 x10).f1.f3)) || (!(((rd_T36 x1 0).f1.f4) == ((rd_T36 x8 x10).f1.f4)) || (!((((rd_T36 x1 0).f1.f5).toList) == (((rd_T36 x8 x10).f1.f5).toList)))))))) || (!(((rd_T36 x1 0).f2) == ((rd_T36 x8 x10).f2)))))) else (none)))) else (none)) else (none)) else (some ((x1.length : Int) == 0))
def feed_Covers.j1 : Nat → List (S36) → Int → List (S36) → Int → Int → Bool → Option (Bool)
  | 0, _, _, _, _, _, _ => none
  | k + 1, x1, x7, x8, x9, x10, x28 => if x28 = true then (some false) else (if x7 < 1 then (some false) else (if x7 > (x1.length : Int) then (some false) else (if 0 ≤ x7 then (if x7 ≤ (x1.length : Int) then (feed_Covers.l0 k (x1.drop (x7 : Int).toNat) x8 x9 (wrap64 (x10 + 1))) else (none)) else (none))))
end
def feed_Covers.f (k : Nat) (l0 : List (S36)) (l1 : List (S36)) : Option (Bool) := feed_Covers.l0 k l1 l0 (l0.length : Int) 0
theorem feed_Covers.mono_l : ∀ k, (∀ y0 y1 y2 y3, LeO (feed_Covers.l0 k y0 y1 y2 y3) (feed_Covers.l0 (k + 1) y0 y1 y2 y3)) ∧ (∀ y0 y1 y2 y3 y4 y5, LeO (feed_Covers.j1 k y0 y1 y2 y3 y4 y5) (feed_Covers.j1 (k + 1) y0 y1 y2 y3 y4 y5))
  | 0 => ⟨fun _ _ _ _ r h => by simp [feed_Covers.l0] at h, fun _ _ _ _ _ _ r h => by simp [feed_Covers.j1] at h⟩
  | k + 1 => by
    obtain ⟨ih0, ih1⟩ := feed_Covers.mono_l k
    refine ⟨?_, ?_⟩
    · intro y0 y1 y2 y3
      unfold feed_Covers.l0
      repeat' first
      | (with_reducible exact ih0 _ _ _ _)
      | (with_reducible exact ih1 _ _ _ _ _ _)
      | (with_reducible exact LeO.refl _)
      | (with_reducible exact LeO.none _)
      | (with_reducible refine LeO.ite ?_ ?_)
      | (with_reducible refine LeO.bind ?_ (fun _ => ?_))
      | exact ih0 _ _ _ _
      | exact ih1 _ _ _ _ _ _
      | exact LeO.none _
      | refine LeO.ite ?_ ?_
      | refine LeO.bind ?_ (fun _ => ?_)
    · intro y0 y1 y2 y3 y4 y5
      unfold feed_Covers.j1
      repeat' first
      | (with_reducible exact ih0 _ _ _ _)
      | (with_reducible exact ih1 _ _ _ _ _ _)
      | (with_reducible exact LeO.refl _)
      | (with_reducible exact LeO.none _)
      | (with_reducible refine LeO.ite ?_ ?_)
      | (with_reducible refine LeO.bind ?_ (fun _ => ?_))
      | exact ih0 _ _ _ _
      | exact ih1 _ _ _ _ _ _
      | exact LeO.none _
      | refine LeO.ite ?_ ?_
      | refine LeO.bind ?_ (fun _ => ?_)
theorem feed_Covers.mono : ∀ a0 a1 k, LeO (feed_Covers.f k a0 a1) (feed_Covers.f (k + 1) a0 a1) := by
  intro a0 a1 k
  obtain ⟨ih0, ih1⟩ := feed_Covers.mono_l k
  unfold feed_Covers.f
  repeat' first
      | (with_reducible exact ih0 _ _ _ _)
      | (with_reducible exact ih1 _ _ _ _ _ _)
      | (with_reducible exact LeO.refl _)
      | (with_reducible exact LeO.none _)
      | (with_reducible refine LeO.ite ?_ ?_)
      | (with_reducible refine LeO.bind ?_ (fun _ => ?_))
      | exact ih0 _ _ _ _
      | exact ih1 _ _ _ _ _ _
      | exact LeO.none _
      | refine LeO.ite ?_ ?_
      | refine LeO.bind ?_ (fun _ => ?_)
set_option maxHeartbeats 60000000 in
set_option maxRecDepth 100000 in
theorem feed_Covers.calls (k : Nat) (A0 : Option Addr) (c0 : Nat) (l0 : List (S36)) (P1_ : Nat → Prop) (A1 : Option Addr) (c1 : Nat) (l1 : List (S36)) (r : Bool) (w : World) (hr0 : Kd.C k36 w A0 l0.length l0) (hc0 : l0.length ≤ c0) (hs1 : Kd.V k36 36 w w.heap.size (fun k_ => P1_ k_) (.slice A1 l1.length c1) l1) (h : feed_Covers.f k l0 l1 = some r) :
    Calls Try.prog 21 #[.slice A0 l0.length c0, .slice A1 l1.length c1] w fun e w' => e = .returned (.bool r) ∧ Below w.heap.size w w' := by
  have hu36 := Try.underlying36
  have HR0 := Aside0.mk hr0
  have HC0 := Aside0.mk hc0
  clear hr0 hc0
  have HO1 := Aside0.mk (show Kd.V k36 36 w w.heap.size (fun k_ => (P1_ k_ ∨ w.heap.size ≤ k_)) (.slice A1 l1.length c1) l1 from Kd.V_mono hs1 (fun k_ hk => .inl hk))
  have HB := Aside0.mk (Below.refl w.heap.size w)
  have H : (feed_Covers.l0 k l1 l0 (l0.length : Int) 0) = some r := h
  clear h
  have H' := Aside0.mk H
  clear H
  go_enter Try.func21, Try.ntmps21
  go_wp2
  repeat (go_quiet (fail); try go_wp2)
  go_loopg [1, 10] k (fun kq v1 v10 w' => ∃ (x1_1 : List (S36)) (x10_1 : Int), v10 = .int .i64 x10_1 ∧ Aside0 (feed_Covers.l0 kq x1_1 l0 (l0.length : Int) x10_1 = some r) ∧ Aside0 (kq ≤ k) ∧ Aside0 (Kd.V k36 36 w' w.heap.size (fun k_ => (P1_ k_ ∨ w.heap.size ≤ k_)) v1 x1_1) ∧ Aside0 (Below w.heap.size w w'))
  case atStart => exact ⟨(l1), (0), (by first | rfl | (simp; done) | (simp [*]; done)), H', ⟨Nat.le_refl _⟩, ⟨by (with_reducible repeat (first | apply Kd.V_alloc | apply Kd.V_drewN | apply Kd.V_drew)); exact HO1.out⟩, ⟨LA HB.out⟩⟩
  case round =>
    clear H'
    try clear c1
    try clear c2
    try clear p2
    obtain ⟨x1_1, x10_1, rfl, HA, HK1, HO_1, HB⟩ := hrel
    cases gk with
    | zero => exact absurd HA.out (by simp [feed_Covers.l0])
    | succ k1 =>
      have H := HA.out
      clear HA
      simp only [feed_Covers.l0] at H
      by_cases c3 : x10_1 < (l0.length : Int)
      · rw [if_pos c3] at H
        have c3b0 : decide (x10_1 < (l0.length : Int)) = true := decide_eq_true c3
        clear c3
        by_cases c4 : 0 ≤ x10_1
        rotate_left
        · rw [if_neg c4] at H
          exact absurd H (by simp)
        rw [if_pos c4] at H
        have c4b0 : decide (0 ≤ x10_1) = true := decide_eq_true c4
        clear c4
        by_cases c5 : x10_1 < (l0.length : Int)
        rotate_left
        · rw [if_neg c5] at H
          exact absurd H (by simp)
        rw [if_pos c5] at H
        have c5b0 : decide (x10_1 < (l0.length : Int)) = true := decide_eq_true c5
        clear c5
        by_cases c6 : ((rd_T36 l0 x10_1).f0) = 4
        · rw [if_pos c6] at H
          have c6b0 : (((rd_T36 l0 x10_1).f0) == 4) = true := beq_iff_eq.mpr c6
          have c6b1 : (((rd_T36 l0 x10_1).f0) != 4) = false := bne_eq_false_iff_eq.mpr c6
          clear c6
          by_cases c7 : ((rd_T36 l0 x10_1).f2) < 1
          · rw [if_pos c7] at H
            have c7b0 : decide (((rd_T36 l0 x10_1).f2) < 1) = true := decide_eq_true c7
            clear c7
            obtain rfl := Option.some.inj H
            have p154 : 0 ≤ (x10_1 : Int) := of_decide_eq_true (by first | (with_reducible assumption) | assumption)
            have q154 : x10_1 < (l0.length : Int) := of_decide_eq_true (by first | (with_reducible assumption) | assumption)
            obtain ⟨ad154, e154, hx154_0, hx154_1, hx154_2, hx154_3, hx154_4, hx154_5, hx154_6, hx154_7⟩ := at_T36 HR0.out x10_1 p154 q154
            cases e154
            replace hx154_0 := (HB.out.cell (World.block_lt_of_cell? w _ hx154_0)).trans hx154_0
            replace hx154_1 := (HB.out.cell (World.block_lt_of_cell? w _ hx154_1)).trans hx154_1
            replace hx154_2 := (HB.out.cell (World.block_lt_of_cell? w _ hx154_2)).trans hx154_2
            replace hx154_3 := (HB.out.cell (World.block_lt_of_cell? w _ hx154_3)).trans hx154_3
            replace hx154_4 := (HB.out.cell (World.block_lt_of_cell? w _ hx154_4)).trans hx154_4
            replace hx154_5 := (HB.out.cell (World.block_lt_of_cell? w _ hx154_5)).trans hx154_5
            replace hx154_6 := (HB.out.cell (World.block_lt_of_cell? w _ hx154_6)).trans hx154_6
            replace hx154_7 := (HB.out.cell (World.block_lt_of_cell? w _ hx154_7)).trans hx154_7
            replace p154 := eq_true p154
            replace q154 := eq_true q154
            go_wp2_with (first | ((with_reducible refine gate_dst (N := 6) rfl ?_); (try (refine gate_guard (by rfl) ?_; dsimp only)); refine box_event ?hg (N := 6) ?hd (cs := #[.int .i64 0, .int .i64 0, .int .i64 0, .int .i64 0, .int .i64 0, .int .i64 0, .string (⟨#[]⟩ : ByteArray), .int .i64 0]) (t := 36) ?hr ?_; (case hd => rfl); (case hg => rfl); (case hr => first | (go_simp; done) | (go_simp; rfl)); intro gb155 hg w8 hbox hb; replace HO_1 := Aside0.mk (Kd.V_below (Kd.V_elderB (Kd.VA HO_1.out) gb155 (Nat.le_of_eq hg.symm)) hb); have BK155 := Aside0.mk (hbox); have GW155 := Aside0.mk (ge1 hg (LA HB.out)); have GE155 := Aside0.mk (ge1 hg (LA HB.out)); replace HB := Aside0.mk (below_step (LA HB.out) hb); clear hb hbox hg; obtain ⟨hcz9_0, hcz9_1, hcz9_2, hcz9_3, hcz9_4, hcz9_5, hcz9_6, hcz9_7, hfz9_0, hfz9_1, hfz9_2, hfz9_3, hfz9_4, hfz9_5, hfz9_6, hfz9_7⟩ := cz8 BK155.out))
            repeat (go_quiet (first | ((with_reducible refine gate_dst (N := 6) rfl ?_); (try (refine gate_guard (by rfl) ?_; dsimp only)); refine box_event ?hg (N := 6) ?hd (cs := #[.int .i64 0, .int .i64 0, .int .i64 0, .int .i64 0, .int .i64 0, .int .i64 0, .string (⟨#[]⟩ : ByteArray), .int .i64 0]) (t := 36) ?hr ?_; (case hd => rfl); (case hg => rfl); (case hr => first | (go_simp; done) | (go_simp; rfl)); intro gb155 hg w8 hbox hb; have n0_ := Aside0.mk (Kd.V_below (Kd.V_elderB (Kd.VA HO_1.out) gb155 (Nat.le_of_eq hg.symm)) hb); have n1_ := Aside0.mk (below_step (LA HB.out) hb); have n2_ := Aside0.mk (hbox); have n3_ := Aside0.mk (ge1 hg (LA HB.out)); have n4_ := Aside0.mk (ge1 hg (LA HB.out)); clear HO_1; clear HB; have HO_1 := n0_; have HB := n1_; have BK155 := n2_; have GW155 := n3_; have GE155 := n4_; clear n0_ n1_ n2_ n3_ n4_; clear hb hbox hg; obtain ⟨hcz9_0, hcz9_1, hcz9_2, hcz9_3, hcz9_4, hcz9_5, hcz9_6, hcz9_7, hfz9_0, hfz9_1, hfz9_2, hfz9_3, hfz9_4, hfz9_5, hfz9_6, hfz9_7⟩ := cz8 BK155.out)); try go_wp2_with (first | ((with_reducible refine gate_dst (N := 6) rfl ?_); (try (refine gate_guard (by rfl) ?_; dsimp only)); refine box_event ?hg (N := 6) ?hd (cs := #[.int .i64 0, .int .i64 0, .int .i64 0, .int .i64 0, .int .i64 0, .int .i64 0, .string (⟨#[]⟩ : ByteArray), .int .i64 0]) (t := 36) ?hr ?_; (case hd => rfl); (case hg => rfl); (case hr => first | (go_simp; done) | (go_simp; rfl)); intro gb155 hg w8 hbox hb; have n0_ := Aside0.mk (Kd.V_below (Kd.V_elderB (Kd.VA HO_1.out) gb155 (Nat.le_of_eq hg.symm)) hb); have n1_ := Aside0.mk (below_step (LA HB.out) hb); have n2_ := Aside0.mk (hbox); have n3_ := Aside0.mk (ge1 hg (LA HB.out)); have n4_ := Aside0.mk (ge1 hg (LA HB.out)); clear HO_1; clear HB; have HO_1 := n0_; have HB := n1_; have BK155 := n2_; have GW155 := n3_; have GE155 := n4_; clear n0_ n1_ n2_ n3_ n4_; clear hb hbox hg; obtain ⟨hcz9_0, hcz9_1, hcz9_2, hcz9_3, hcz9_4, hcz9_5, hcz9_6, hcz9_7, hfz9_0, hfz9_1, hfz9_2, hfz9_3, hfz9_4, hfz9_5, hfz9_6, hfz9_7⟩ := cz8 BK155.out)))
            go_ret
            exact ⟨by first | rfl | (simp [errW_none, errW_some] <;> rfl) | (simp [*, errW_none, errW_some] <;> rfl), LG HB.out (G1 GE155.out G0)⟩
          · rw [if_neg c7] at H
            have c7b0 : decide (((rd_T36 l0 x10_1).f2) < 1) = false := decide_eq_false c7
            clear c7
            by_cases c10 : ((rd_T36 l0 x10_1).f2) > (x1_1.length : Int)
            · rw [if_pos c10] at H
              have c10b0 : decide ((x1_1.length : Int) < ((rd_T36 l0 x10_1).f2)) = true := decide_eq_true c10
              clear c10
              obtain rfl := Option.some.inj H
              have p154 : 0 ≤ (x10_1 : Int) := of_decide_eq_true (by first | (with_reducible assumption) | assumption)
              have q154 : x10_1 < (l0.length : Int) := of_decide_eq_true (by first | (with_reducible assumption) | assumption)
              obtain ⟨ad154, e154, hx154_0, hx154_1, hx154_2, hx154_3, hx154_4, hx154_5, hx154_6, hx154_7⟩ := at_T36 HR0.out x10_1 p154 q154
              cases e154
              replace hx154_0 := (HB.out.cell (World.block_lt_of_cell? w _ hx154_0)).trans hx154_0
              replace hx154_1 := (HB.out.cell (World.block_lt_of_cell? w _ hx154_1)).trans hx154_1
              replace hx154_2 := (HB.out.cell (World.block_lt_of_cell? w _ hx154_2)).trans hx154_2
              replace hx154_3 := (HB.out.cell (World.block_lt_of_cell? w _ hx154_3)).trans hx154_3
              replace hx154_4 := (HB.out.cell (World.block_lt_of_cell? w _ hx154_4)).trans hx154_4
              replace hx154_5 := (HB.out.cell (World.block_lt_of_cell? w _ hx154_5)).trans hx154_5
              replace hx154_6 := (HB.out.cell (World.block_lt_of_cell? w _ hx154_6)).trans hx154_6
              replace hx154_7 := (HB.out.cell (World.block_lt_of_cell? w _ hx154_7)).trans hx154_7
              replace p154 := eq_true p154
              replace q154 := eq_true q154
              go_wp2_with (first | ((with_reducible refine gate_dst (N := 6) rfl ?_); (try (refine gate_guard (by rfl) ?_; dsimp only)); refine box_event ?hg (N := 6) ?hd (cs := #[.int .i64 0, .int .i64 0, .int .i64 0, .int .i64 0, .int .i64 0, .int .i64 0, .string (⟨#[]⟩ : ByteArray), .int .i64 0]) (t := 36) ?hr ?_; (case hd => rfl); (case hg => rfl); (case hr => first | (go_simp; done) | (go_simp; rfl)); intro gb155 hg w11 hbox hb; replace HO_1 := Aside0.mk (Kd.V_below (Kd.V_elderB (Kd.VA HO_1.out) gb155 (Nat.le_of_eq hg.symm)) hb); have BK155 := Aside0.mk (hbox); have GW155 := Aside0.mk (ge1 hg (LA HB.out)); have GE155 := Aside0.mk (ge1 hg (LA HB.out)); replace HB := Aside0.mk (below_step (LA HB.out) hb); clear hb hbox hg; obtain ⟨hcz12_0, hcz12_1, hcz12_2, hcz12_3, hcz12_4, hcz12_5, hcz12_6, hcz12_7, hfz12_0, hfz12_1, hfz12_2, hfz12_3, hfz12_4, hfz12_5, hfz12_6, hfz12_7⟩ := cz8 BK155.out; obtain ⟨Ao13, co13, eo13⟩ := Kd.V_slice HO_1.out; subst eo13))
              repeat (go_quiet (first | ((with_reducible refine gate_dst (N := 6) rfl ?_); (try (refine gate_guard (by rfl) ?_; dsimp only)); refine box_event ?hg (N := 6) ?hd (cs := #[.int .i64 0, .int .i64 0, .int .i64 0, .int .i64 0, .int .i64 0, .int .i64 0, .string (⟨#[]⟩ : ByteArray), .int .i64 0]) (t := 36) ?hr ?_; (case hd => rfl); (case hg => rfl); (case hr => first | (go_simp; done) | (go_simp; rfl)); intro gb155 hg w11 hbox hb; have n0_ := Aside0.mk (Kd.V_below (Kd.V_elderB (Kd.VA HO_1.out) gb155 (Nat.le_of_eq hg.symm)) hb); have n1_ := Aside0.mk (below_step (LA HB.out) hb); have n2_ := Aside0.mk (hbox); have n3_ := Aside0.mk (ge1 hg (LA HB.out)); have n4_ := Aside0.mk (ge1 hg (LA HB.out)); clear HO_1; clear HB; have HO_1 := n0_; have HB := n1_; have BK155 := n2_; have GW155 := n3_; have GE155 := n4_; clear n0_ n1_ n2_ n3_ n4_; clear hb hbox hg; obtain ⟨hcz12_0, hcz12_1, hcz12_2, hcz12_3, hcz12_4, hcz12_5, hcz12_6, hcz12_7, hfz12_0, hfz12_1, hfz12_2, hfz12_3, hfz12_4, hfz12_5, hfz12_6, hfz12_7⟩ := cz8 BK155.out; obtain ⟨Ao13, co13, eo13⟩ := Kd.V_slice HO_1.out; subst eo13)); try go_wp2_with (first | ((with_reducible refine gate_dst (N := 6) rfl ?_); (try (refine gate_guard (by rfl) ?_; dsimp only)); refine box_event ?hg (N := 6) ?hd (cs := #[.int .i64 0, .int .i64 0, .int .i64 0, .int .i64 0, .int .i64 0, .int .i64 0, .string (⟨#[]⟩ : ByteArray), .int .i64 0]) (t := 36) ?hr ?_; (case hd => rfl); (case hg => rfl); (case hr => first | (go_simp; done) | (go_simp; rfl)); intro gb155 hg w11 hbox hb; have n0_ := Aside0.mk (Kd.V_below (Kd.V_elderB (Kd.VA HO_1.out) gb155 (Nat.le_of_eq hg.symm)) hb); have n1_ := Aside0.mk (below_step (LA HB.out) hb); have n2_ := Aside0.mk (hbox); have n3_ := Aside0.mk (ge1 hg (LA HB.out)); have n4_ := Aside0.mk (ge1 hg (LA HB.out)); clear HO_1; clear HB; have HO_1 := n0_; have HB := n1_; have BK155 := n2_; have GW155 := n3_; have GE155 := n4_; clear n0_ n1_ n2_ n3_ n4_; clear hb hbox hg; obtain ⟨hcz12_0, hcz12_1, hcz12_2, hcz12_3, hcz12_4, hcz12_5, hcz12_6, hcz12_7, hfz12_0, hfz12_1, hfz12_2, hfz12_3, hfz12_4, hfz12_5, hfz12_6, hfz12_7⟩ := cz8 BK155.out; obtain ⟨Ao13, co13, eo13⟩ := Kd.V_slice HO_1.out; subst eo13)))
              go_ret
              exact ⟨by first | rfl | (simp [errW_none, errW_some] <;> rfl) | (simp [*, errW_none, errW_some] <;> rfl), LG HB.out (G1 GE155.out G0)⟩
            · rw [if_neg c10] at H
              have c10b0 : decide ((x1_1.length : Int) < ((rd_T36 l0 x10_1).f2)) = false := decide_eq_false c10
              clear c10
              by_cases c14 : 0 ≤ ((rd_T36 l0 x10_1).f2)
              rotate_left
              · rw [if_neg c14] at H
                exact absurd H (by simp)
              rw [if_pos c14] at H
              have c14b0 := eq_true c14
              have c14b1 : decide (0 ≤ ((rd_T36 l0 x10_1).f2)) = true := decide_eq_true c14
              clear c14
              by_cases c15 : ((rd_T36 l0 x10_1).f2) ≤ (x1_1.length : Int)
              rotate_left
              · rw [if_neg c15] at H
                exact absurd H (by simp)
              rw [if_pos c15] at H
              have c15b0 := eq_true c15
              have c15b1 : decide (((rd_T36 l0 x10_1).f2) ≤ (x1_1.length : Int)) = true := decide_eq_true c15
              clear c15
              obtain ⟨y156, hy156⟩ : ∃ y_ : List (S36), y_ = (x1_1.drop (((rd_T36 l0 x10_1).f2) : Int).toNat) := ⟨_, rfl⟩
              replace H : (feed_Covers.l0 k1 y156 l0 (l0.length : Int) (wrap64 (x10_1 + 1))) = some r := by first | (rw [hy156]; with_reducible exact H) | (have H2_ := (Option.bind_some _ _).symm.trans H; rw [hy156]; with_reducible exact H2_) | (have H2_ := (Option.bind_some _ _).symm.trans H; with_reducible exact H2_) | with_reducible exact H | (rw [hy156]; exact H) | exact H
              have Ny156 := Aside0.mk hy156
              clear hy156
              have H' := Aside0.mk H
              clear H
              have p154 : 0 ≤ (x10_1 : Int) := of_decide_eq_true (by first | (with_reducible assumption) | assumption)
              have q154 : x10_1 < (l0.length : Int) := of_decide_eq_true (by first | (with_reducible assumption) | assumption)
              obtain ⟨ad154, e154, hx154_0, hx154_1, hx154_2, hx154_3, hx154_4, hx154_5, hx154_6, hx154_7⟩ := at_T36 HR0.out x10_1 p154 q154
              cases e154
              replace hx154_0 := (HB.out.cell (World.block_lt_of_cell? w _ hx154_0)).trans hx154_0
              replace hx154_1 := (HB.out.cell (World.block_lt_of_cell? w _ hx154_1)).trans hx154_1
              replace hx154_2 := (HB.out.cell (World.block_lt_of_cell? w _ hx154_2)).trans hx154_2
              replace hx154_3 := (HB.out.cell (World.block_lt_of_cell? w _ hx154_3)).trans hx154_3
              replace hx154_4 := (HB.out.cell (World.block_lt_of_cell? w _ hx154_4)).trans hx154_4
              replace hx154_5 := (HB.out.cell (World.block_lt_of_cell? w _ hx154_5)).trans hx154_5
              replace hx154_6 := (HB.out.cell (World.block_lt_of_cell? w _ hx154_6)).trans hx154_6
              replace hx154_7 := (HB.out.cell (World.block_lt_of_cell? w _ hx154_7)).trans hx154_7
              replace p154 := eq_true p154
              replace q154 := eq_true q154
              go_wp2_with (first | ((with_reducible refine gate_dst (N := 6) rfl ?_); (try (refine gate_guard (by rfl) ?_; dsimp only)); refine box_event ?hg (N := 6) ?hd (cs := #[.int .i64 0, .int .i64 0, .int .i64 0, .int .i64 0, .int .i64 0, .int .i64 0, .string (⟨#[]⟩ : ByteArray), .int .i64 0]) (t := 36) ?hr ?_; (case hd => rfl); (case hg => rfl); (case hr => first | (go_simp; done) | (go_simp; rfl)); intro gb155 hg w16 hbox hb; replace HO_1 := Aside0.mk (Kd.V_below (Kd.V_elderB (Kd.VA HO_1.out) gb155 (Nat.le_of_eq hg.symm)) hb); have BK155 := Aside0.mk (hbox); have GW155 := Aside0.mk (ge1 hg (LA HB.out)); have GE155 := Aside0.mk (ge1 hg (LA HB.out)); replace HB := Aside0.mk (below_step (LA HB.out) hb); clear hb hbox hg; obtain ⟨hcz17_0, hcz17_1, hcz17_2, hcz17_3, hcz17_4, hcz17_5, hcz17_6, hcz17_7, hfz17_0, hfz17_1, hfz17_2, hfz17_3, hfz17_4, hfz17_5, hfz17_6, hfz17_7⟩ := cz8 BK155.out) | ((with_reducible refine gate_store (t := 36) (p := 6) rfl ?_); (try (rw [drewN_self w16]; generalize hq_ : World.drewN w16 _ = w16; have n0_ := Aside0.mk (Kd.V_at hq_ HO_1.out); have n1_ := Aside0.mk (blk_at hq_ BK155.out); have n2_ := Aside0.mk (below_at hq_ HB.out); clear hq_ HO_1 BK155 HB; have HO_1 := n0_; have BK155 := n1_; have HB := n2_; clear n0_ n1_ n2_)); refine store_event (t := 36) (p := 6) (v := ?vo_w18) (w1 := ((((((((w16.setCell ⟨gb155, 0, none⟩ (.int .i64 ((rd_T36 l0 x10_1).f0))).setCell ⟨gb155, 1, none⟩ (.int .i64 ((rd_T36 l0 x10_1).f1.f0))).setCell ⟨gb155, 2, none⟩ (.int .i64 ((rd_T36 l0 x10_1).f1.f1))).setCell ⟨gb155, 3, none⟩ (.int .i64 ((rd_T36 l0 x10_1).f1.f2))).setCell ⟨gb155, 4, none⟩ (.int .i64 ((rd_T36 l0 x10_1).f1.f3))).setCell ⟨gb155, 5, none⟩ (.int .i64 ((rd_T36 l0 x10_1).f1.f4))).setCell ⟨gb155, 6, none⟩ (.string ((rd_T36 l0 x10_1).f1.f5))).setCell ⟨gb155, 7, none⟩ (.int .i64 ((rd_T36 l0 x10_1).f2)))) ?hg ?ho ?hn ?hr ?_; (case ho => rfl); (case hg => rfl); (case hn => rfl); (case hr => first | (go_simp; done) | (go_simp; rfl)); intro w18 hw; replace HO_1 : Aside0 (Kd.V k36 36 w18 w.heap.size (fun k_ => (P1_ k_ ∨ w.heap.size ≤ k_) ∧ k_ ≠ gb155) u1 x1_1) := ⟨(by rw [hw]; exact (Kd.V_mono (Kd.V_mv (g := gb155) (Kd.V_mono HO_1.out (fun k_ hk => (⟨hk, hk.2⟩ : _ ∧ k_ ≠ gb155))) (fun _ hk => hk.2)) (fun _ hk => ⟨hk.1.1, hk.1.2⟩)))⟩; replace BK155 : Aside0 (w18.heap[gb155]? = some (.cells #[.int .i64 ((rd_T36 l0 x10_1).f0), .int .i64 ((rd_T36 l0 x10_1).f1.f0), .int .i64 ((rd_T36 l0 x10_1).f1.f1), .int .i64 ((rd_T36 l0 x10_1).f1.f2), .int .i64 ((rd_T36 l0 x10_1).f1.f3), .int .i64 ((rd_T36 l0 x10_1).f1.f4), .string ((rd_T36 l0 x10_1).f1.f5), .int .i64 ((rd_T36 l0 x10_1).f2)] 36 (0, 0))) := ⟨(by rw [hw]; exact (BP BK155.out (by rfl)))⟩; replace HB : Aside0 (Below w.heap.size w w18) := ⟨(by rw [hw]; exact (LG HB.out (G1 GE155.out G0)))⟩; clear hw; obtain ⟨hcz19_0, hcz19_1, hcz19_2, hcz19_3, hcz19_4, hcz19_5, hcz19_6, hcz19_7, hfz19_0, hfz19_1, hfz19_2, hfz19_3, hfz19_4, hfz19_5, hfz19_6, hfz19_7⟩ := cz8 BK155.out; obtain ⟨Ao20, co20, eo20⟩ := Kd.V_slice HO_1.out; subst eo20; have q21 : (((rd_T36 l0 x10_1).f2) : Int) ≤ ((x1_1.length : Int) : Int) := of_decide_eq_true (by first | (with_reducible assumption) | assumption); obtain ⟨i021, hi021, _, hsz21, _⟩ := info_parts info36; have hroom21 : x1_1.length ≤ co20 := (Kd.V_reads' HO_1.out).2.1; have hC21 : Kd.F k36 _ _ Ao20 x1_1.length x1_1 := (Kd.V_at (base := w.heap.size) HO_1.out).2.2; have q021 : (0 : Int) ≤ (((rd_T36 l0 x10_1).f2) : Int) := of_decide_eq_true (by first | (with_reducible assumption) | assumption); have hcut21 := cut_from (P := Try.prog) 22 36 .i64 Try.underlying22 hi021 8 hsz21 Ao20 x1_1.length co20 ((rd_T36 l0 x10_1).f2) q021 q21; have hr21 := Kd.F_cut (m := (((rd_T36 l0 x10_1).f2) : Int).toNat) (c := co20) hC21 (by omega) hroom21; obtain ⟨A21, hA21⟩ : ∃ A_, A_ = (if co20 = (((rd_T36 l0 x10_1).f2) : Int).toNat then Ao20 else (Ao20 : Option Addr).map (·.add ((((rd_T36 l0 x10_1).f2) : Int).toNat * 8))) := ⟨_, rfl⟩; obtain ⟨c21, hc21⟩ : ∃ c_, c_ = co20 - (((rd_T36 l0 x10_1).f2) : Int).toNat := ⟨_, rfl⟩; have hy21 : y156.length = x1_1.length - (((rd_T36 l0 x10_1).f2) : Int).toNat := (by rw [Ny156.out, List.length_drop] <;> omega); rw [show (x1_1).drop (((rd_T36 l0 x10_1).f2) : Int).toNat = y156 from Ny156.out.symm] at hr21; replace hr21 : Kd.F k36 _ _ A21 y156.length y156 := (by rw [hA21]; exact hr21); rw [← hy21, ← hA21, ← hc21] at hcut21; have HO160 := Aside0.mk (show Kd.V k36 36 _ w.heap.size _ (.slice A21 y156.length c21) y156 from Kd.V_mk (by rw [hy21, hc21]; exact Nat.sub_le_sub_right hroom21 _) hr21); have HC160 := Aside0.mk (show y156.length ≤ c21 from by rw [hy21, hc21]; exact Nat.sub_le_sub_right hroom21 _); clear hr21 hC21 hroom21 hi021 hsz21 hc21; have KY21 := Aside0.mk hy21; have KA21 := Aside0.mk hA21; clear hy21 hA21; replace q21 := eq_true q21))
              repeat (go_quiet (first | ((with_reducible refine gate_dst (N := 6) rfl ?_); (try (refine gate_guard (by rfl) ?_; dsimp only)); refine box_event ?hg (N := 6) ?hd (cs := #[.int .i64 0, .int .i64 0, .int .i64 0, .int .i64 0, .int .i64 0, .int .i64 0, .string (⟨#[]⟩ : ByteArray), .int .i64 0]) (t := 36) ?hr ?_; (case hd => rfl); (case hg => rfl); (case hr => first | (go_simp; done) | (go_simp; rfl)); intro gb155 hg w16 hbox hb; have n0_ := Aside0.mk (Kd.V_below (Kd.V_elderB (Kd.VA HO_1.out) gb155 (Nat.le_of_eq hg.symm)) hb); have n1_ := Aside0.mk (below_step (LA HB.out) hb); have n2_ := Aside0.mk (hbox); have n3_ := Aside0.mk (ge1 hg (LA HB.out)); have n4_ := Aside0.mk (ge1 hg (LA HB.out)); clear HO_1; clear HB; have HO_1 := n0_; have HB := n1_; have BK155 := n2_; have GW155 := n3_; have GE155 := n4_; clear n0_ n1_ n2_ n3_ n4_; clear hb hbox hg; obtain ⟨hcz17_0, hcz17_1, hcz17_2, hcz17_3, hcz17_4, hcz17_5, hcz17_6, hcz17_7, hfz17_0, hfz17_1, hfz17_2, hfz17_3, hfz17_4, hfz17_5, hfz17_6, hfz17_7⟩ := cz8 BK155.out) | ((with_reducible refine gate_store (t := 36) (p := 6) rfl ?_); (try (rw [drewN_self w16]; generalize hq_ : World.drewN w16 _ = w16; have n0_ := Aside0.mk (Kd.V_at hq_ HO_1.out); have n1_ := Aside0.mk (blk_at hq_ BK155.out); have n2_ := Aside0.mk (below_at hq_ HB.out); clear hq_ HO_1 BK155 HB; have HO_1 := n0_; have BK155 := n1_; have HB := n2_; clear n0_ n1_ n2_)); refine store_event (t := 36) (p := 6) (v := ?vo_w18) (w1 := ((((((((w16.setCell ⟨gb155, 0, none⟩ (.int .i64 ((rd_T36 l0 x10_1).f0))).setCell ⟨gb155, 1, none⟩ (.int .i64 ((rd_T36 l0 x10_1).f1.f0))).setCell ⟨gb155, 2, none⟩ (.int .i64 ((rd_T36 l0 x10_1).f1.f1))).setCell ⟨gb155, 3, none⟩ (.int .i64 ((rd_T36 l0 x10_1).f1.f2))).setCell ⟨gb155, 4, none⟩ (.int .i64 ((rd_T36 l0 x10_1).f1.f3))).setCell ⟨gb155, 5, none⟩ (.int .i64 ((rd_T36 l0 x10_1).f1.f4))).setCell ⟨gb155, 6, none⟩ (.string ((rd_T36 l0 x10_1).f1.f5))).setCell ⟨gb155, 7, none⟩ (.int .i64 ((rd_T36 l0 x10_1).f2)))) ?hg ?ho ?hn ?hr ?_; (case ho => rfl); (case hg => rfl); (case hn => rfl); (case hr => first | (go_simp; done) | (go_simp; rfl)); intro w18 hw; have n0_ : Aside0 (Kd.V k36 36 w18 w.heap.size (fun k_ => (P1_ k_ ∨ w.heap.size ≤ k_) ∧ k_ ≠ gb155) u1 x1_1) := ⟨(by rw [hw]; exact (Kd.V_mono (Kd.V_mv (g := gb155) (Kd.V_mono HO_1.out (fun k_ hk => (⟨hk, hk.2⟩ : _ ∧ k_ ≠ gb155))) (fun _ hk => hk.2)) (fun _ hk => ⟨hk.1.1, hk.1.2⟩)))⟩; have n1_ : Aside0 (w18.heap[gb155]? = some (.cells #[.int .i64 ((rd_T36 l0 x10_1).f0), .int .i64 ((rd_T36 l0 x10_1).f1.f0), .int .i64 ((rd_T36 l0 x10_1).f1.f1), .int .i64 ((rd_T36 l0 x10_1).f1.f2), .int .i64 ((rd_T36 l0 x10_1).f1.f3), .int .i64 ((rd_T36 l0 x10_1).f1.f4), .string ((rd_T36 l0 x10_1).f1.f5), .int .i64 ((rd_T36 l0 x10_1).f2)] 36 (0, 0))) := ⟨(by rw [hw]; exact (BP BK155.out (by rfl)))⟩; have n2_ : Aside0 (Below w.heap.size w w18) := ⟨(by rw [hw]; exact (LG HB.out (G1 GE155.out G0)))⟩; clear hw; clear HO_1; clear BK155; clear HB; have HO_1 := n0_; have BK155 := n1_; have HB := n2_; clear n0_ n1_ n2_; obtain ⟨hcz19_0, hcz19_1, hcz19_2, hcz19_3, hcz19_4, hcz19_5, hcz19_6, hcz19_7, hfz19_0, hfz19_1, hfz19_2, hfz19_3, hfz19_4, hfz19_5, hfz19_6, hfz19_7⟩ := cz8 BK155.out; obtain ⟨Ao20, co20, eo20⟩ := Kd.V_slice HO_1.out; subst eo20; have q21 : (((rd_T36 l0 x10_1).f2) : Int) ≤ ((x1_1.length : Int) : Int) := of_decide_eq_true (by first | (with_reducible assumption) | assumption); obtain ⟨i021, hi021, _, hsz21, _⟩ := info_parts info36; have hroom21 : x1_1.length ≤ co20 := (Kd.V_reads' HO_1.out).2.1; have hC21 : Kd.F k36 _ _ Ao20 x1_1.length x1_1 := (Kd.V_at (base := w.heap.size) HO_1.out).2.2; have q021 : (0 : Int) ≤ (((rd_T36 l0 x10_1).f2) : Int) := of_decide_eq_true (by first | (with_reducible assumption) | assumption); have hcut21 := cut_from (P := Try.prog) 22 36 .i64 Try.underlying22 hi021 8 hsz21 Ao20 x1_1.length co20 ((rd_T36 l0 x10_1).f2) q021 q21; have hr21 := Kd.F_cut (m := (((rd_T36 l0 x10_1).f2) : Int).toNat) (c := co20) hC21 (by omega) hroom21; obtain ⟨A21, hA21⟩ : ∃ A_, A_ = (if co20 = (((rd_T36 l0 x10_1).f2) : Int).toNat then Ao20 else (Ao20 : Option Addr).map (·.add ((((rd_T36 l0 x10_1).f2) : Int).toNat * 8))) := ⟨_, rfl⟩; obtain ⟨c21, hc21⟩ : ∃ c_, c_ = co20 - (((rd_T36 l0 x10_1).f2) : Int).toNat := ⟨_, rfl⟩; have hy21 : y156.length = x1_1.length - (((rd_T36 l0 x10_1).f2) : Int).toNat := (by rw [Ny156.out, List.length_drop] <;> omega); rw [show (x1_1).drop (((rd_T36 l0 x10_1).f2) : Int).toNat = y156 from Ny156.out.symm] at hr21; replace hr21 : Kd.F k36 _ _ A21 y156.length y156 := (by rw [hA21]; exact hr21); rw [← hy21, ← hA21, ← hc21] at hcut21; have HO160 := Aside0.mk (show Kd.V k36 36 _ w.heap.size _ (.slice A21 y156.length c21) y156 from Kd.V_mk (by rw [hy21, hc21]; exact Nat.sub_le_sub_right hroom21 _) hr21); have HC160 := Aside0.mk (show y156.length ≤ c21 from by rw [hy21, hc21]; exact Nat.sub_le_sub_right hroom21 _); clear hr21 hC21 hroom21 hi021 hsz21 hc21; have KY21 := Aside0.mk hy21; have KA21 := Aside0.mk hA21; clear hy21 hA21; replace q21 := eq_true q21)); try go_wp2_with (first | ((with_reducible refine gate_dst (N := 6) rfl ?_); (try (refine gate_guard (by rfl) ?_; dsimp only)); refine box_event ?hg (N := 6) ?hd (cs := #[.int .i64 0, .int .i64 0, .int .i64 0, .int .i64 0, .int .i64 0, .int .i64 0, .string (⟨#[]⟩ : ByteArray), .int .i64 0]) (t := 36) ?hr ?_; (case hd => rfl); (case hg => rfl); (case hr => first | (go_simp; done) | (go_simp; rfl)); intro gb155 hg w16 hbox hb; have n0_ := Aside0.mk (Kd.V_below (Kd.V_elderB (Kd.VA HO_1.out) gb155 (Nat.le_of_eq hg.symm)) hb); have n1_ := Aside0.mk (below_step (LA HB.out) hb); have n2_ := Aside0.mk (hbox); have n3_ := Aside0.mk (ge1 hg (LA HB.out)); have n4_ := Aside0.mk (ge1 hg (LA HB.out)); clear HO_1; clear HB; have HO_1 := n0_; have HB := n1_; have BK155 := n2_; have GW155 := n3_; have GE155 := n4_; clear n0_ n1_ n2_ n3_ n4_; clear hb hbox hg; obtain ⟨hcz17_0, hcz17_1, hcz17_2, hcz17_3, hcz17_4, hcz17_5, hcz17_6, hcz17_7, hfz17_0, hfz17_1, hfz17_2, hfz17_3, hfz17_4, hfz17_5, hfz17_6, hfz17_7⟩ := cz8 BK155.out) | ((with_reducible refine gate_store (t := 36) (p := 6) rfl ?_); (try (rw [drewN_self w16]; generalize hq_ : World.drewN w16 _ = w16; have n0_ := Aside0.mk (Kd.V_at hq_ HO_1.out); have n1_ := Aside0.mk (blk_at hq_ BK155.out); have n2_ := Aside0.mk (below_at hq_ HB.out); clear hq_ HO_1 BK155 HB; have HO_1 := n0_; have BK155 := n1_; have HB := n2_; clear n0_ n1_ n2_)); refine store_event (t := 36) (p := 6) (v := ?vo_w18) (w1 := ((((((((w16.setCell ⟨gb155, 0, none⟩ (.int .i64 ((rd_T36 l0 x10_1).f0))).setCell ⟨gb155, 1, none⟩ (.int .i64 ((rd_T36 l0 x10_1).f1.f0))).setCell ⟨gb155, 2, none⟩ (.int .i64 ((rd_T36 l0 x10_1).f1.f1))).setCell ⟨gb155, 3, none⟩ (.int .i64 ((rd_T36 l0 x10_1).f1.f2))).setCell ⟨gb155, 4, none⟩ (.int .i64 ((rd_T36 l0 x10_1).f1.f3))).setCell ⟨gb155, 5, none⟩ (.int .i64 ((rd_T36 l0 x10_1).f1.f4))).setCell ⟨gb155, 6, none⟩ (.string ((rd_T36 l0 x10_1).f1.f5))).setCell ⟨gb155, 7, none⟩ (.int .i64 ((rd_T36 l0 x10_1).f2)))) ?hg ?ho ?hn ?hr ?_; (case ho => rfl); (case hg => rfl); (case hn => rfl); (case hr => first | (go_simp; done) | (go_simp; rfl)); intro w18 hw; have n0_ : Aside0 (Kd.V k36 36 w18 w.heap.size (fun k_ => (P1_ k_ ∨ w.heap.size ≤ k_) ∧ k_ ≠ gb155) u1 x1_1) := ⟨(by rw [hw]; exact (Kd.V_mono (Kd.V_mv (g := gb155) (Kd.V_mono HO_1.out (fun k_ hk => (⟨hk, hk.2⟩ : _ ∧ k_ ≠ gb155))) (fun _ hk => hk.2)) (fun _ hk => ⟨hk.1.1, hk.1.2⟩)))⟩; have n1_ : Aside0 (w18.heap[gb155]? = some (.cells #[.int .i64 ((rd_T36 l0 x10_1).f0), .int .i64 ((rd_T36 l0 x10_1).f1.f0), .int .i64 ((rd_T36 l0 x10_1).f1.f1), .int .i64 ((rd_T36 l0 x10_1).f1.f2), .int .i64 ((rd_T36 l0 x10_1).f1.f3), .int .i64 ((rd_T36 l0 x10_1).f1.f4), .string ((rd_T36 l0 x10_1).f1.f5), .int .i64 ((rd_T36 l0 x10_1).f2)] 36 (0, 0))) := ⟨(by rw [hw]; exact (BP BK155.out (by rfl)))⟩; have n2_ : Aside0 (Below w.heap.size w w18) := ⟨(by rw [hw]; exact (LG HB.out (G1 GE155.out G0)))⟩; clear hw; clear HO_1; clear BK155; clear HB; have HO_1 := n0_; have BK155 := n1_; have HB := n2_; clear n0_ n1_ n2_; obtain ⟨hcz19_0, hcz19_1, hcz19_2, hcz19_3, hcz19_4, hcz19_5, hcz19_6, hcz19_7, hfz19_0, hfz19_1, hfz19_2, hfz19_3, hfz19_4, hfz19_5, hfz19_6, hfz19_7⟩ := cz8 BK155.out; obtain ⟨Ao20, co20, eo20⟩ := Kd.V_slice HO_1.out; subst eo20; have q21 : (((rd_T36 l0 x10_1).f2) : Int) ≤ ((x1_1.length : Int) : Int) := of_decide_eq_true (by first | (with_reducible assumption) | assumption); obtain ⟨i021, hi021, _, hsz21, _⟩ := info_parts info36; have hroom21 : x1_1.length ≤ co20 := (Kd.V_reads' HO_1.out).2.1; have hC21 : Kd.F k36 _ _ Ao20 x1_1.length x1_1 := (Kd.V_at (base := w.heap.size) HO_1.out).2.2; have q021 : (0 : Int) ≤ (((rd_T36 l0 x10_1).f2) : Int) := of_decide_eq_true (by first | (with_reducible assumption) | assumption); have hcut21 := cut_from (P := Try.prog) 22 36 .i64 Try.underlying22 hi021 8 hsz21 Ao20 x1_1.length co20 ((rd_T36 l0 x10_1).f2) q021 q21; have hr21 := Kd.F_cut (m := (((rd_T36 l0 x10_1).f2) : Int).toNat) (c := co20) hC21 (by omega) hroom21; obtain ⟨A21, hA21⟩ : ∃ A_, A_ = (if co20 = (((rd_T36 l0 x10_1).f2) : Int).toNat then Ao20 else (Ao20 : Option Addr).map (·.add ((((rd_T36 l0 x10_1).f2) : Int).toNat * 8))) := ⟨_, rfl⟩; obtain ⟨c21, hc21⟩ : ∃ c_, c_ = co20 - (((rd_T36 l0 x10_1).f2) : Int).toNat := ⟨_, rfl⟩; have hy21 : y156.length = x1_1.length - (((rd_T36 l0 x10_1).f2) : Int).toNat := (by rw [Ny156.out, List.length_drop] <;> omega); rw [show (x1_1).drop (((rd_T36 l0 x10_1).f2) : Int).toNat = y156 from Ny156.out.symm] at hr21; replace hr21 : Kd.F k36 _ _ A21 y156.length y156 := (by rw [hA21]; exact hr21); rw [← hy21, ← hA21, ← hc21] at hcut21; have HO160 := Aside0.mk (show Kd.V k36 36 _ w.heap.size _ (.slice A21 y156.length c21) y156 from Kd.V_mk (by rw [hy21, hc21]; exact Nat.sub_le_sub_right hroom21 _) hr21); have HC160 := Aside0.mk (show y156.length ≤ c21 from by rw [hy21, hc21]; exact Nat.sub_le_sub_right hroom21 _); clear hr21 hC21 hroom21 hi021 hsz21 hc21; have KY21 := Aside0.mk hy21; have KA21 := Aside0.mk hA21; clear hy21 hA21; replace q21 := eq_true q21)))
              go_roundg k1
              case measure => have := HK1.out; omega
              case rel => exact ⟨(y156), (wrap64 (x10_1 + 1)), (by first | rfl | (simp; done) | (simp [*]; done)), H', ⟨by have := HK1.out; omega⟩, ⟨by (with_reducible repeat (first | apply Kd.V_alloc | apply Kd.V_drewN | apply Kd.V_drew)); exact Kd.V_mono HO160.out (fun _ hk => hk.1)⟩, ⟨LG HB.out (G1 GE155.out G0)⟩⟩
        · rw [if_neg c6] at H
          have c6b0 : (((rd_T36 l0 x10_1).f0) == 4) = false := beq_eq_false_iff_ne.mpr c6
          have c6b1 : (((rd_T36 l0 x10_1).f0) != 4) = true := bne_iff_ne.mpr c6
          have HC22 := Aside0.mk H
          clear H
          have p154 : 0 ≤ (x10_1 : Int) := of_decide_eq_true (by first | (with_reducible assumption) | assumption)
          have q154 : x10_1 < (l0.length : Int) := of_decide_eq_true (by first | (with_reducible assumption) | assumption)
          obtain ⟨ad154, e154, hx154_0, hx154_1, hx154_2, hx154_3, hx154_4, hx154_5, hx154_6, hx154_7⟩ := at_T36 HR0.out x10_1 p154 q154
          cases e154
          replace hx154_0 := (HB.out.cell (World.block_lt_of_cell? w _ hx154_0)).trans hx154_0
          replace hx154_1 := (HB.out.cell (World.block_lt_of_cell? w _ hx154_1)).trans hx154_1
          replace hx154_2 := (HB.out.cell (World.block_lt_of_cell? w _ hx154_2)).trans hx154_2
          replace hx154_3 := (HB.out.cell (World.block_lt_of_cell? w _ hx154_3)).trans hx154_3
          replace hx154_4 := (HB.out.cell (World.block_lt_of_cell? w _ hx154_4)).trans hx154_4
          replace hx154_5 := (HB.out.cell (World.block_lt_of_cell? w _ hx154_5)).trans hx154_5
          replace hx154_6 := (HB.out.cell (World.block_lt_of_cell? w _ hx154_6)).trans hx154_6
          replace hx154_7 := (HB.out.cell (World.block_lt_of_cell? w _ hx154_7)).trans hx154_7
          replace p154 := eq_true p154
          replace q154 := eq_true q154
          go_upto_region 7 with (first | ((with_reducible refine gate_dst (N := 6) rfl ?_); (try (refine gate_guard (by rfl) ?_; dsimp only)); refine box_event ?hg (N := 6) ?hd (cs := #[.int .i64 0, .int .i64 0, .int .i64 0, .int .i64 0, .int .i64 0, .int .i64 0, .string (⟨#[]⟩ : ByteArray), .int .i64 0]) (t := 36) ?hr ?_; (case hd => rfl); (case hg => rfl); (case hr => first | (go_simp; done) | (go_simp; rfl)); intro gb155 hg w23 hbox hb; replace HO_1 := Aside0.mk (Kd.V_below (Kd.V_elderB (Kd.VA HO_1.out) gb155 (Nat.le_of_eq hg.symm)) hb); have BK155 := Aside0.mk (hbox); have GW155 := Aside0.mk (ge1 hg (LA HB.out)); have GE155 := Aside0.mk (ge1 hg (LA HB.out)); replace HB := Aside0.mk (below_step (LA HB.out) hb); clear hb hbox hg; obtain ⟨hcz24_0, hcz24_1, hcz24_2, hcz24_3, hcz24_4, hcz24_5, hcz24_6, hcz24_7, hfz24_0, hfz24_1, hfz24_2, hfz24_3, hfz24_4, hfz24_5, hfz24_6, hfz24_7⟩ := cz8 BK155.out))
          repeat (go_quiet (first | ((with_reducible refine gate_dst (N := 6) rfl ?_); (try (refine gate_guard (by rfl) ?_; dsimp only)); refine box_event ?hg (N := 6) ?hd (cs := #[.int .i64 0, .int .i64 0, .int .i64 0, .int .i64 0, .int .i64 0, .int .i64 0, .string (⟨#[]⟩ : ByteArray), .int .i64 0]) (t := 36) ?hr ?_; (case hd => rfl); (case hg => rfl); (case hr => first | (go_simp; done) | (go_simp; rfl)); intro gb155 hg w23 hbox hb; have n0_ := Aside0.mk (Kd.V_below (Kd.V_elderB (Kd.VA HO_1.out) gb155 (Nat.le_of_eq hg.symm)) hb); have n1_ := Aside0.mk (below_step (LA HB.out) hb); have n2_ := Aside0.mk (hbox); have n3_ := Aside0.mk (ge1 hg (LA HB.out)); have n4_ := Aside0.mk (ge1 hg (LA HB.out)); clear HO_1; clear HB; have HO_1 := n0_; have HB := n1_; have BK155 := n2_; have GW155 := n3_; have GE155 := n4_; clear n0_ n1_ n2_ n3_ n4_; clear hb hbox hg; obtain ⟨hcz24_0, hcz24_1, hcz24_2, hcz24_3, hcz24_4, hcz24_5, hcz24_6, hcz24_7, hfz24_0, hfz24_1, hfz24_2, hfz24_3, hfz24_4, hfz24_5, hfz24_6, hfz24_7⟩ := cz8 BK155.out)); go_upto_region 7 with (first | ((with_reducible refine gate_dst (N := 6) rfl ?_); (try (refine gate_guard (by rfl) ?_; dsimp only)); refine box_event ?hg (N := 6) ?hd (cs := #[.int .i64 0, .int .i64 0, .int .i64 0, .int .i64 0, .int .i64 0, .int .i64 0, .string (⟨#[]⟩ : ByteArray), .int .i64 0]) (t := 36) ?hr ?_; (case hd => rfl); (case hg => rfl); (case hr => first | (go_simp; done) | (go_simp; rfl)); intro gb155 hg w23 hbox hb; have n0_ := Aside0.mk (Kd.V_below (Kd.V_elderB (Kd.VA HO_1.out) gb155 (Nat.le_of_eq hg.symm)) hb); have n1_ := Aside0.mk (below_step (LA HB.out) hb); have n2_ := Aside0.mk (hbox); have n3_ := Aside0.mk (ge1 hg (LA HB.out)); have n4_ := Aside0.mk (ge1 hg (LA HB.out)); clear HO_1; clear HB; have HO_1 := n0_; have HB := n1_; have BK155 := n2_; have GW155 := n3_; have GE155 := n4_; clear n0_ n1_ n2_ n3_ n4_; clear hb hbox hg; obtain ⟨hcz24_0, hcz24_1, hcz24_2, hcz24_3, hcz24_4, hcz24_5, hcz24_6, hcz24_7, hfz24_0, hfz24_1, hfz24_2, hfz24_3, hfz24_4, hfz24_5, hfz24_6, hfz24_7⟩ := cz8 BK155.out)))
          (try simp only [Act.put, PU])
          go_cut [28] (fun v28 wc => ∃ (kq : Nat) (x28_21 : Bool), v28 = .bool x28_21 ∧ Aside0 (feed_Covers.j1 kq x1_1 1 l0 (l0.length : Int) x10_1 x28_21 = some r) ∧ Aside0 (kq ≤ k1) ∧ Aside0 (Kd.V k36 36 wc w.heap.size (fun k_ => (P1_ k_ ∨ w.heap.size ≤ k_) ∧ k_ ≠ gb155) u1 x1_1) ∧ Aside0 (wc.heap[gb155]? = some (.cells #[.int .i64 ((rd_T36 l0 x10_1).f0), .int .i64 ((rd_T36 l0 x10_1).f1.f0), .int .i64 ((rd_T36 l0 x10_1).f1.f1), .int .i64 ((rd_T36 l0 x10_1).f1.f2), .int .i64 ((rd_T36 l0 x10_1).f1.f3), .int .i64 ((rd_T36 l0 x10_1).f1.f4), .string ((rd_T36 l0 x10_1).f1.f5), .int .i64 ((rd_T36 l0 x10_1).f2)] 36 (0, 0))) ∧ Aside0 (Below w.heap.size w wc))
          case first =>
            have H := HC22.out
            clear HC22
            by_cases c25 : (x1_1.length : Int) = 0
            · rw [if_pos c25] at H
              have c25b0 : ((x1_1.length : Int) == 0) = true := beq_iff_eq.mpr c25
              have c25b1 : ((x1_1.length : Int) != 0) = false := bne_eq_false_iff_eq.mpr c25
              clear c25
              (first | rw [c25b0] | (simp only [i64_w, i32_w]; rw [c25b0]) | skip)
              have H' := Aside0.mk H
              clear H
              obtain ⟨Ao26, co26, eo26⟩ := Kd.V_slice HO_1.out
              subst eo26
              go_wp2
              repeat (go_quiet (fail); try go_wp2)
              go_meet
              case rel => exact ⟨_, (true), (by first | rfl | (simp; done) | (simp [*]; done)), H', ⟨by have := HK1.out; first | omega | exact Nat.le_refl _⟩, ⟨by (with_reducible repeat (first | apply Kd.V_alloc | apply Kd.V_drewN | apply Kd.V_drew)); exact Kd.V_mono (Kd.V_mv (g := gb155) (Kd.V_mono HO_1.out (fun k_ hk => (⟨hk, hk.2⟩ : _ ∧ k_ ≠ gb155))) (fun _ hk => hk.2)) (fun _ hk => ⟨hk.1.1, hk.1.2⟩)⟩, ⟨by exact BP BK155.out (by rfl)⟩, ⟨LG HB.out (G1 GE155.out G0)⟩⟩
            · rw [if_neg c25] at H
              have c25b0 : ((x1_1.length : Int) == 0) = false := beq_eq_false_iff_ne.mpr c25
              have c25b1 : ((x1_1.length : Int) != 0) = true := bne_iff_ne.mpr c25
              have c25b2 : ¬ (x1_1 = []) := fun h_ => c25 (by rw [h_]; rfl)
              (first | rw [c25b0] | (simp only [i64_w, i32_w]; rw [c25b0]) | skip)
              by_cases c27 : 0 < (x1_1.length : Int)
              rotate_left
              · rw [if_neg c27] at H
                exact absurd H (by simp)
              rw [if_pos c27] at H
              have c27b0 : decide (0 < (x1_1.length : Int)) = true := decide_eq_true c27
              have c27b1 : decide (0 < x1_1.length) = true := decide_eq_true (by omega)
              clear c27
              have H' := Aside0.mk H
              clear H
              obtain ⟨Ao28, co28, eo28⟩ := Kd.V_slice HO_1.out
              subst eo28
              have p161 : 0 ≤ (0 : Int) := (by omega)
              have q161 : 0 < (x1_1.length : Int) := of_decide_eq_true (by first | (with_reducible assumption) | assumption)
              obtain ⟨ad161, e161, hx161_0, hx161_1, hx161_2, hx161_3, hx161_4, hx161_5, hx161_6, hx161_7⟩ := at_T36 (Kd.V_reads' HO_1.out).2.2 0 p161 q161
              cases e161
              have qi161 : (0 < x1_1.length) = True := eq_true (by omega)
              (try rw [show ((0 : Int)).toNat = 0 from rfl] at hx161_0)
              (try rw [show 0 * 8 = 0 from rfl] at hx161_0)
              (try rw [Addr.add_zero'] at hx161_0)
              (try rw [show ((0 : Int)).toNat = 0 from rfl] at hx161_1)
              (try rw [show 0 * 8 = 0 from rfl] at hx161_1)
              (try rw [Addr.add_zero'] at hx161_1)
              (try rw [show ((0 : Int)).toNat = 0 from rfl] at hx161_2)
              (try rw [show 0 * 8 = 0 from rfl] at hx161_2)
              (try rw [Addr.add_zero'] at hx161_2)
              (try rw [show ((0 : Int)).toNat = 0 from rfl] at hx161_3)
              (try rw [show 0 * 8 = 0 from rfl] at hx161_3)
              (try rw [Addr.add_zero'] at hx161_3)
              (try rw [show ((0 : Int)).toNat = 0 from rfl] at hx161_4)
              (try rw [show 0 * 8 = 0 from rfl] at hx161_4)
              (try rw [Addr.add_zero'] at hx161_4)
              (try rw [show ((0 : Int)).toNat = 0 from rfl] at hx161_5)
              (try rw [show 0 * 8 = 0 from rfl] at hx161_5)
              (try rw [Addr.add_zero'] at hx161_5)
              (try rw [show ((0 : Int)).toNat = 0 from rfl] at hx161_6)
              (try rw [show 0 * 8 = 0 from rfl] at hx161_6)
              (try rw [Addr.add_zero'] at hx161_6)
              (try rw [show ((0 : Int)).toNat = 0 from rfl] at hx161_7)
              (try rw [show 0 * 8 = 0 from rfl] at hx161_7)
              (try rw [Addr.add_zero'] at hx161_7)
              have hn161_0 : ad161.block ≠ gb155 := Kd.V_not HO_1.out (by decide) (by omega) (fun hk => by first | exact hk.2 rfl | exact hk.1.2 rfl | exact hk.2.2 rfl | exact hk.2.1 rfl)
              have hn161_1 : ad161.block ≠ gb155 := Kd.V_not HO_1.out (by decide) (by omega) (fun hk => by first | exact hk.2 rfl | exact hk.1.2 rfl | exact hk.2.2 rfl | exact hk.2.1 rfl)
              have hn161_2 : ad161.block ≠ gb155 := Kd.V_not HO_1.out (by decide) (by omega) (fun hk => by first | exact hk.2 rfl | exact hk.1.2 rfl | exact hk.2.2 rfl | exact hk.2.1 rfl)
              have hn161_3 : ad161.block ≠ gb155 := Kd.V_not HO_1.out (by decide) (by omega) (fun hk => by first | exact hk.2 rfl | exact hk.1.2 rfl | exact hk.2.2 rfl | exact hk.2.1 rfl)
              have hn161_4 : ad161.block ≠ gb155 := Kd.V_not HO_1.out (by decide) (by omega) (fun hk => by first | exact hk.2 rfl | exact hk.1.2 rfl | exact hk.2.2 rfl | exact hk.2.1 rfl)
              have hn161_5 : ad161.block ≠ gb155 := Kd.V_not HO_1.out (by decide) (by omega) (fun hk => by first | exact hk.2 rfl | exact hk.1.2 rfl | exact hk.2.2 rfl | exact hk.2.1 rfl)
              have hn161_6 : ad161.block ≠ gb155 := Kd.V_not HO_1.out (by decide) (by omega) (fun hk => by first | exact hk.2 rfl | exact hk.1.2 rfl | exact hk.2.2 rfl | exact hk.2.1 rfl)
              have hn161_7 : ad161.block ≠ gb155 := Kd.V_not HO_1.out (by decide) (by omega) (fun hk => by first | exact hk.2 rfl | exact hk.1.2 rfl | exact hk.2.2 rfl | exact hk.2.1 rfl)
              replace hx161_0 := (cell_far (p := ⟨gb155, 0, none⟩) (by first | (rw [add_block]; exact hn161_0) | (show (Addr.add _ _).block ≠ _; rw [add_block]; exact hn161_0) | exact hn161_0) (.int .i64 ((rd_T36 l0 x10_1).f0))).trans hx161_0
              replace hx161_1 := (cell_far (p := ⟨gb155, 0, none⟩) (by first | (rw [add_block]; exact hn161_0) | (show (Addr.add _ _).block ≠ _; rw [add_block]; exact hn161_0) | exact hn161_0) (.int .i64 ((rd_T36 l0 x10_1).f0))).trans hx161_1
              replace hx161_2 := (cell_far (p := ⟨gb155, 0, none⟩) (by first | (rw [add_block]; exact hn161_0) | (show (Addr.add _ _).block ≠ _; rw [add_block]; exact hn161_0) | exact hn161_0) (.int .i64 ((rd_T36 l0 x10_1).f0))).trans hx161_2
              replace hx161_3 := (cell_far (p := ⟨gb155, 0, none⟩) (by first | (rw [add_block]; exact hn161_0) | (show (Addr.add _ _).block ≠ _; rw [add_block]; exact hn161_0) | exact hn161_0) (.int .i64 ((rd_T36 l0 x10_1).f0))).trans hx161_3
              replace hx161_4 := (cell_far (p := ⟨gb155, 0, none⟩) (by first | (rw [add_block]; exact hn161_0) | (show (Addr.add _ _).block ≠ _; rw [add_block]; exact hn161_0) | exact hn161_0) (.int .i64 ((rd_T36 l0 x10_1).f0))).trans hx161_4
              replace hx161_5 := (cell_far (p := ⟨gb155, 0, none⟩) (by first | (rw [add_block]; exact hn161_0) | (show (Addr.add _ _).block ≠ _; rw [add_block]; exact hn161_0) | exact hn161_0) (.int .i64 ((rd_T36 l0 x10_1).f0))).trans hx161_5
              replace hx161_6 := (cell_far (p := ⟨gb155, 0, none⟩) (by first | (rw [add_block]; exact hn161_0) | (show (Addr.add _ _).block ≠ _; rw [add_block]; exact hn161_0) | exact hn161_0) (.int .i64 ((rd_T36 l0 x10_1).f0))).trans hx161_6
              replace hx161_7 := (cell_far (p := ⟨gb155, 0, none⟩) (by first | (rw [add_block]; exact hn161_0) | (show (Addr.add _ _).block ≠ _; rw [add_block]; exact hn161_0) | exact hn161_0) (.int .i64 ((rd_T36 l0 x10_1).f0))).trans hx161_7
              replace hx161_0 := (cell_far (p := ⟨gb155, 1, none⟩) (by first | (rw [add_block]; exact hn161_1) | (show (Addr.add _ _).block ≠ _; rw [add_block]; exact hn161_1) | exact hn161_1) (.int .i64 ((rd_T36 l0 x10_1).f1.f0))).trans hx161_0
              replace hx161_1 := (cell_far (p := ⟨gb155, 1, none⟩) (by first | (rw [add_block]; exact hn161_1) | (show (Addr.add _ _).block ≠ _; rw [add_block]; exact hn161_1) | exact hn161_1) (.int .i64 ((rd_T36 l0 x10_1).f1.f0))).trans hx161_1
              replace hx161_2 := (cell_far (p := ⟨gb155, 1, none⟩) (by first | (rw [add_block]; exact hn161_1) | (show (Addr.add _ _).block ≠ _; rw [add_block]; exact hn161_1) | exact hn161_1) (.int .i64 ((rd_T36 l0 x10_1).f1.f0))).trans hx161_2
              replace hx161_3 := (cell_far (p := ⟨gb155, 1, none⟩) (by first | (rw [add_block]; exact hn161_1) | (show (Addr.add _ _).block ≠ _; rw [add_block]; exact hn161_1) | exact hn161_1) (.int .i64 ((rd_T36 l0 x10_1).f1.f0))).trans hx161_3
              replace hx161_4 := (cell_far (p := ⟨gb155, 1, none⟩) (by first | (rw [add_block]; exact hn161_1) | (show (Addr.add _ _).block ≠ _; rw [add_block]; exact hn161_1) | exact hn161_1) (.int .i64 ((rd_T36 l0 x10_1).f1.f0))).trans hx161_4
              replace hx161_5 := (cell_far (p := ⟨gb155, 1, none⟩) (by first | (rw [add_block]; exact hn161_1) | (show (Addr.add _ _).block ≠ _; rw [add_block]; exact hn161_1) | exact hn161_1) (.int .i64 ((rd_T36 l0 x10_1).f1.f0))).trans hx161_5
              replace hx161_6 := (cell_far (p := ⟨gb155, 1, none⟩) (by first | (rw [add_block]; exact hn161_1) | (show (Addr.add _ _).block ≠ _; rw [add_block]; exact hn161_1) | exact hn161_1) (.int .i64 ((rd_T36 l0 x10_1).f1.f0))).trans hx161_6
              replace hx161_7 := (cell_far (p := ⟨gb155, 1, none⟩) (by first | (rw [add_block]; exact hn161_1) | (show (Addr.add _ _).block ≠ _; rw [add_block]; exact hn161_1) | exact hn161_1) (.int .i64 ((rd_T36 l0 x10_1).f1.f0))).trans hx161_7
              replace hx161_0 := (cell_far (p := ⟨gb155, 2, none⟩) (by first | (rw [add_block]; exact hn161_2) | (show (Addr.add _ _).block ≠ _; rw [add_block]; exact hn161_2) | exact hn161_2) (.int .i64 ((rd_T36 l0 x10_1).f1.f1))).trans hx161_0
              replace hx161_1 := (cell_far (p := ⟨gb155, 2, none⟩) (by first | (rw [add_block]; exact hn161_2) | (show (Addr.add _ _).block ≠ _; rw [add_block]; exact hn161_2) | exact hn161_2) (.int .i64 ((rd_T36 l0 x10_1).f1.f1))).trans hx161_1
              replace hx161_2 := (cell_far (p := ⟨gb155, 2, none⟩) (by first | (rw [add_block]; exact hn161_2) | (show (Addr.add _ _).block ≠ _; rw [add_block]; exact hn161_2) | exact hn161_2) (.int .i64 ((rd_T36 l0 x10_1).f1.f1))).trans hx161_2
              replace hx161_3 := (cell_far (p := ⟨gb155, 2, none⟩) (by first | (rw [add_block]; exact hn161_2) | (show (Addr.add _ _).block ≠ _; rw [add_block]; exact hn161_2) | exact hn161_2) (.int .i64 ((rd_T36 l0 x10_1).f1.f1))).trans hx161_3
              replace hx161_4 := (cell_far (p := ⟨gb155, 2, none⟩) (by first | (rw [add_block]; exact hn161_2) | (show (Addr.add _ _).block ≠ _; rw [add_block]; exact hn161_2) | exact hn161_2) (.int .i64 ((rd_T36 l0 x10_1).f1.f1))).trans hx161_4
              replace hx161_5 := (cell_far (p := ⟨gb155, 2, none⟩) (by first | (rw [add_block]; exact hn161_2) | (show (Addr.add _ _).block ≠ _; rw [add_block]; exact hn161_2) | exact hn161_2) (.int .i64 ((rd_T36 l0 x10_1).f1.f1))).trans hx161_5
              replace hx161_6 := (cell_far (p := ⟨gb155, 2, none⟩) (by first | (rw [add_block]; exact hn161_2) | (show (Addr.add _ _).block ≠ _; rw [add_block]; exact hn161_2) | exact hn161_2) (.int .i64 ((rd_T36 l0 x10_1).f1.f1))).trans hx161_6
              replace hx161_7 := (cell_far (p := ⟨gb155, 2, none⟩) (by first | (rw [add_block]; exact hn161_2) | (show (Addr.add _ _).block ≠ _; rw [add_block]; exact hn161_2) | exact hn161_2) (.int .i64 ((rd_T36 l0 x10_1).f1.f1))).trans hx161_7
              replace hx161_0 := (cell_far (p := ⟨gb155, 3, none⟩) (by first | (rw [add_block]; exact hn161_3) | (show (Addr.add _ _).block ≠ _; rw [add_block]; exact hn161_3) | exact hn161_3) (.int .i64 ((rd_T36 l0 x10_1).f1.f2))).trans hx161_0
              replace hx161_1 := (cell_far (p := ⟨gb155, 3, none⟩) (by first | (rw [add_block]; exact hn161_3) | (show (Addr.add _ _).block ≠ _; rw [add_block]; exact hn161_3) | exact hn161_3) (.int .i64 ((rd_T36 l0 x10_1).f1.f2))).trans hx161_1
              replace hx161_2 := (cell_far (p := ⟨gb155, 3, none⟩) (by first | (rw [add_block]; exact hn161_3) | (show (Addr.add _ _).block ≠ _; rw [add_block]; exact hn161_3) | exact hn161_3) (.int .i64 ((rd_T36 l0 x10_1).f1.f2))).trans hx161_2
              replace hx161_3 := (cell_far (p := ⟨gb155, 3, none⟩) (by first | (rw [add_block]; exact hn161_3) | (show (Addr.add _ _).block ≠ _; rw [add_block]; exact hn161_3) | exact hn161_3) (.int .i64 ((rd_T36 l0 x10_1).f1.f2))).trans hx161_3
              replace hx161_4 := (cell_far (p := ⟨gb155, 3, none⟩) (by first | (rw [add_block]; exact hn161_3) | (show (Addr.add _ _).block ≠ _; rw [add_block]; exact hn161_3) | exact hn161_3) (.int .i64 ((rd_T36 l0 x10_1).f1.f2))).trans hx161_4
              replace hx161_5 := (cell_far (p := ⟨gb155, 3, none⟩) (by first | (rw [add_block]; exact hn161_3) | (show (Addr.add _ _).block ≠ _; rw [add_block]; exact hn161_3) | exact hn161_3) (.int .i64 ((rd_T36 l0 x10_1).f1.f2))).trans hx161_5
              replace hx161_6 := (cell_far (p := ⟨gb155, 3, none⟩) (by first | (rw [add_block]; exact hn161_3) | (show (Addr.add _ _).block ≠ _; rw [add_block]; exact hn161_3) | exact hn161_3) (.int .i64 ((rd_T36 l0 x10_1).f1.f2))).trans hx161_6
              replace hx161_7 := (cell_far (p := ⟨gb155, 3, none⟩) (by first | (rw [add_block]; exact hn161_3) | (show (Addr.add _ _).block ≠ _; rw [add_block]; exact hn161_3) | exact hn161_3) (.int .i64 ((rd_T36 l0 x10_1).f1.f2))).trans hx161_7
              replace hx161_0 := (cell_far (p := ⟨gb155, 4, none⟩) (by first | (rw [add_block]; exact hn161_4) | (show (Addr.add _ _).block ≠ _; rw [add_block]; exact hn161_4) | exact hn161_4) (.int .i64 ((rd_T36 l0 x10_1).f1.f3))).trans hx161_0
              replace hx161_1 := (cell_far (p := ⟨gb155, 4, none⟩) (by first | (rw [add_block]; exact hn161_4) | (show (Addr.add _ _).block ≠ _; rw [add_block]; exact hn161_4) | exact hn161_4) (.int .i64 ((rd_T36 l0 x10_1).f1.f3))).trans hx161_1
              replace hx161_2 := (cell_far (p := ⟨gb155, 4, none⟩) (by first | (rw [add_block]; exact hn161_4) | (show (Addr.add _ _).block ≠ _; rw [add_block]; exact hn161_4) | exact hn161_4) (.int .i64 ((rd_T36 l0 x10_1).f1.f3))).trans hx161_2
              replace hx161_3 := (cell_far (p := ⟨gb155, 4, none⟩) (by first | (rw [add_block]; exact hn161_4) | (show (Addr.add _ _).block ≠ _; rw [add_block]; exact hn161_4) | exact hn161_4) (.int .i64 ((rd_T36 l0 x10_1).f1.f3))).trans hx161_3
              replace hx161_4 := (cell_far (p := ⟨gb155, 4, none⟩) (by first | (rw [add_block]; exact hn161_4) | (show (Addr.add _ _).block ≠ _; rw [add_block]; exact hn161_4) | exact hn161_4) (.int .i64 ((rd_T36 l0 x10_1).f1.f3))).trans hx161_4
              replace hx161_5 := (cell_far (p := ⟨gb155, 4, none⟩) (by first | (rw [add_block]; exact hn161_4) | (show (Addr.add _ _).block ≠ _; rw [add_block]; exact hn161_4) | exact hn161_4) (.int .i64 ((rd_T36 l0 x10_1).f1.f3))).trans hx161_5
              replace hx161_6 := (cell_far (p := ⟨gb155, 4, none⟩) (by first | (rw [add_block]; exact hn161_4) | (show (Addr.add _ _).block ≠ _; rw [add_block]; exact hn161_4) | exact hn161_4) (.int .i64 ((rd_T36 l0 x10_1).f1.f3))).trans hx161_6
              replace hx161_7 := (cell_far (p := ⟨gb155, 4, none⟩) (by first | (rw [add_block]; exact hn161_4) | (show (Addr.add _ _).block ≠ _; rw [add_block]; exact hn161_4) | exact hn161_4) (.int .i64 ((rd_T36 l0 x10_1).f1.f3))).trans hx161_7
              replace hx161_0 := (cell_far (p := ⟨gb155, 5, none⟩) (by first | (rw [add_block]; exact hn161_5) | (show (Addr.add _ _).block ≠ _; rw [add_block]; exact hn161_5) | exact hn161_5) (.int .i64 ((rd_T36 l0 x10_1).f1.f4))).trans hx161_0
              replace hx161_1 := (cell_far (p := ⟨gb155, 5, none⟩) (by first | (rw [add_block]; exact hn161_5) | (show (Addr.add _ _).block ≠ _; rw [add_block]; exact hn161_5) | exact hn161_5) (.int .i64 ((rd_T36 l0 x10_1).f1.f4))).trans hx161_1
              replace hx161_2 := (cell_far (p := ⟨gb155, 5, none⟩) (by first | (rw [add_block]; exact hn161_5) | (show (Addr.add _ _).block ≠ _; rw [add_block]; exact hn161_5) | exact hn161_5) (.int .i64 ((rd_T36 l0 x10_1).f1.f4))).trans hx161_2
              replace hx161_3 := (cell_far (p := ⟨gb155, 5, none⟩) (by first | (rw [add_block]; exact hn161_5) | (show (Addr.add _ _).block ≠ _; rw [add_block]; exact hn161_5) | exact hn161_5) (.int .i64 ((rd_T36 l0 x10_1).f1.f4))).trans hx161_3
              replace hx161_4 := (cell_far (p := ⟨gb155, 5, none⟩) (by first | (rw [add_block]; exact hn161_5) | (show (Addr.add _ _).block ≠ _; rw [add_block]; exact hn161_5) | exact hn161_5) (.int .i64 ((rd_T36 l0 x10_1).f1.f4))).trans hx161_4
              replace hx161_5 := (cell_far (p := ⟨gb155, 5, none⟩) (by first | (rw [add_block]; exact hn161_5) | (show (Addr.add _ _).block ≠ _; rw [add_block]; exact hn161_5) | exact hn161_5) (.int .i64 ((rd_T36 l0 x10_1).f1.f4))).trans hx161_5
              replace hx161_6 := (cell_far (p := ⟨gb155, 5, none⟩) (by first | (rw [add_block]; exact hn161_5) | (show (Addr.add _ _).block ≠ _; rw [add_block]; exact hn161_5) | exact hn161_5) (.int .i64 ((rd_T36 l0 x10_1).f1.f4))).trans hx161_6
              replace hx161_7 := (cell_far (p := ⟨gb155, 5, none⟩) (by first | (rw [add_block]; exact hn161_5) | (show (Addr.add _ _).block ≠ _; rw [add_block]; exact hn161_5) | exact hn161_5) (.int .i64 ((rd_T36 l0 x10_1).f1.f4))).trans hx161_7
              replace hx161_0 := (cell_far (p := ⟨gb155, 6, none⟩) (by first | (rw [add_block]; exact hn161_6) | (show (Addr.add _ _).block ≠ _; rw [add_block]; exact hn161_6) | exact hn161_6) (.string ((rd_T36 l0 x10_1).f1.f5))).trans hx161_0
              replace hx161_1 := (cell_far (p := ⟨gb155, 6, none⟩) (by first | (rw [add_block]; exact hn161_6) | (show (Addr.add _ _).block ≠ _; rw [add_block]; exact hn161_6) | exact hn161_6) (.string ((rd_T36 l0 x10_1).f1.f5))).trans hx161_1
              replace hx161_2 := (cell_far (p := ⟨gb155, 6, none⟩) (by first | (rw [add_block]; exact hn161_6) | (show (Addr.add _ _).block ≠ _; rw [add_block]; exact hn161_6) | exact hn161_6) (.string ((rd_T36 l0 x10_1).f1.f5))).trans hx161_2
              replace hx161_3 := (cell_far (p := ⟨gb155, 6, none⟩) (by first | (rw [add_block]; exact hn161_6) | (show (Addr.add _ _).block ≠ _; rw [add_block]; exact hn161_6) | exact hn161_6) (.string ((rd_T36 l0 x10_1).f1.f5))).trans hx161_3
              replace hx161_4 := (cell_far (p := ⟨gb155, 6, none⟩) (by first | (rw [add_block]; exact hn161_6) | (show (Addr.add _ _).block ≠ _; rw [add_block]; exact hn161_6) | exact hn161_6) (.string ((rd_T36 l0 x10_1).f1.f5))).trans hx161_4
              replace hx161_5 := (cell_far (p := ⟨gb155, 6, none⟩) (by first | (rw [add_block]; exact hn161_6) | (show (Addr.add _ _).block ≠ _; rw [add_block]; exact hn161_6) | exact hn161_6) (.string ((rd_T36 l0 x10_1).f1.f5))).trans hx161_5
              replace hx161_6 := (cell_far (p := ⟨gb155, 6, none⟩) (by first | (rw [add_block]; exact hn161_6) | (show (Addr.add _ _).block ≠ _; rw [add_block]; exact hn161_6) | exact hn161_6) (.string ((rd_T36 l0 x10_1).f1.f5))).trans hx161_6
              replace hx161_7 := (cell_far (p := ⟨gb155, 6, none⟩) (by first | (rw [add_block]; exact hn161_6) | (show (Addr.add _ _).block ≠ _; rw [add_block]; exact hn161_6) | exact hn161_6) (.string ((rd_T36 l0 x10_1).f1.f5))).trans hx161_7
              replace hx161_0 := (cell_far (p := ⟨gb155, 7, none⟩) (by first | (rw [add_block]; exact hn161_7) | (show (Addr.add _ _).block ≠ _; rw [add_block]; exact hn161_7) | exact hn161_7) (.int .i64 ((rd_T36 l0 x10_1).f2))).trans hx161_0
              replace hx161_1 := (cell_far (p := ⟨gb155, 7, none⟩) (by first | (rw [add_block]; exact hn161_7) | (show (Addr.add _ _).block ≠ _; rw [add_block]; exact hn161_7) | exact hn161_7) (.int .i64 ((rd_T36 l0 x10_1).f2))).trans hx161_1
              replace hx161_2 := (cell_far (p := ⟨gb155, 7, none⟩) (by first | (rw [add_block]; exact hn161_7) | (show (Addr.add _ _).block ≠ _; rw [add_block]; exact hn161_7) | exact hn161_7) (.int .i64 ((rd_T36 l0 x10_1).f2))).trans hx161_2
              replace hx161_3 := (cell_far (p := ⟨gb155, 7, none⟩) (by first | (rw [add_block]; exact hn161_7) | (show (Addr.add _ _).block ≠ _; rw [add_block]; exact hn161_7) | exact hn161_7) (.int .i64 ((rd_T36 l0 x10_1).f2))).trans hx161_3
              replace hx161_4 := (cell_far (p := ⟨gb155, 7, none⟩) (by first | (rw [add_block]; exact hn161_7) | (show (Addr.add _ _).block ≠ _; rw [add_block]; exact hn161_7) | exact hn161_7) (.int .i64 ((rd_T36 l0 x10_1).f2))).trans hx161_4
              replace hx161_5 := (cell_far (p := ⟨gb155, 7, none⟩) (by first | (rw [add_block]; exact hn161_7) | (show (Addr.add _ _).block ≠ _; rw [add_block]; exact hn161_7) | exact hn161_7) (.int .i64 ((rd_T36 l0 x10_1).f2))).trans hx161_5
              replace hx161_6 := (cell_far (p := ⟨gb155, 7, none⟩) (by first | (rw [add_block]; exact hn161_7) | (show (Addr.add _ _).block ≠ _; rw [add_block]; exact hn161_7) | exact hn161_7) (.int .i64 ((rd_T36 l0 x10_1).f2))).trans hx161_6
              replace hx161_7 := (cell_far (p := ⟨gb155, 7, none⟩) (by first | (rw [add_block]; exact hn161_7) | (show (Addr.add _ _).block ≠ _; rw [add_block]; exact hn161_7) | exact hn161_7) (.int .i64 ((rd_T36 l0 x10_1).f2))).trans hx161_7
              (try have hy161_0 := fun (n_ : Nat) => sdc (sd (sd (sd (sd (sd (sd (sd (sd ((show (w23.drewN n_) = (w23.drewN n_) from rfl)))))))))) hx161_0)
              (try have hy161_1 := fun (n_ : Nat) => sdc (sd (sd (sd (sd (sd (sd (sd (sd ((show (w23.drewN n_) = (w23.drewN n_) from rfl)))))))))) hx161_1)
              (try have hy161_2 := fun (n_ : Nat) => sdc (sd (sd (sd (sd (sd (sd (sd (sd ((show (w23.drewN n_) = (w23.drewN n_) from rfl)))))))))) hx161_2)
              (try have hy161_3 := fun (n_ : Nat) => sdc (sd (sd (sd (sd (sd (sd (sd (sd ((show (w23.drewN n_) = (w23.drewN n_) from rfl)))))))))) hx161_3)
              (try have hy161_4 := fun (n_ : Nat) => sdc (sd (sd (sd (sd (sd (sd (sd (sd ((show (w23.drewN n_) = (w23.drewN n_) from rfl)))))))))) hx161_4)
              (try have hy161_5 := fun (n_ : Nat) => sdc (sd (sd (sd (sd (sd (sd (sd (sd ((show (w23.drewN n_) = (w23.drewN n_) from rfl)))))))))) hx161_5)
              (try have hy161_6 := fun (n_ : Nat) => sdc (sd (sd (sd (sd (sd (sd (sd (sd ((show (w23.drewN n_) = (w23.drewN n_) from rfl)))))))))) hx161_6)
              (try have hy161_7 := fun (n_ : Nat) => sdc (sd (sd (sd (sd (sd (sd (sd (sd ((show (w23.drewN n_) = (w23.drewN n_) from rfl)))))))))) hx161_7)
              clear hn161_0
              clear hn161_1
              clear hn161_2
              clear hn161_3
              clear hn161_4
              clear hn161_5
              clear hn161_6
              clear hn161_7
              replace p161 := eq_true p161
              replace q161 := eq_true q161
              have hcz29_0 : w23.cell? ⟨gb155, 0, none⟩ = some (.int .i64 0) := (blk_cell BK155.out 0).trans rfl
              have hcz29_1 : w23.cell? ⟨gb155, 1, none⟩ = some (.int .i64 0) := (blk_cell BK155.out 1).trans rfl
              have hcz29_2 : w23.cell? ⟨gb155, 2, none⟩ = some (.int .i64 0) := (blk_cell BK155.out 2).trans rfl
              have hcz29_3 : w23.cell? ⟨gb155, 3, none⟩ = some (.int .i64 0) := (blk_cell BK155.out 3).trans rfl
              have hcz29_4 : w23.cell? ⟨gb155, 4, none⟩ = some (.int .i64 0) := (blk_cell BK155.out 4).trans rfl
              have hcz29_5 : w23.cell? ⟨gb155, 5, none⟩ = some (.int .i64 0) := (blk_cell BK155.out 5).trans rfl
              have hcz29_6 : w23.cell? ⟨gb155, 6, none⟩ = some (.string (⟨#[]⟩ : ByteArray)) := (blk_cell BK155.out 6).trans rfl
              have hcz29_7 : w23.cell? ⟨gb155, 7, none⟩ = some (.int .i64 0) := (blk_cell BK155.out 7).trans rfl
              have hfz29_0 := blk_frozen BK155.out 0
              have hfz29_1 := blk_frozen BK155.out 1
              have hfz29_2 := blk_frozen BK155.out 2
              have hfz29_3 := blk_frozen BK155.out 3
              have hfz29_4 := blk_frozen BK155.out 4
              have hfz29_5 := blk_frozen BK155.out 5
              have hfz29_6 := blk_frozen BK155.out 6
              have hfz29_7 := blk_frozen BK155.out 7
              go_wp2
              repeat (go_quiet (fail); try go_wp2)
              go_meet
              case rel => exact ⟨_, ((!(((rd_T36 x1_1 0).f0) == ((rd_T36 l0 x10_1).f0)) || ((!(((rd_T36 x1_1 0).f1.f0) == ((rd_T36 l0 x10_1).f1.f0)) || (!(((rd_T36 x1_1 0).f1.f1) == ((rd_T36 l0 x10_1).f1.f1)) || (!(((rd_T36 x1_1 0).f1.f2) == ((rd_T36 l0 x10_1).f1.f2)) || (!(((rd_T36 x1_1 0).f1.f3) == ((rd_T36 l0 x10_1).f1.f3)) || (!(((rd_T36 x1_1 0).f1.f4) == ((rd_T36 l0 x10_1).f1.f4)) || (!((((rd_T36 x1_1 0).f1.f5).toList) == (((rd_T36 l0 x10_1).f1.f5).toList)))))))) || (!(((rd_T36 x1_1 0).f2) == ((rd_T36 l0 x10_1).f2)))))), (by first | rfl | (simp; done) | (simp [*]; done)), H', ⟨by have := HK1.out; first | omega | exact Nat.le_refl _⟩, ⟨by (with_reducible repeat (first | apply Kd.V_alloc | apply Kd.V_drewN | apply Kd.V_drew)); exact Kd.V_mono (Kd.V_mv (g := gb155) (Kd.V_mono HO_1.out (fun k_ hk => (⟨hk, hk.2⟩ : _ ∧ k_ ≠ gb155))) (fun _ hk => hk.2)) (fun _ hk => ⟨hk.1.1, hk.1.2⟩)⟩, ⟨by exact BP BK155.out (by rfl)⟩, ⟨LG HB.out (G1 GE155.out G0)⟩⟩
          case rest =>
            clear HC22
            try clear c1
            try clear p1
            try clear q1
            try clear hx1
            try clear qi1
            try clear c2
            try clear p2
            try clear q2
            try clear c3
            try clear c3b0
            try clear c4
            try clear c4b0
            try clear c5
            try clear c5b0
            try clear c6
            try clear c6b0
            try clear c6b1
            try clear p6
            try clear c7
            try clear c7b0
            try clear c10
            try clear c10b0
            try clear c14
            try clear c14b0
            try clear c14b1
            try clear c15
            try clear c15b0
            try clear c15b1
            try clear p15
            try clear q15
            try clear hx15
            try clear p16
            try clear q16
            try clear hx16
            try clear qi16
            try clear c21
            try clear q21
            try clear c25
            try clear c25b0
            try clear c25b1
            try clear c25b2
            try clear c27
            try clear c27b0
            try clear c27b1
            try clear hcz12_0
            try clear hcz12_1
            try clear hcz12_2
            try clear hcz12_3
            try clear hcz12_4
            try clear hcz12_5
            try clear hcz12_6
            try clear hcz12_7
            try clear hcz17_0
            try clear hcz17_1
            try clear hcz17_2
            try clear hcz17_3
            try clear hcz17_4
            try clear hcz17_5
            try clear hcz17_6
            try clear hcz17_7
            try clear hcz19_0
            try clear hcz19_1
            try clear hcz19_2
            try clear hcz19_3
            try clear hcz19_4
            try clear hcz19_5
            try clear hcz19_6
            try clear hcz19_7
            try clear hcz24_0
            try clear hcz24_1
            try clear hcz24_2
            try clear hcz24_3
            try clear hcz24_4
            try clear hcz24_5
            try clear hcz24_6
            try clear hcz24_7
            try clear hcz29_0
            try clear hcz29_1
            try clear hcz29_2
            try clear hcz29_3
            try clear hcz29_4
            try clear hcz29_5
            try clear hcz29_6
            try clear hcz29_7
            try clear hcz9_0
            try clear hcz9_1
            try clear hcz9_2
            try clear hcz9_3
            try clear hcz9_4
            try clear hcz9_5
            try clear hcz9_6
            try clear hcz9_7
            try clear hfz12_0
            try clear hfz12_1
            try clear hfz12_2
            try clear hfz12_3
            try clear hfz12_4
            try clear hfz12_5
            try clear hfz12_6
            try clear hfz12_7
            try clear hfz17_0
            try clear hfz17_1
            try clear hfz17_2
            try clear hfz17_3
            try clear hfz17_4
            try clear hfz17_5
            try clear hfz17_6
            try clear hfz17_7
            try clear hfz19_0
            try clear hfz19_1
            try clear hfz19_2
            try clear hfz19_3
            try clear hfz19_4
            try clear hfz19_5
            try clear hfz19_6
            try clear hfz19_7
            try clear hfz24_0
            try clear hfz24_1
            try clear hfz24_2
            try clear hfz24_3
            try clear hfz24_4
            try clear hfz24_5
            try clear hfz24_6
            try clear hfz24_7
            try clear hfz29_0
            try clear hfz29_1
            try clear hfz29_2
            try clear hfz29_3
            try clear hfz29_4
            try clear hfz29_5
            try clear hfz29_6
            try clear hfz29_7
            try clear hfz9_0
            try clear hfz9_1
            try clear hfz9_2
            try clear hfz9_3
            try clear hfz9_4
            try clear hfz9_5
            try clear hfz9_6
            try clear hfz9_7
            try clear hx154_0
            try clear hx154_1
            try clear hx154_2
            try clear hx154_3
            try clear hx154_4
            try clear hx154_5
            try clear hx154_6
            try clear hx154_7
            try clear hx161_0
            try clear hx161_1
            try clear hx161_2
            try clear hx161_3
            try clear hx161_4
            try clear hx161_5
            try clear hx161_6
            try clear hx161_7
            try clear p154
            try clear p161
            try clear p2
            try clear q021
            try clear q154
            try clear q161
            try clear q21
            obtain ⟨kq, x28_21, rfl, HA, HJ21, HO_1, BK155, HB⟩ := hcut
            cases kq with
            | zero => exact absurd HA.out (by simp [feed_Covers.j1])
            | succ kj21 =>
              have H := HA.out
              clear HA
              simp only [feed_Covers.j1] at H
              by_cases c30 : x28_21 = true
              · subst c30
                have H1 : (some false) = some r := by rw [if_pos rfl] at H; exact H
                clear H
                have H := H1
                clear H1
                obtain rfl := Option.some.inj H
                go_wp2
                repeat (go_quiet (fail); try go_wp2)
                go_ret
                exact ⟨by first | rfl | (simp [errW_none, errW_some] <;> rfl) | (simp [*, errW_none, errW_some] <;> rfl), LG HB.out (G1 GE155.out G0)⟩
              · replace c30 := Bool.eq_false_iff.mpr c30
                subst c30
                have H1 : (if 1 < 1 then (some false) else (if 1 > (x1_1.length : Int) then (some false) else (if 0 ≤ 1 then (if 1 ≤ (x1_1.length : Int) then (feed_Covers.l0 kj21 (x1_1.drop (1 : Int).toNat) l0 (l0.length : Int) (wrap64 (x10_1 + 1))) else (none)) else (none)))) = some r := by rw [if_neg (show ¬ (false = true) by decide)] at H; exact H
                clear H
                have H := H1
                clear H1
                by_cases c31 : 1 < 1
                · exact absurd c31 (by decide)
                · rw [if_neg c31] at H
                  have c31b0 : decide (1 < 1) = false := decide_eq_false c31
                  clear c31
                  by_cases c32 : 1 > (x1_1.length : Int)
                  · rw [if_pos c32] at H
                    have c32b0 : decide ((x1_1.length : Int) < 1) = true := decide_eq_true c32
                    have c32b1 : decide (x1_1.length < 1) = true := decide_eq_true (by omega)
                    clear c32
                    obtain rfl := Option.some.inj H
                    obtain ⟨Ao33, co33, eo33⟩ := Kd.V_slice HO_1.out
                    subst eo33
                    go_wp2
                    repeat (go_quiet (fail); try go_wp2)
                    go_ret
                    exact ⟨by first | rfl | (simp [errW_none, errW_some] <;> rfl) | (simp [*, errW_none, errW_some] <;> rfl), LG HB.out (G1 GE155.out G0)⟩
                  · rw [if_neg c32] at H
                    have c32b0 : decide ((x1_1.length : Int) < 1) = false := decide_eq_false c32
                    have c32b1 : decide (x1_1.length < 1) = false := decide_eq_false (by omega)
                    clear c32
                    by_cases c34 : 0 ≤ 1
                    rotate_left
                    · rw [if_neg c34] at H
                      exact absurd H (by simp)
                    rw [if_pos c34] at H
                    have c34b0 := eq_true c34
                    have c34b1 : decide (0 ≤ 1) = true := decide_eq_true c34
                    clear c34
                    by_cases c35 : 1 ≤ (x1_1.length : Int)
                    rotate_left
                    · rw [if_neg c35] at H
                      exact absurd H (by simp)
                    rw [if_pos c35] at H
                    have c35b0 := eq_true c35
                    have c35b1 : decide (1 ≤ (x1_1.length : Int)) = true := decide_eq_true c35
                    clear c35
                    obtain ⟨y162, hy162⟩ : ∃ y_ : List (S36), y_ = (x1_1.drop (1 : Int).toNat) := ⟨_, rfl⟩
                    replace H : (feed_Covers.l0 kj21 y162 l0 (l0.length : Int) (wrap64 (x10_1 + 1))) = some r := by first | (rw [hy162]; with_reducible exact H) | (have H2_ := (Option.bind_some _ _).symm.trans H; rw [hy162]; with_reducible exact H2_) | (have H2_ := (Option.bind_some _ _).symm.trans H; with_reducible exact H2_) | with_reducible exact H | (rw [hy162]; exact H) | exact H
                    have Ny162 := Aside0.mk hy162
                    clear hy162
                    have H' := Aside0.mk H
                    clear H
                    obtain ⟨Ao36, co36, eo36⟩ := Kd.V_slice HO_1.out
                    subst eo36
                    have q37 : (1 : Int) ≤ ((x1_1.length : Int) : Int) := of_decide_eq_true (by first | (with_reducible assumption) | assumption)
                    obtain ⟨i037, hi037, _, hsz37, _⟩ := info_parts info36
                    have hroom37 : x1_1.length ≤ co36 := (Kd.V_reads' HO_1.out).2.1
                    have hC37 : Kd.F k36 _ _ Ao36 x1_1.length x1_1 := (Kd.V_at (base := w.heap.size) HO_1.out).2.2
                    have hcut37 := cut_from (P := Try.prog) 22 36 .i64 Try.underlying22 hi037 8 hsz37 Ao36 x1_1.length co36 1 (by omega) q37
                    have hr37 := Kd.F_cut (m := (1 : Int).toNat) (c := co36) hC37 (by omega) hroom37
                    obtain ⟨A37, hA37⟩ : ∃ A_, A_ = (if co36 = (1 : Int).toNat then Ao36 else (Ao36 : Option Addr).map (·.add ((1 : Int).toNat * 8))) := ⟨_, rfl⟩
                    obtain ⟨c37, hc37⟩ : ∃ c_, c_ = co36 - (1 : Int).toNat := ⟨_, rfl⟩
                    have hy37 : y162.length = x1_1.length - (1 : Int).toNat := (by rw [Ny162.out, List.length_drop] <;> omega)
                    rw [show (x1_1).drop (1 : Int).toNat = y162 from Ny162.out.symm] at hr37
                    replace hr37 : Kd.F k36 _ _ A37 y162.length y162 := (by rw [hA37]; exact hr37)
                    rw [← hy37, ← hA37, ← hc37] at hcut37
                    have HO166 := Aside0.mk (show Kd.V k36 36 _ w.heap.size _ (.slice A37 y162.length c37) y162 from Kd.V_mk (by rw [hy37, hc37]; exact Nat.sub_le_sub_right hroom37 _) hr37)
                    have HC166 := Aside0.mk (show y162.length ≤ c37 from by rw [hy37, hc37]; exact Nat.sub_le_sub_right hroom37 _)
                    clear hr37 hC37 hroom37 hi037 hsz37 hc37
                    have KY37 := Aside0.mk hy37
                    have KA37 := Aside0.mk hA37
                    clear hy37 hA37
                    replace q37 := eq_true q37
                    go_wp2
                    repeat (go_quiet (fail); try go_wp2)
                    go_roundg kj21
                    case measure => have := HK1.out; have := HJ21.out; omega
                    case rel => exact ⟨(y162), (wrap64 (x10_1 + 1)), (by first | rfl | (simp; done) | (simp [*]; done)), H', ⟨by have := HK1.out; have := HJ21.out; omega⟩, ⟨by (with_reducible repeat (first | apply Kd.V_alloc | apply Kd.V_drewN | apply Kd.V_drew)); exact Kd.V_mono HO166.out (fun _ hk => hk.1)⟩, ⟨LG HB.out (G1 GE155.out G0)⟩⟩
      · rw [if_neg c3] at H
        have c3b0 : decide (x10_1 < (l0.length : Int)) = false := decide_eq_false c3
        clear c3
        obtain rfl := Option.some.inj H
        obtain ⟨Ao38, co38, eo38⟩ := Kd.V_slice HO_1.out
        subst eo38
        go_wp2
        repeat (go_quiet (fail); try go_wp2)
        go_ret
        exact ⟨by first | rfl | (simp [errW_none, errW_some] <;> rfl) | (simp [*, errW_none, errW_some] <;> rfl), LA HB.out⟩

/-! ### hopperlaw14_event: function 23 -/
def hopperlaw14_event.f (a0 : Int) : Option (Int × Int × Int × Int × Int × Int × ByteArray × Int) := some (1, 0, a0, 0, 0, 0, (⟨#[]⟩ : ByteArray), 0)
set_option maxHeartbeats 8000000 in
set_option maxRecDepth 100000 in
theorem hopperlaw14_event.calls (a0 : Int) (r1 : Int) (r2 : Int) (r3 : Int) (r4 : Int) (r5 : Int) (r6 : Int) (r7 : ByteArray) (r8 : Int) (w : World) (h : hopperlaw14_event.f a0 = some (r1, r2, r3, r4, r5, r6, r7, r8)) :
    Calls Try.prog 23 #[.int .i64 a0] w fun e w' => e = .returned (.agg #[.int .i64 r1, .int .i64 r2, .int .i64 r3, .int .i64 r4, .int .i64 r5, .int .i64 r6, .string r7, .int .i64 r8]) ∧ Below w.heap.size w w' := by
  have hu36 := Try.underlying36
  have hu34 := Try.underlying34
  have HB := Aside0.mk (Below.refl w.heap.size w)
  have H : (some (1, 0, a0, 0, 0, 0, (⟨#[]⟩ : ByteArray), 0)) = some (r1, r2, r3, r4, r5, r6, r7, r8) := h
  clear h
  simp only [Option.some.injEq, Prod.mk.injEq] at H
  obtain ⟨rfl, rfl, rfl, rfl, rfl, rfl, rfl, rfl⟩ := H
  go_enter Try.func23, Try.ntmps23
  go_wp2_with (first | ((with_reducible refine gate_dst (N := 2) rfl ?_); refine box_event ?hg (N := 2) ?hd (cs := #[.int .i64 0, .int .i64 0, .int .i64 0, .int .i64 0, .int .i64 0, .int .i64 0, .string (⟨#[]⟩ : ByteArray), .int .i64 0]) (t := 36) ?hr ?_; (case hd => rfl); (case hg => rfl); (case hr => first | (go_simp; done) | (go_simp; rfl)); intro gb167 hg w2 hbox hb; have BK167 := Aside0.mk (hbox); have GE167 := Aside0.mk (ge1 hg (LA HB.out)); replace HB := Aside0.mk (below_step (LA HB.out) hb); clear hb hbox hg; obtain ⟨hcz3_0, hcz3_1, hcz3_2, hcz3_3, hcz3_4, hcz3_5, hcz3_6, hcz3_7, hfz3_0, hfz3_1, hfz3_2, hfz3_3, hfz3_4, hfz3_5, hfz3_6, hfz3_7⟩ := cz8 BK167.out))
  refine bodyPost_ret (results_cell_row rfl _ _ gb167 36 #[.int .i64 1, .int .i64 0, .int .i64 a0, .int .i64 0, .int .i64 0, .int .i64 0, .string (⟨#[]⟩ : ByteArray), .int .i64 0] (0, 0) _ rfl (BP BK167.out (by rfl)) Try.underlying36 rfl (by kernel_rfl)) rfl ?_
  exact ⟨by first | rfl | (simp [errW_none, errW_some] <;> rfl) | (simp [*, errW_none, errW_some] <;> rfl), LG HB.out (G1 GE167.out G0)⟩

end Go.Proofs.Ythmnedlaecekkaa.PFeedParts
