/- What the functions that the law reaches answer, each as a plain Lean function, with a proof that the call in memory comes to that answer. Written by wip/tools/given.py of this session out of the print.py of the kit, with stand-ins for some functions. -/
import Derived.Test.YtjbhjjdahakjmaaPLockRunsx0
import Derived.Test.YtjbhjjdahakjmaaPLockRunsx1
import Derived.Test.YtjbhjjdahakjmaaPLockRunsx2
namespace Go.Proofs.Ytjbhjjdahakjmaa.PLockRuns
open Go.RowKit Go.Proofs.YtjbhjjdahakjmaaW.PrintWords Go.Proofs.YtjbhjjdahakjmaaW.PrintLast Go.Proofs.YtjbhjjdahakjmaaW.PrintMore
attribute [local go_sem] max2_int min2_int max_two min_two max_three min_three max_four min_four   -- for this text's walks alone
set_option linter.unusedVariables false
set_option linter.unusedSimpArgs false

/-! ### hopperlaw09_LockRuns: function 4 -/
mutual
def hopperlaw09_LockRuns.j0 : Nat → Int → List (S41) → List Int → Bool → Option (Bool)
  | 0, _, _, _, _ => none
  | k + 1, x0, x1, x5, x26 => if x26 = true then (if (x1.length : Int) > 200 then ((hopperlaw09_live.f k).bind fun t182 => (some t182)) else (if (x5.length : Int) = 0 then ((hopperlaw09_live.f k).bind fun t183 => (some t183)) else (some false))) else (if 0 ≤ x0 then (if (x0 : Int).toNat ≤ 35184372088832 then (hopperlaw09_LockRuns.l0 k x0 x1 x5 (List.replicate (x0 : Int).toNat 0) 0) else (none)) else (none))
def hopperlaw09_LockRuns.l0 : Nat → Int → List (S41) → List Int → List Int → Int → Option (Bool)
  | 0, _, _, _, _, _ => none
  | k + 1, x0, x1, x5, x7, x8 => if x8 < (x1.length : Int) then (if 0 ≤ x8 then (if ((rd_T41 x1 x8).f0) < 0 then (hopperlaw09_LockRuns.j2 k x0 x1 x5 x7 x8 ((rd_T41 x1 x8).f0) ((rd_T41 x1 x8).f1) true) else (if ((rd_T41 x1 x8).f0) ≥ x0 then (hopperlaw09_LockRuns.j2 k x0 x1 x5 x7 x8 ((rd_T41 x1 x8).f0) ((rd_T41 x1 x8).f1) true) else (if ((rd_T41 x1 x8).f1) = 0 then (hopperlaw09_LockRuns.j2 k x0 x1 x5 x7 x8 ((rd_T41 x1 x8).f0) ((rd_T41 x1 x8).f1) true) else (hopperlaw09_LockRuns.j2 k x0 x1 x5 x7 x8 ((rd_T41 x1 x8).f0) ((rd_T41 x1 x8).f1) (decide (((rd_T41 x1 x8).f1) < (-1000))))))) else (none)) else ((hopperlaw09_live.f k).bind fun t187 => (some t187))
def hopperlaw09_LockRuns.j2 : Nat → Int → List (S41) → List Int → List Int → Int → Int → Int → Bool → Option (Bool)
  | 0, _, _, _, _, _, _, _, _ => none
  | k + 1, x0, x1, x5, x7, x8, x9, x10, x70 => if x70 = true then (hopperlaw09_LockRuns.l0 k x0 x1 x5 x7 (wrap64 (x8 + 1))) else (if x10 > 0 then ((lock_Table_Take.f k x5 x9 x10).bind fun bt190 => (if 0 ≤ x9 then (if x9 < (x7.length : Int) then (if ((bt190.2 == 0) != ((rd x7 x9) == 0)) = true then (some false) else (if bt190.2 = 0 then ((some (x7.set (x9 : Int).toNat x10 : List Int)).bind fun y195 => ((hopperref09_Same.f k bt190.1 y195).bind fun t196 => (if t196 = true then (hopperlaw09_LockRuns.l0 k x0 x1 bt190.1 y195 (wrap64 (x8 + 1))) else (some false)))) else ((hopperref09_Same.f k bt190.1 x7).bind fun t197 => (if t197 = true then (hopperlaw09_LockRuns.l0 k x0 x1 bt190.1 x7 (wrap64 (x8 + 1))) else (some false))))) else (none)) else (none))) else ((lock_Table_Give.f k x5 x9 (wrap64 (-x10))).bind fun bt198 => (if 0 ≤ x9 then (if x9 < (x7.length : Int) then (if ((bt198.2 == 0) != ((rd x7 x9) == (wrap64 (-x10)))) = true then (some false) else (if bt198.2 = 0 then ((some (x7.set (x9 : Int).toNat 0 : List Int)).bind fun y203 => ((hopperref09_Same.f k bt198.1 y203).bind fun t204 => (if t204 = true then (hopperlaw09_LockRuns.l0 k x0 x1 bt198.1 y203 (wrap64 (x8 + 1))) else (some false)))) else ((hopperref09_Same.f k bt198.1 x7).bind fun t205 => (if t205 = true then (hopperlaw09_LockRuns.l0 k x0 x1 bt198.1 x7 (wrap64 (x8 + 1))) else (some false))))) else (none)) else (none))))
end
def hopperlaw09_LockRuns.f (k : Nat) (a0 : Int) (l1 : List (S41)) : Option (Bool) := (lock_New.f a0).bind fun bt178 => (if (l1.length : Int) > 200 then (hopperlaw09_LockRuns.j0 k a0 l1 bt178.1 true) else (hopperlaw09_LockRuns.j0 k a0 l1 bt178.1 (bt178.2 != 0)))
theorem hopperlaw09_LockRuns.mono_l : ∀ k, (∀ y0 y1 y2 y3, LeO (hopperlaw09_LockRuns.j0 k y0 y1 y2 y3) (hopperlaw09_LockRuns.j0 (k + 1) y0 y1 y2 y3)) ∧ (∀ y0 y1 y2 y3 y4, LeO (hopperlaw09_LockRuns.l0 k y0 y1 y2 y3 y4) (hopperlaw09_LockRuns.l0 (k + 1) y0 y1 y2 y3 y4)) ∧ (∀ y0 y1 y2 y3 y4 y5 y6 y7, LeO (hopperlaw09_LockRuns.j2 k y0 y1 y2 y3 y4 y5 y6 y7) (hopperlaw09_LockRuns.j2 (k + 1) y0 y1 y2 y3 y4 y5 y6 y7))
  | 0 => ⟨fun _ _ _ _ r h => by simp [hopperlaw09_LockRuns.j0] at h, fun _ _ _ _ _ r h => by simp [hopperlaw09_LockRuns.l0] at h, fun _ _ _ _ _ _ _ _ r h => by simp [hopperlaw09_LockRuns.j2] at h⟩
  | k + 1 => by
    obtain ⟨ih0, ih1, ih2⟩ := hopperlaw09_LockRuns.mono_l k
    refine ⟨?_, ?_, ?_⟩
    · intro y0 y1 y2 y3
      unfold hopperlaw09_LockRuns.j0
      repeat' first
      | (with_reducible exact ih0 _ _ _ _)
      | (with_reducible exact ih1 _ _ _ _ _)
      | (with_reducible exact ih2 _ _ _ _ _ _ _ _)
      | (with_reducible exact hopperlaw09_live.mono _)
      | (with_reducible exact hopperref09_Same.mono _ _ _)
      | (with_reducible exact lock_Table_Give.mono _ _ _ _)
      | (with_reducible exact lock_Table_Take.mono _ _ _ _)
      | (with_reducible exact LeO.refl _)
      | (with_reducible exact LeO.none _)
      | (with_reducible refine LeO.ite ?_ ?_)
      | (with_reducible refine LeO.bind ?_ (fun _ => ?_))
      | exact ih0 _ _ _ _
      | exact ih1 _ _ _ _ _
      | exact ih2 _ _ _ _ _ _ _ _
      | exact hopperlaw09_live.mono _
      | exact hopperref09_Same.mono _ _ _
      | exact lock_Table_Give.mono _ _ _ _
      | exact lock_Table_Take.mono _ _ _ _
      | exact LeO.none _
      | refine LeO.ite ?_ ?_
      | refine LeO.bind ?_ (fun _ => ?_)
    · intro y0 y1 y2 y3 y4
      unfold hopperlaw09_LockRuns.l0
      repeat' first
      | (with_reducible exact ih0 _ _ _ _)
      | (with_reducible exact ih1 _ _ _ _ _)
      | (with_reducible exact ih2 _ _ _ _ _ _ _ _)
      | (with_reducible exact hopperlaw09_live.mono _)
      | (with_reducible exact hopperref09_Same.mono _ _ _)
      | (with_reducible exact lock_Table_Give.mono _ _ _ _)
      | (with_reducible exact lock_Table_Take.mono _ _ _ _)
      | (with_reducible exact LeO.refl _)
      | (with_reducible exact LeO.none _)
      | (with_reducible refine LeO.ite ?_ ?_)
      | (with_reducible refine LeO.bind ?_ (fun _ => ?_))
      | exact ih0 _ _ _ _
      | exact ih1 _ _ _ _ _
      | exact ih2 _ _ _ _ _ _ _ _
      | exact hopperlaw09_live.mono _
      | exact hopperref09_Same.mono _ _ _
      | exact lock_Table_Give.mono _ _ _ _
      | exact lock_Table_Take.mono _ _ _ _
      | exact LeO.none _
      | refine LeO.ite ?_ ?_
      | refine LeO.bind ?_ (fun _ => ?_)
    · intro y0 y1 y2 y3 y4 y5 y6 y7
      unfold hopperlaw09_LockRuns.j2
      repeat' first
      | (with_reducible exact ih0 _ _ _ _)
      | (with_reducible exact ih1 _ _ _ _ _)
      | (with_reducible exact ih2 _ _ _ _ _ _ _ _)
      | (with_reducible exact hopperlaw09_live.mono _)
      | (with_reducible exact hopperref09_Same.mono _ _ _)
      | (with_reducible exact lock_Table_Give.mono _ _ _ _)
      | (with_reducible exact lock_Table_Take.mono _ _ _ _)
      | (with_reducible exact LeO.refl _)
      | (with_reducible exact LeO.none _)
      | (with_reducible refine LeO.ite ?_ ?_)
      | (with_reducible refine LeO.bind ?_ (fun _ => ?_))
      | exact ih0 _ _ _ _
      | exact ih1 _ _ _ _ _
      | exact ih2 _ _ _ _ _ _ _ _
      | exact hopperlaw09_live.mono _
      | exact hopperref09_Same.mono _ _ _
      | exact lock_Table_Give.mono _ _ _ _
      | exact lock_Table_Take.mono _ _ _ _
      | exact LeO.none _
      | refine LeO.ite ?_ ?_
      | refine LeO.bind ?_ (fun _ => ?_)
theorem hopperlaw09_LockRuns.mono : ∀ a0 a1 k, LeO (hopperlaw09_LockRuns.f k a0 a1) (hopperlaw09_LockRuns.f (k + 1) a0 a1) := by
  intro a0 a1 k
  obtain ⟨ih0, ih1, ih2⟩ := hopperlaw09_LockRuns.mono_l k
  unfold hopperlaw09_LockRuns.f
  repeat' first
      | (with_reducible exact ih0 _ _ _ _)
      | (with_reducible exact ih1 _ _ _ _ _)
      | (with_reducible exact ih2 _ _ _ _ _ _ _ _)
      | (with_reducible exact hopperlaw09_live.mono _)
      | (with_reducible exact hopperref09_Same.mono _ _ _)
      | (with_reducible exact lock_Table_Give.mono _ _ _ _)
      | (with_reducible exact lock_Table_Take.mono _ _ _ _)
      | (with_reducible exact LeO.refl _)
      | (with_reducible exact LeO.none _)
      | (with_reducible refine LeO.ite ?_ ?_)
      | (with_reducible refine LeO.bind ?_ (fun _ => ?_))
      | exact ih0 _ _ _ _
      | exact ih1 _ _ _ _ _
      | exact ih2 _ _ _ _ _ _ _ _
      | exact hopperlaw09_live.mono _
      | exact hopperref09_Same.mono _ _ _
      | exact lock_Table_Give.mono _ _ _ _
      | exact lock_Table_Take.mono _ _ _ _
      | exact LeO.none _
      | refine LeO.ite ?_ ?_
      | refine LeO.bind ?_ (fun _ => ?_)
set_option maxHeartbeats 8000000 in
set_option maxRecDepth 100000 in
theorem hopperlaw09_LockRuns.calls (k : Nat) (a0 : Int) (A1 : Option Addr) (c1 : Nat) (l1 : List (S41)) (r : Bool) (w : World) (hr1 : Kd.C k41 w A1 l1.length l1) (hc1 : l1.length ≤ c1) (h : hopperlaw09_LockRuns.f k a0 l1 = some r) :
    Calls Try.prog 4 #[.int .i64 a0, .slice A1 l1.length c1] w fun e w' => e = .returned (.bool r) ∧ Below w.heap.size w w' := by
  have HR1 := Aside0.mk hr1
  have HC1 := Aside0.mk hc1
  clear hr1 hc1
  have HB := Aside0.mk (Below.refl w.heap.size w)
  have H : ((lock_New.f a0).bind fun bt178 => (if (l1.length : Int) > 200 then (hopperlaw09_LockRuns.j0 k a0 l1 bt178.1 true) else (hopperlaw09_LockRuns.j0 k a0 l1 bt178.1 (bt178.2 != 0)))) = some r := h
  clear h
  replace H := Option.bind_eq_some_iff.mp H
  obtain ⟨⟨t178, t179⟩, A30, H⟩ := H
  replace H : (if (l1.length : Int) > 200 then (hopperlaw09_LockRuns.j0 k a0 l1 t178 true) else (hopperlaw09_LockRuns.j0 k a0 l1 t178 (t179 != 0))) = some r := H
  have A3 := Aside0.mk A30
  clear A30
  have HC4 := Aside0.mk H
  clear H
  go_enter Try.func4, Try.ntmps4
  go_upto_region 2 with (first | ((with_reducible refine gate_callee (f := 12) rfl ?_); refine goesL_ (some 17) rfl rfl Try.func12 (by kernel_rfl) rfl #[.int .i64 a0] rfl (by (try simp only [List.map_toArray, List.map_cons, List.map_nil]); first | done | rfl | (simp only [List.length_drop, List.length_take]; rfl)) ?_; (with_reducible refine (lock_New.calls a0 t178 t179 _ A3.out).mono ?_); rintro e w5 ⟨v180, rfl, ho0, hb⟩; refine ⟨_, rfl, ?_⟩; have n0_ := Aside0.mk (Kd.R_lower ho0 (below_size (by repeat (first | (with_reducible first | exact HB.out | apply below_alloc | apply pw_below_drewN | apply below_drew1) | exact HB.out)))); have n1_ := Aside0.mk (below_step (by repeat (first | (with_reducible first | exact HB.out | apply below_alloc | apply pw_below_drewN | apply below_drew1) | exact HB.out)) hb); clear HB; have HO181 := n0_; have HB := n1_; clear n0_ n1_; (try clear hb); (try clear hb2); (try clear hk); (try clear hi); (try clear ho0)))
  (try simp only [Act.put, List.setIfInBounds_toArray, List.set_cons_zero, List.set_cons_succ])
  go_cut [26] (fun v26 wc => ∃ (kq : Nat) (x26_3 : Bool), v26 = .bool x26_3 ∧ Aside0 (hopperlaw09_LockRuns.j0 kq a0 l1 t178 x26_3 = some r) ∧ Aside0 (kq ≤ k) ∧ Aside0 (Kd.R (Kd.int .i64) 3 wc w.heap.size (fun _ => True) v180 t178) ∧ Aside0 (Below w.heap.size w wc))
  case first =>
    have H := HC4.out
    clear HC4
    by_cases c6 : (l1.length : Int) > 200
    · rw [if_pos c6] at H
      have c6b0 : decide (200 < (l1.length : Int)) = true := decide_eq_true c6
      have c6b1 : decide (200 < l1.length) = true := decide_eq_true (by omega)
      clear c6
      (first | rw [c6b0] | (simp only [i64_w, i32_w]; rw [c6b0]) | skip)
      have H' := Aside0.mk H
      clear H
      go_wp2
      go_meet
      case rel => exact ⟨_, (true), (by first | rfl | (simp; done) | (simp [*]; done)), H', ⟨by first | omega | exact Nat.le_refl _⟩, ⟨by (with_reducible repeat (first | apply Kd.R_alloc | apply Kd.R_drewN | apply Kd.R_drew)); exact HO181.out⟩, ⟨by repeat (first | (with_reducible first | exact HB.out | apply below_alloc | apply pw_below_drewN | apply below_drew1) | exact HB.out)⟩⟩
    · rw [if_neg c6] at H
      have c6b0 : decide (200 < (l1.length : Int)) = false := decide_eq_false c6
      have c6b1 : decide (200 < l1.length) = false := decide_eq_false (by omega)
      clear c6
      (first | rw [c6b0] | (simp only [i64_w, i32_w]; rw [c6b0]) | skip)
      have H' := Aside0.mk H
      clear H
      go_wp2
      go_meet
      case rel => exact ⟨_, ((t179 != 0)), (by first | rfl | (simp; done) | (simp [*]; done)), H', ⟨by first | omega | exact Nat.le_refl _⟩, ⟨by (with_reducible repeat (first | apply Kd.R_alloc | apply Kd.R_drewN | apply Kd.R_drew)); exact HO181.out⟩, ⟨by repeat (first | (with_reducible first | exact HB.out | apply below_alloc | apply pw_below_drewN | apply below_drew1) | exact HB.out)⟩⟩
  case rest =>
    clear HC4
    try clear c1
    try clear p2
    try clear c4
    try clear c6
    try clear c6b0
    try clear c6b1
    obtain ⟨kq, x26_3, rfl, HA, HJ3, HO_5, HB⟩ := hcut
    cases kq with
    | zero => exact absurd HA.out (by simp [hopperlaw09_LockRuns.j0])
    | succ kj3 =>
      have H := HA.out
      clear HA
      simp only [hopperlaw09_LockRuns.j0] at H
      by_cases c7 : x26_3 = true
      · subst c7
        have H1 : (if (l1.length : Int) > 200 then ((hopperlaw09_live.f kj3).bind fun t182 => (some t182)) else (if (t178.length : Int) = 0 then ((hopperlaw09_live.f kj3).bind fun t183 => (some t183)) else (some false))) = some r := by rw [if_pos rfl] at H; exact H
        clear H
        have H := H1
        clear H1
        by_cases c8 : (l1.length : Int) > 200
        · rw [if_pos c8] at H
          have c8b0 : decide (200 < (l1.length : Int)) = true := decide_eq_true c8
          have c8b1 : decide (200 < l1.length) = true := decide_eq_true (by omega)
          clear c8
          replace H := Option.bind_eq_some_iff.mp H
          obtain ⟨t182, A90, H⟩ := H
          replace H : (some t182) = some r := H
          have A9 := Aside0.mk A90
          clear A90
          obtain rfl := Option.some.inj H
          go_wp2_with (first | (go_at_call 7; (with_reducible refine (hopperlaw09_live.calls kj3  t182 _ A9.out).mono ?_); rintro e w10 ⟨rfl, hb⟩; have n0_ := Aside0.mk (Kd.R_below (by (with_reducible repeat (first | apply Kd.R_alloc | apply Kd.R_drewN | apply Kd.R_drew)); exact HO_5.out) hb); have n1_ := Aside0.mk (below_step (by repeat (first | (with_reducible first | exact HB.out | apply below_alloc | apply pw_below_drewN | apply below_drew1) | exact HB.out)) hb); clear HO_5; clear HB; have HO_5 := n0_; have HB := n1_; clear n0_ n1_; (try clear hb); (try clear hb2); (try clear hk); (try clear hi)))
          go_ret
          exact ⟨by first | rfl | (simp [errW_none, errW_some] <;> rfl) | (simp [*, errW_none, errW_some] <;> rfl), by repeat (first | (with_reducible first | exact HB.out | apply below_alloc | apply pw_below_drewN | apply below_drew1) | exact HB.out)⟩
        · rw [if_neg c8] at H
          have c8b0 : decide (200 < (l1.length : Int)) = false := decide_eq_false c8
          have c8b1 : decide (200 < l1.length) = false := decide_eq_false (by omega)
          clear c8
          by_cases c11 : (t178.length : Int) = 0
          · rw [if_pos c11] at H
            have c11b0 : ((t178.length : Int) == 0) = true := beq_iff_eq.mpr c11
            have c11b1 : ((t178.length : Int) != 0) = false := bne_eq_false_iff_eq.mpr c11
            clear c11
            replace H := Option.bind_eq_some_iff.mp H
            obtain ⟨t183, A120, H⟩ := H
            replace H : (some t183) = some r := H
            have A12 := Aside0.mk A120
            clear A120
            obtain rfl := Option.some.inj H
            obtain ⟨Ao13, co13, eo13⟩ := Kd.R_slice HO_5.out
            subst eo13
            go_wp2_with (first | (go_at_call 7; (with_reducible refine (hopperlaw09_live.calls kj3  t183 _ A12.out).mono ?_); rintro e w14 ⟨rfl, hb⟩; have n0_ := Aside0.mk (Kd.R_below (by (with_reducible repeat (first | apply Kd.R_alloc | apply Kd.R_drewN | apply Kd.R_drew)); exact HO_5.out) hb); have n1_ := Aside0.mk (below_step (by repeat (first | (with_reducible first | exact HB.out | apply below_alloc | apply pw_below_drewN | apply below_drew1) | exact HB.out)) hb); clear HO_5; clear HB; have HO_5 := n0_; have HB := n1_; clear n0_ n1_; (try clear hb); (try clear hb2); (try clear hk); (try clear hi)))
            go_ret
            exact ⟨by first | rfl | (simp [errW_none, errW_some] <;> rfl) | (simp [*, errW_none, errW_some] <;> rfl), by repeat (first | (with_reducible first | exact HB.out | apply below_alloc | apply pw_below_drewN | apply below_drew1) | exact HB.out)⟩
          · rw [if_neg c11] at H
            have c11b0 : ((t178.length : Int) == 0) = false := beq_eq_false_iff_ne.mpr c11
            have c11b1 : ((t178.length : Int) != 0) = true := bne_iff_ne.mpr c11
            have c11b2 : ¬ (t178 = []) := fun h_ => c11 (by rw [h_]; rfl)
            obtain rfl := Option.some.inj H
            obtain ⟨Ao15, co15, eo15⟩ := Kd.R_slice HO_5.out
            subst eo15
            go_wp2
            go_ret
            exact ⟨by first | rfl | (simp [errW_none, errW_some] <;> rfl) | (simp [*, errW_none, errW_some] <;> rfl), by repeat (first | (with_reducible first | exact HB.out | apply below_alloc | apply pw_below_drewN | apply below_drew1) | exact HB.out)⟩
      · replace c7 := Bool.eq_false_iff.mpr c7
        subst c7
        have H1 : (if 0 ≤ a0 then (if (a0 : Int).toNat ≤ 35184372088832 then (hopperlaw09_LockRuns.l0 kj3 a0 l1 t178 (List.replicate (a0 : Int).toNat 0) 0) else (none)) else (none)) = some r := by rw [if_neg (show ¬ (false = true) by decide)] at H; exact H
        clear H
        have H := H1
        clear H1
        by_cases c16 : 0 ≤ a0
        · rw [if_pos c16] at H
          have c16b0 := eq_true c16
          have c16b1 : decide (0 ≤ a0) = true := decide_eq_true c16
          clear c16
          by_cases c17 : (a0 : Int).toNat ≤ 35184372088832
          · rw [if_pos c17] at H
            have c17b0 := eq_true c17
            have c17b1 : decide ((a0 : Int).toNat ≤ 35184372088832) = true := decide_eq_true c17
            clear c17
            obtain ⟨y184, hy184⟩ : ∃ y_ : List Int, y_ = (List.replicate (a0 : Int).toNat 0) := ⟨_, rfl⟩
            replace H : (hopperlaw09_LockRuns.l0 kj3 a0 l1 t178 y184 0) = some r := by first | (rw [hy184]; with_reducible exact H) | (have H2_ := (Option.bind_some _ _).symm.trans H; rw [hy184]; with_reducible exact H2_) | (have H2_ := (Option.bind_some _ _).symm.trans H; with_reducible exact H2_) | with_reducible exact H | (rw [hy184]; exact H) | exact H
            have Ny184 := Aside0.mk hy184
            clear hy184
            have H' := Aside0.mk H
            clear H
            go_wp2_with (first | ((with_reducible refine gate_dst (N := 39) rfl ?_); (try (refine gate_guard (by rfl) ?_; dsimp only)); refine Kd.R_make (Kd.int .i64) _ 3 rfl (N := 39) rfl 22 _ _ rfl a0 rfl rfl Try.underlying22 (.int .i64 0) 8 info3 rfl (by decide) (by omega) 0 (ok := fun _ => True) (okp := fun _ => True) rfl (fun _ hk => hk) trivial (of_decide_eq_true (by first | (with_reducible assumption) | assumption)) (Nat.le_trans (Nat.mul_le_mul_right _ (of_decide_eq_true (by first | (with_reducible assumption) | assumption) : a0.toNat ≤ 35184372088832)) (by omega)) (Below.refl _ _) (Nat.le_refl _) ?_; intro v185 w18 ho19 hb hg_ hnew_; clear hg_ hnew_; (first | rw [← Ny184.out] at ho19 | (simp only [Int.reduceToNat] at ho19; rw [← Ny184.out] at ho19)); have n0_ := Aside0.mk (Kd.R_elder' (by (with_reducible repeat (first | apply Kd.R_alloc | apply Kd.R_drewN | apply Kd.R_drew)); exact HO_5.out) (Kd.R_base ho19) hb); have n1_ := Aside0.mk (Kd.R_lower (Kd.R_new' ho19 (Kd.R_lt (by (with_reducible repeat (first | apply Kd.R_alloc | apply Kd.R_drewN | apply Kd.R_drew)); exact HO_5.out))) (below_size (by repeat (first | (with_reducible first | exact HB.out | apply below_alloc | apply pw_below_drewN | apply below_drew1) | exact HB.out)))); have n2_ := Aside0.mk (below_step (by repeat (first | (with_reducible first | exact HB.out | apply below_alloc | apply pw_below_drewN | apply below_drew1) | exact HB.out)) hb); clear HO_5; clear HB; have HO_5 := n0_; have HO186 := n1_; have HB := n2_; clear n0_ n1_ n2_; clear hb ho19))
            go_loopg [5, 8] kj3 (fun kq v5 v8 w' => ∃ (x5_2 : List Int) (x7_2 : List Int) (x8_2 : Int), v8 = .int .i64 x8_2 ∧ Aside0 (hopperlaw09_LockRuns.l0 kq a0 l1 x5_2 x7_2 x8_2 = some r) ∧ Aside0 (kq ≤ kj3) ∧ Aside0 (Kd.V (Kd.int .i64) 3 w' w.heap.size (fun k_ => some k_ ≠ (v185 : Value).ownBlock) v5 x5_2) ∧ Aside0 (Kd.R (Kd.int .i64) 3 w' w.heap.size (fun _ => True) v185 x7_2) ∧ Aside0 (Below w.heap.size w w'))
            case atStart => exact ⟨(t178), (y184), (0), (by first | rfl | (simp; done) | (simp [*]; done)), H', ⟨Nat.le_refl _⟩, ⟨Kd.R_V (by (with_reducible repeat (first | apply Kd.R_alloc | apply Kd.R_drewN | apply Kd.R_drew)); exact Kd.R_mono HO_5.out (fun _ hk => hk.2))⟩, ⟨by (with_reducible repeat (first | apply Kd.R_alloc | apply Kd.R_drewN | apply Kd.R_drew)); exact Kd.R_mono HO186.out (fun _ hk => trivial)⟩, ⟨by repeat (first | (with_reducible first | exact HB.out | apply below_alloc | apply pw_below_drewN | apply below_drew1) | exact HB.out)⟩⟩
            case round =>
              clear H'
              try clear c1
              try clear p2
              try clear c4
              try clear c6
              try clear c6b0
              try clear c6b1
              try clear c7
              try clear c8
              try clear c8b0
              try clear c8b1
              try clear c11
              try clear c11b0
              try clear c11b1
              try clear c11b2
              try clear c12
              try clear c16
              try clear c16b0
              try clear c16b1
              try clear c17
              try clear c17b0
              try clear c17b1
              try clear p2
              obtain ⟨x5_2, x7_2, x8_2, rfl, HA, HK2, HO_5, HO_7, HB⟩ := hrel
              cases gk with
              | zero => exact absurd HA.out (by simp [hopperlaw09_LockRuns.l0])
              | succ k2 =>
                have H := HA.out
                clear HA
                simp only [hopperlaw09_LockRuns.l0] at H
                by_cases c20 : x8_2 < (l1.length : Int)
                · rw [if_pos c20] at H
                  have c20b0 : decide (x8_2 < (l1.length : Int)) = true := decide_eq_true c20
                  clear c20
                  by_cases c21 : 0 ≤ x8_2
                  · rw [if_pos c21] at H
                    have c21b0 : decide (0 ≤ x8_2) = true := decide_eq_true c21
                    clear c21
                    have HC22 := Aside0.mk H
                    clear H
                    have p188 : 0 ≤ (x8_2 : Int) := of_decide_eq_true (by first | (with_reducible assumption) | assumption)
                    have q188 : x8_2 < (l1.length : Int) := of_decide_eq_true (by first | (with_reducible assumption) | assumption)
                    obtain ⟨ad188, e188, hx188_0, hx188_1⟩ := at_T41 HR1.out x8_2 p188 q188
                    cases e188
                    replace hx188_0 := (HB.out.cell (World.block_lt_of_cell? w _ hx188_0)).trans hx188_0
                    replace hx188_1 := (HB.out.cell (World.block_lt_of_cell? w _ hx188_1)).trans hx188_1
                    replace p188 := eq_true p188
                    replace q188 := eq_true q188
                    have p189 : 0 ≤ (x8_2 : Int) := of_decide_eq_true (by first | (with_reducible assumption) | assumption)
                    have q189 : x8_2 < (l1.length : Int) := of_decide_eq_true (by first | (with_reducible assumption) | assumption)
                    obtain ⟨ad189, e189, hx189_0, hx189_1⟩ := at_T41 HR1.out x8_2 p189 q189
                    obtain rfl : ad188 = ad189 := (by injection e189)
                    replace hx189_0 := (HB.out.cell (World.block_lt_of_cell? w _ hx189_0)).trans hx189_0
                    replace hx189_1 := (HB.out.cell (World.block_lt_of_cell? w _ hx189_1)).trans hx189_1
                    replace p189 := eq_true p189
                    replace q189 := eq_true q189
                    go_upto_region 10 with (fail)
                    go_cut [70] (fun v70 wc => ∃ (kq : Nat) (x70_21 : Bool), v70 = .bool x70_21 ∧ Aside0 (hopperlaw09_LockRuns.j2 kq a0 l1 x5_2 x7_2 x8_2 ((rd_T41 l1 x8_2).f0) ((rd_T41 l1 x8_2).f1) x70_21 = some r) ∧ Aside0 (kq ≤ k2) ∧ Aside0 (Kd.V (Kd.int .i64) 3 wc w.heap.size (fun k_ => some k_ ≠ (v185 : Value).ownBlock) u5 x5_2) ∧ Aside0 (Kd.R (Kd.int .i64) 3 wc w.heap.size (fun _ => True) v185 x7_2) ∧ Aside0 (Below w.heap.size w wc))
                    case first =>
                      have H := HC22.out
                      clear HC22
                      by_cases c23 : ((rd_T41 l1 x8_2).f0) < 0
                      · rw [if_pos c23] at H
                        have c23b0 : decide (((rd_T41 l1 x8_2).f0) < 0) = true := decide_eq_true c23
                        clear c23
                        (first | rw [c23b0] | (simp only [i64_w, i32_w]; rw [c23b0]) | skip)
                        have H' := Aside0.mk H
                        clear H
                        go_wp2
                        go_meet
                        case rel => exact ⟨_, (true), (by first | rfl | (simp; done) | (simp [*]; done)), H', ⟨by have := HJ3.out; have := HK2.out; first | omega | exact Nat.le_refl _⟩, ⟨by (with_reducible repeat (first | apply Kd.V_alloc | apply Kd.V_drewN | apply Kd.V_drew)); exact HO_5.out⟩, ⟨by (with_reducible repeat (first | apply Kd.R_alloc | apply Kd.R_drewN | apply Kd.R_drew)); exact HO_7.out⟩, ⟨by repeat (first | (with_reducible first | exact HB.out | apply below_alloc | apply pw_below_drewN | apply below_drew1) | exact HB.out)⟩⟩
                      · rw [if_neg c23] at H
                        have c23b0 : decide (((rd_T41 l1 x8_2).f0) < 0) = false := decide_eq_false c23
                        clear c23
                        (first | rw [c23b0] | (simp only [i64_w, i32_w]; rw [c23b0]) | skip)
                        by_cases c24 : ((rd_T41 l1 x8_2).f0) ≥ a0
                        · rw [if_pos c24] at H
                          have c24b0 : decide (a0 ≤ ((rd_T41 l1 x8_2).f0)) = true := decide_eq_true c24
                          clear c24
                          have H' := Aside0.mk H
                          clear H
                          go_wp2
                          go_meet
                          case rel => exact ⟨_, (true), (by first | rfl | (simp; done) | (simp [*]; done)), H', ⟨by have := HJ3.out; have := HK2.out; first | omega | exact Nat.le_refl _⟩, ⟨by (with_reducible repeat (first | apply Kd.V_alloc | apply Kd.V_drewN | apply Kd.V_drew)); exact HO_5.out⟩, ⟨by (with_reducible repeat (first | apply Kd.R_alloc | apply Kd.R_drewN | apply Kd.R_drew)); exact HO_7.out⟩, ⟨by repeat (first | (with_reducible first | exact HB.out | apply below_alloc | apply pw_below_drewN | apply below_drew1) | exact HB.out)⟩⟩
                        · rw [if_neg c24] at H
                          have c24b0 : decide (a0 ≤ ((rd_T41 l1 x8_2).f0)) = false := decide_eq_false c24
                          clear c24
                          by_cases c25 : ((rd_T41 l1 x8_2).f1) = 0
                          · rw [if_pos c25] at H
                            have c25b0 : (((rd_T41 l1 x8_2).f1) == 0) = true := beq_iff_eq.mpr c25
                            have c25b1 : (((rd_T41 l1 x8_2).f1) != 0) = false := bne_eq_false_iff_eq.mpr c25
                            clear c25
                            have H' := Aside0.mk H
                            clear H
                            go_wp2
                            go_meet
                            case rel => exact ⟨_, (true), (by first | rfl | (simp; done) | (simp [*]; done)), H', ⟨by have := HJ3.out; have := HK2.out; first | omega | exact Nat.le_refl _⟩, ⟨by (with_reducible repeat (first | apply Kd.V_alloc | apply Kd.V_drewN | apply Kd.V_drew)); exact HO_5.out⟩, ⟨by (with_reducible repeat (first | apply Kd.R_alloc | apply Kd.R_drewN | apply Kd.R_drew)); exact HO_7.out⟩, ⟨by repeat (first | (with_reducible first | exact HB.out | apply below_alloc | apply pw_below_drewN | apply below_drew1) | exact HB.out)⟩⟩
                          · rw [if_neg c25] at H
                            have c25b0 : (((rd_T41 l1 x8_2).f1) == 0) = false := beq_eq_false_iff_ne.mpr c25
                            have c25b1 : (((rd_T41 l1 x8_2).f1) != 0) = true := bne_iff_ne.mpr c25
                            have H' := Aside0.mk H
                            clear H
                            go_wp2
                            go_meet
                            case rel => exact ⟨_, (decide (((rd_T41 l1 x8_2).f1) < (-1000))), (by first | rfl | (simp; done) | (simp [*]; done)), H', ⟨by have := HJ3.out; have := HK2.out; first | omega | exact Nat.le_refl _⟩, ⟨by (with_reducible repeat (first | apply Kd.V_alloc | apply Kd.V_drewN | apply Kd.V_drew)); exact HO_5.out⟩, ⟨by (with_reducible repeat (first | apply Kd.R_alloc | apply Kd.R_drewN | apply Kd.R_drew)); exact HO_7.out⟩, ⟨by repeat (first | (with_reducible first | exact HB.out | apply below_alloc | apply pw_below_drewN | apply below_drew1) | exact HB.out)⟩⟩
                    case rest =>
                      clear HC22
                      try clear c1
                      try clear p1
                      try clear q1
                      try clear hx1
                      try clear c2
                      try clear p2
                      try clear c4
                      try clear c6
                      try clear c6b0
                      try clear c6b1
                      try clear c7
                      try clear c8
                      try clear c8b0
                      try clear c8b1
                      try clear c11
                      try clear c11b0
                      try clear c11b1
                      try clear c11b2
                      try clear c12
                      try clear c16
                      try clear c16b0
                      try clear c16b1
                      try clear c17
                      try clear c17b0
                      try clear c17b1
                      try clear p18
                      try clear q18
                      try clear hx18
                      try clear c20
                      try clear c20b0
                      try clear c21
                      try clear c21b0
                      try clear c23
                      try clear c23b0
                      try clear c24
                      try clear c24b0
                      try clear c25
                      try clear c25b0
                      try clear c25b1
                      try clear hx188_0
                      try clear hx188_1
                      try clear hx189_0
                      try clear hx189_1
                      try clear p188
                      try clear p189
                      try clear p2
                      try clear q188
                      try clear q189
                      obtain ⟨kq, x70_21, rfl, HA, HJ21, HO_5, HO_7, HB⟩ := hcut
                      cases kq with
                      | zero => exact absurd HA.out (by simp [hopperlaw09_LockRuns.j2])
                      | succ kj21 =>
                        have H := HA.out
                        clear HA
                        simp only [hopperlaw09_LockRuns.j2] at H
                        by_cases c26 : x70_21 = true
                        · subst c26
                          have H1 : (hopperlaw09_LockRuns.l0 kj21 a0 l1 x5_2 x7_2 (wrap64 (x8_2 + 1))) = some r := by rw [if_pos rfl] at H; exact H
                          clear H
                          have H := H1
                          clear H1
                          have H' := Aside0.mk H
                          clear H
                          go_wp2
                          go_roundg kj21
                          case measure => have := HJ3.out; have := HK2.out; have := HJ21.out; omega
                          case rel => exact ⟨(x5_2), (x7_2), (wrap64 (x8_2 + 1)), (by first | rfl | (simp; done) | (simp [*]; done)), H', ⟨by have := HJ3.out; have := HK2.out; have := HJ21.out; omega⟩, ⟨by (with_reducible repeat (first | apply Kd.V_alloc | apply Kd.V_drewN | apply Kd.V_drew)); exact HO_5.out⟩, ⟨by (with_reducible repeat (first | apply Kd.R_alloc | apply Kd.R_drewN | apply Kd.R_drew)); exact HO_7.out⟩, ⟨by repeat (first | (with_reducible first | exact HB.out | apply below_alloc | apply pw_below_drewN | apply below_drew1) | exact HB.out)⟩⟩
                        · replace c26 := Bool.eq_false_iff.mpr c26
                          subst c26
                          have H1 : (if ((rd_T41 l1 x8_2).f1) > 0 then ((lock_Table_Take.f kj21 x5_2 ((rd_T41 l1 x8_2).f0) ((rd_T41 l1 x8_2).f1)).bind fun bt190 => (if 0 ≤ ((rd_T41 l1 x8_2).f0) then (if ((rd_T41 l1 x8_2).f0) < (x7_2.length : Int) then (if ((bt190.2 == 0) != ((rd x7_2 ((rd_T41 l1 x8_2).f0)) == 0)) = true then (some false) else (if bt190.2 = 0 then ((some (x7_2.set (((rd_T41 l1 x8_2).f0) : Int).toNat ((rd_T41 l1 x8_2).f1) : List Int)).bind fun y195 => ((hopperref09_Same.f kj21 bt190.1 y195).bind fun t196 => (if t196 = true then (hopperlaw09_LockRuns.l0 kj21 a0 l1 bt190.1 y195 (wrap64 (x8_2 + 1))) else (some false)))) else ((hopperref09_Same.f kj21 bt190.1 x7_2).bind fun t197 => (if t197 = true then (hopperlaw09_LockRuns.l0 kj21 a0 l1 bt190.1 x7_2 (wrap64 (x8_2 + 1))) else (some false))))) else (none)) else (none))) else ((lock_Table_Give.f kj21 x5_2 ((rd_T41 l1 x8_2).f0) (wrap64 (-((rd_T41 l1 x8_2).f1)))).bind fun bt198 => (if 0 ≤ ((rd_T41 l1 x8_2).f0) then (if ((rd_T41 l1 x8_2).f0) < (x7_2.length : Int) then (if ((bt198.2 == 0) != ((rd x7_2 ((rd_T41 l1 x8_2).f0)) == (wrap64 (-((rd_T41 l1 x8_2).f1))))) = true then (some false) else (if bt198.2 = 0 then ((some (x7_2.set (((rd_T41 l1 x8_2).f0) : Int).toNat 0 : List Int)).bind fun y203 => ((hopperref09_Same.f kj21 bt198.1 y203).bind fun t204 => (if t204 = true then (hopperlaw09_LockRuns.l0 kj21 a0 l1 bt198.1 y203 (wrap64 (x8_2 + 1))) else (some false)))) else ((hopperref09_Same.f kj21 bt198.1 x7_2).bind fun t205 => (if t205 = true then (hopperlaw09_LockRuns.l0 kj21 a0 l1 bt198.1 x7_2 (wrap64 (x8_2 + 1))) else (some false))))) else (none)) else (none)))) = some r := by rw [if_neg (show ¬ (false = true) by decide)] at H; exact H
                          clear H
                          have H := H1
                          clear H1
                          by_cases c27 : ((rd_T41 l1 x8_2).f1) > 0
                          · rw [if_pos c27] at H
                            have c27b0 : decide (0 < ((rd_T41 l1 x8_2).f1)) = true := decide_eq_true c27
                            clear c27
                            replace H := Option.bind_eq_some_iff.mp H
                            obtain ⟨⟨t190, t193⟩, A280, H⟩ := H
                            replace H : (if 0 ≤ ((rd_T41 l1 x8_2).f0) then (if ((rd_T41 l1 x8_2).f0) < (x7_2.length : Int) then (if ((t193 == 0) != ((rd x7_2 ((rd_T41 l1 x8_2).f0)) == 0)) = true then (some false) else (if t193 = 0 then ((some (x7_2.set (((rd_T41 l1 x8_2).f0) : Int).toNat ((rd_T41 l1 x8_2).f1) : List Int)).bind fun y195 => ((hopperref09_Same.f kj21 t190 y195).bind fun t196 => (if t196 = true then (hopperlaw09_LockRuns.l0 kj21 a0 l1 t190 y195 (wrap64 (x8_2 + 1))) else (some false)))) else ((hopperref09_Same.f kj21 t190 x7_2).bind fun t197 => (if t197 = true then (hopperlaw09_LockRuns.l0 kj21 a0 l1 t190 x7_2 (wrap64 (x8_2 + 1))) else (some false))))) else (none)) else (none)) = some r := H
                            have A28 := Aside0.mk A280
                            clear A280
                            by_cases c29 : 0 ≤ ((rd_T41 l1 x8_2).f0)
                            · rw [if_pos c29] at H
                              have c29b0 : decide (0 ≤ ((rd_T41 l1 x8_2).f0)) = true := decide_eq_true c29
                              clear c29
                              by_cases c30 : ((rd_T41 l1 x8_2).f0) < (x7_2.length : Int)
                              · rw [if_pos c30] at H
                                have c30b0 : decide (((rd_T41 l1 x8_2).f0) < (x7_2.length : Int)) = true := decide_eq_true c30
                                clear c30
                                by_cases c31 : ((t193 == 0) != ((rd x7_2 ((rd_T41 l1 x8_2).f0)) == 0)) = true
                                · rw [if_pos c31] at H
                                  have c31b0 : ((t193 == 0) != ((rd x7_2 ((rd_T41 l1 x8_2).f0)) == 0)) = true := c31
                                  (try (have c31b1 : decide ((t193 == 0) = ((rd x7_2 ((rd_T41 l1 x8_2).f0)) == 0)) = false := by simpa using c31))
                                  (try (have c31b2 : ((t193 == 0) == ((rd x7_2 ((rd_T41 l1 x8_2).f0)) == 0)) = false := by simpa using c31))
                                  (try (have c31b3 : ¬ ((t193 == 0) = ((rd x7_2 ((rd_T41 l1 x8_2).f0)) == 0)) := by simpa using c31))
                                  clear c31
                                  obtain rfl := Option.some.inj H
                                  obtain ⟨Ao32, co32, eo32⟩ := Kd.V_slice HO_5.out
                                  subst eo32
                                  go_wp2_with (first | ((with_reducible refine gate_callee (f := 8) rfl ?_); refine goesL_ (some 77) rfl rfl Try.func8 (by kernel_rfl) rfl #[.slice Ao32 x5_2.length co32, .int .i64 ((rd_T41 l1 x8_2).f0), .int .i64 ((rd_T41 l1 x8_2).f1)] rfl (by (try simp only [List.map_toArray, List.map_cons, List.map_nil]); first | done | rfl | (simp only [List.length_drop, List.length_take]; rfl)) ?_; (with_reducible refine (lock_Table_Take.calls kj21 (fun k_ => some k_ ≠ (v185 : Value).ownBlock) _ _ x5_2 ((rd_T41 l1 x8_2).f0) ((rd_T41 l1 x8_2).f1) t190 t193 _ ?side1 A28.out).mono ?_); (case side1 => exact HO_5.out); rintro e w33 ⟨v191, rfl, ho0, hb⟩; refine ⟨_, rfl, ?_⟩; have n0_ := Aside0.mk (Kd.V_below (by (with_reducible repeat (first | apply Kd.V_alloc | apply Kd.V_drewN | apply Kd.V_drew)); exact HO_5.out) hb); have n1_ := Aside0.mk (Kd.R_below (by (with_reducible repeat (first | apply Kd.R_alloc | apply Kd.R_drewN | apply Kd.R_drew)); exact HO_7.out) hb); have n2_ := Aside0.mk (Kd.V_lower (Kd.V_mono (ok' := fun k_ => some k_ ≠ (v185 : Value).ownBlock) ho0 (fun k_ hk_ => Or.elim hk_ (fun hs_ => hs_) (fun hn_ => (Kd.fresh' (Kd.R_lt (by (with_reducible repeat (first | apply Kd.R_alloc | apply Kd.R_drewN | apply Kd.R_drew)); exact HO_7.out)) k_ hn_)))) (below_size (by repeat (first | (with_reducible first | exact HB.out | apply below_alloc | apply pw_below_drewN | apply below_drew1) | exact HB.out)))); have n3_ := Aside0.mk (below_step (by repeat (first | (with_reducible first | exact HB.out | apply below_alloc | apply pw_below_drewN | apply below_drew1) | exact HB.out)) hb); clear HO_5; clear HO_7; clear HB; have HO_5 := n0_; have HO_7 := n1_; have HO192 := n2_; have HB := n3_; clear n0_ n1_ n2_ n3_; (try clear hb); (try clear hb2); (try clear hk); (try clear hi); (try clear ho0); obtain ⟨Ao34, co34, eo34⟩ := Kd.R_slice HO_7.out; subst eo34; have p194 : 0 ≤ (((rd_T41 l1 x8_2).f0) : Int) := of_decide_eq_true (by first | (with_reducible assumption) | assumption); have q194 : ((rd_T41 l1 x8_2).f0) < (x7_2.length : Int) := of_decide_eq_true (by first | (with_reducible assumption) | assumption); obtain ⟨ad194, e194, hx194_0⟩ := Kd.at_int (Kd.R_reads' HO_7.out).2.2 ((rd_T41 l1 x8_2).f0) p194 q194; cases e194; replace p194 := eq_true p194; replace q194 := eq_true q194))
                                  go_ret
                                  exact ⟨by first | rfl | (simp [errW_none, errW_some] <;> rfl) | (simp [*, errW_none, errW_some] <;> rfl), by repeat (first | (with_reducible first | exact HB.out | apply below_alloc | apply pw_below_drewN | apply below_drew1) | exact HB.out)⟩
                                · rw [if_neg c31] at H
                                  have c31b0 : ((t193 == 0) != ((rd x7_2 ((rd_T41 l1 x8_2).f0)) == 0)) = false := by simpa using c31
                                  (try (have c31b1 : decide ((t193 == 0) = ((rd x7_2 ((rd_T41 l1 x8_2).f0)) == 0)) = true := by simpa using c31))
                                  (try (have c31b2 : ((t193 == 0) == ((rd x7_2 ((rd_T41 l1 x8_2).f0)) == 0)) = true := by simpa using c31))
                                  clear c31
                                  by_cases c35 : t193 = 0
                                  · rw [if_pos c35] at H
                                    have c35b0 : (t193 == 0) = true := beq_iff_eq.mpr c35
                                    (try (have c35x : ((rd x7_2 ((rd_T41 l1 x8_2).f0)) == 0) = true := by simpa [c35b0] using c31b0))
                                    have c35b1 : (t193 != 0) = false := bne_eq_false_iff_eq.mpr c35
                                    clear c35
                                    obtain ⟨y195, hy195⟩ : ∃ y_ : List Int, y_ = (x7_2.set (((rd_T41 l1 x8_2).f0) : Int).toNat ((rd_T41 l1 x8_2).f1)) := ⟨_, rfl⟩
                                    replace H : ((hopperref09_Same.f kj21 t190 y195).bind fun t196 => (if t196 = true then (hopperlaw09_LockRuns.l0 kj21 a0 l1 t190 y195 (wrap64 (x8_2 + 1))) else (some false))) = some r := by first | (rw [hy195]; with_reducible exact H) | (have H2_ := (Option.bind_some _ _).symm.trans H; rw [hy195]; with_reducible exact H2_) | (have H2_ := (Option.bind_some _ _).symm.trans H; with_reducible exact H2_) | with_reducible exact H | (rw [hy195]; exact H) | exact H
                                    have Ny195 := Aside0.mk hy195
                                    clear hy195
                                    replace H := Option.bind_eq_some_iff.mp H
                                    obtain ⟨t196, A370, H⟩ := H
                                    replace H : (if t196 = true then (hopperlaw09_LockRuns.l0 kj21 a0 l1 t190 y195 (wrap64 (x8_2 + 1))) else (some false)) = some r := H
                                    have A37 := Aside0.mk A370
                                    clear A370
                                    by_cases c38 : t196 = true
                                    · subst c38
                                      have H1 : (hopperlaw09_LockRuns.l0 kj21 a0 l1 t190 y195 (wrap64 (x8_2 + 1))) = some r := by rw [if_pos rfl] at H; exact H
                                      clear H
                                      have H := H1
                                      clear H1
                                      have H' := Aside0.mk H
                                      clear H
                                      obtain ⟨Ao39, co39, eo39⟩ := Kd.V_slice HO_5.out
                                      subst eo39
                                      go_wp2_with (first | ((with_reducible refine gate_callee (f := 8) rfl ?_); refine goesL_ (some 77) rfl rfl Try.func8 (by kernel_rfl) rfl #[.slice Ao39 x5_2.length co39, .int .i64 ((rd_T41 l1 x8_2).f0), .int .i64 ((rd_T41 l1 x8_2).f1)] rfl (by (try simp only [List.map_toArray, List.map_cons, List.map_nil]); first | done | rfl | (simp only [List.length_drop, List.length_take]; rfl)) ?_; (with_reducible refine (lock_Table_Take.calls kj21 (fun k_ => some k_ ≠ (v185 : Value).ownBlock) _ _ x5_2 ((rd_T41 l1 x8_2).f0) ((rd_T41 l1 x8_2).f1) t190 t193 _ ?side1 A28.out).mono ?_); (case side1 => exact HO_5.out); rintro e w40 ⟨v191, rfl, ho0, hb⟩; refine ⟨_, rfl, ?_⟩; have n0_ := Aside0.mk (Kd.V_below (by (with_reducible repeat (first | apply Kd.V_alloc | apply Kd.V_drewN | apply Kd.V_drew)); exact HO_5.out) hb); have n1_ := Aside0.mk (Kd.R_below (by (with_reducible repeat (first | apply Kd.R_alloc | apply Kd.R_drewN | apply Kd.R_drew)); exact HO_7.out) hb); have n2_ := Aside0.mk (Kd.V_lower (Kd.V_mono (ok' := fun k_ => some k_ ≠ (v185 : Value).ownBlock) ho0 (fun k_ hk_ => Or.elim hk_ (fun hs_ => hs_) (fun hn_ => (Kd.fresh' (Kd.R_lt (by (with_reducible repeat (first | apply Kd.R_alloc | apply Kd.R_drewN | apply Kd.R_drew)); exact HO_7.out)) k_ hn_)))) (below_size (by repeat (first | (with_reducible first | exact HB.out | apply below_alloc | apply pw_below_drewN | apply below_drew1) | exact HB.out)))); have n3_ := Aside0.mk (below_step (by repeat (first | (with_reducible first | exact HB.out | apply below_alloc | apply pw_below_drewN | apply below_drew1) | exact HB.out)) hb); clear HO_5; clear HO_7; clear HB; have HO_5 := n0_; have HO_7 := n1_; have HO192 := n2_; have HB := n3_; clear n0_ n1_ n2_ n3_; (try clear hb); (try clear hb2); (try clear hk); (try clear hi); (try clear ho0); obtain ⟨Ao41, co41, eo41⟩ := Kd.R_slice HO_7.out; subst eo41; have p194 : 0 ≤ (((rd_T41 l1 x8_2).f0) : Int) := of_decide_eq_true (by first | (with_reducible assumption) | assumption); have q194 : ((rd_T41 l1 x8_2).f0) < (x7_2.length : Int) := of_decide_eq_true (by first | (with_reducible assumption) | assumption); obtain ⟨ad194, e194, hx194_0⟩ := Kd.at_int (Kd.R_reads' HO_7.out).2.2 ((rd_T41 l1 x8_2).f0) p194 q194; cases e194; replace p194 := eq_true p194; replace q194 := eq_true q194; have p36 : 0 ≤ (((rd_T41 l1 x8_2).f0) : Int) := of_decide_eq_true (by first | (with_reducible assumption) | assumption); have q36 : (((rd_T41 l1 x8_2).f0) : Int) < ((x7_2.length : Int) : Int) := of_decide_eq_true (by first | (with_reducible assumption) | assumption); obtain ⟨go36, co36, eo36, gb36, gl36, cl36, HG36⟩ := Kd.R_form HO_7.out (by omega); (first | cases eo36 | (injection eo36 with ea_ en_ ec_; (first | subst ea_ | (injection ea_ with ea_; subst ea_)); subst ec_; clear en_)); have GB36 := Aside0.mk gb36; have GG36 := Aside0.mk HG36; clear gb36 gl36 HG36; (first | simp only [add_plain] at hx194_0 | skip); obtain ⟨hx36_0, hf36_0⟩ := Kd.R_celln 0 HO_7.out (((rd_T41 l1 x8_2).f0) : Int) p36 q36; replace p36 := eq_true p36; replace q36 := eq_true q36; obtain ⟨hy42_, hz42_⟩ := Kd.R_celln 0 HO_7.out (((rd_T41 l1 x8_2).f0) : Int) (of_decide_eq_true (by first | (with_reducible assumption) | assumption)) (of_decide_eq_true (by first | (with_reducible assumption) | assumption)); have HP42 := Kd.R_putg HO_7.out (((rd_T41 l1 x8_2).f0) : Int) ((rd_T41 l1 x8_2).f1)) | ((with_reducible refine gate_store (t := 3) (p := 93) rfl ?_); refine store_event (t := 3) (p := 93) (v := ?vo_w43) (w1 := (w40.setCell ⟨go36, (((rd_T41 l1 x8_2).f0) : Int).toNat, none⟩ (.int .i64 ((rd_T41 l1 x8_2).f1)))) ?hg ?ho ?hn ?hr ?_; (case ho => rfl); (case hg => rfl); (case hn => rfl); (case hr => first | (go_simp; done) | (go_simp; rfl)); intro w43 hw; have hg : w40.grownBy w43 (some go36) := (by rw [hw]; exact HP42.2); have hp_ : Kd.R (Kd.int .i64) 3 w43 w.heap.size (fun _ => True) (.slice (some ⟨go36, 0, none⟩) x7_2.length co41) y195 := (by rw [hw, Ny195.out]; exact HP42.1); clear HP42; have n0_ := Aside0.mk (Kd.V_afterv (v := (.slice (some ⟨go36, 0, none⟩) x7_2.length co41)) (v1 := (.slice (some ⟨go36, 0, none⟩) x7_2.length co41)) (ok := (fun _ => True)) (by (with_reducible repeat (first | apply Kd.V_alloc | apply Kd.V_drewN | apply Kd.V_drew)); exact Kd.V_mono HO_5.out (fun _ hk => ⟨trivial, hk⟩)) hg (.inl rfl)); have n1_ := Aside0.mk (hp_); have n2_ := Aside0.mk (Kd.V_afterv (v := (.slice (some ⟨go36, 0, none⟩) x7_2.length co41)) (v1 := (.slice (some ⟨go36, 0, none⟩) x7_2.length co41)) (ok := (fun _ => True)) (by (with_reducible repeat (first | apply Kd.V_alloc | apply Kd.V_drewN | apply Kd.V_drew)); exact Kd.V_mono HO192.out (fun _ hk => ⟨trivial, hk⟩)) hg (.inl rfl)); have n3_ := Aside0.mk ((by rw [hw]; exact below_set (HB.out) GB36.out : Below w.heap.size w w43)); clear HO_5; clear HO_7; clear HO192; clear HB; have HO_5 := n0_; have HO_7 := n1_; have HO192 := n2_; have HB := n3_; clear n0_ n1_ n2_ n3_; clear hg hw hp_; obtain ⟨Ao44, co44, eo44⟩ := Kd.V_slice HO192.out; subst eo44) | ((with_reducible refine gate_callee (f := 14) rfl ?_); refine goesL_ (some 121) rfl rfl Try.func14 (by kernel_rfl) rfl #[.slice Ao44 t190.length co44, .slice (some ⟨go36, 0, none⟩) y195.length co41] rfl (by (try simp only [List.map_toArray, List.map_cons, List.map_nil]); first | done | (rw [show y195.length = x7_2.length from (Kd.R_reads' HO_7.out).1.symm] <;> rfl) | rfl | (simp only [List.length_drop, List.length_take]; rfl)) ?_; (with_reducible refine (hopperref09_Same.calls kj21 _ _ t190 _ _ y195 true _ ?side1 ?side2 ?side3 ?side4 A37.out).mono ?_); (case side1 => repeat (first | exact (Kd.V_reads' HO192.out).2.2 | (with_reducible refine Kd.C_alloc ?_ _) | (with_reducible refine Kd.C_drewN ?_ _) | (with_reducible refine Kd.C_drew ?_))); (case side2 => exact (Kd.V_reads' HO192.out).2.1); (case side3 => repeat (first | exact (Kd.R_reads' HO_7.out).2.2 | (with_reducible refine Kd.C_alloc ?_ _) | (with_reducible refine Kd.C_drewN ?_ _) | (with_reducible refine Kd.C_drew ?_))); (case side4 => rw [show y195.length = x7_2.length from (Kd.R_reads' HO_7.out).1.symm]; exact (Kd.R_reads' HO_7.out).2.1); rintro e w' ⟨rfl, ⟨nd, rfl⟩⟩; refine ⟨_, rfl, ?_⟩))
                                      go_roundg kj21
                                      case measure => have := HJ3.out; have := HK2.out; have := HJ21.out; omega
                                      case rel => exact ⟨(t190), (y195), (wrap64 (x8_2 + 1)), (by first | rfl | (simp; done) | (simp [*]; done)), H', ⟨by have := HJ3.out; have := HK2.out; have := HJ21.out; omega⟩, ⟨by (with_reducible repeat (first | apply Kd.V_alloc | apply Kd.V_drewN | apply Kd.V_drew)); exact Kd.V_mono HO192.out (fun _ hk => hk.2)⟩, ⟨by (with_reducible repeat (first | apply Kd.R_alloc | apply Kd.R_drewN | apply Kd.R_drew)); exact HO_7.out⟩, ⟨by repeat (first | (with_reducible first | exact HB.out | apply below_alloc | apply pw_below_drewN | apply below_drew1) | exact HB.out)⟩⟩
                                    · replace c38 := Bool.eq_false_iff.mpr c38
                                      subst c38
                                      have H1 : (some false) = some r := by rw [if_neg (show ¬ (false = true) by decide)] at H; exact H
                                      clear H
                                      have H := H1
                                      clear H1
                                      obtain rfl := Option.some.inj H
                                      obtain ⟨Ao45, co45, eo45⟩ := Kd.V_slice HO_5.out
                                      subst eo45
                                      go_wp2_with (first | ((with_reducible refine gate_callee (f := 8) rfl ?_); refine goesL_ (some 77) rfl rfl Try.func8 (by kernel_rfl) rfl #[.slice Ao45 x5_2.length co45, .int .i64 ((rd_T41 l1 x8_2).f0), .int .i64 ((rd_T41 l1 x8_2).f1)] rfl (by (try simp only [List.map_toArray, List.map_cons, List.map_nil]); first | done | rfl | (simp only [List.length_drop, List.length_take]; rfl)) ?_; (with_reducible refine (lock_Table_Take.calls kj21 (fun k_ => some k_ ≠ (v185 : Value).ownBlock) _ _ x5_2 ((rd_T41 l1 x8_2).f0) ((rd_T41 l1 x8_2).f1) t190 t193 _ ?side1 A28.out).mono ?_); (case side1 => exact HO_5.out); rintro e w46 ⟨v191, rfl, ho0, hb⟩; refine ⟨_, rfl, ?_⟩; have n0_ := Aside0.mk (Kd.V_below (by (with_reducible repeat (first | apply Kd.V_alloc | apply Kd.V_drewN | apply Kd.V_drew)); exact HO_5.out) hb); have n1_ := Aside0.mk (Kd.R_below (by (with_reducible repeat (first | apply Kd.R_alloc | apply Kd.R_drewN | apply Kd.R_drew)); exact HO_7.out) hb); have n2_ := Aside0.mk (Kd.V_lower (Kd.V_mono (ok' := fun k_ => some k_ ≠ (v185 : Value).ownBlock) ho0 (fun k_ hk_ => Or.elim hk_ (fun hs_ => hs_) (fun hn_ => (Kd.fresh' (Kd.R_lt (by (with_reducible repeat (first | apply Kd.R_alloc | apply Kd.R_drewN | apply Kd.R_drew)); exact HO_7.out)) k_ hn_)))) (below_size (by repeat (first | (with_reducible first | exact HB.out | apply below_alloc | apply pw_below_drewN | apply below_drew1) | exact HB.out)))); have n3_ := Aside0.mk (below_step (by repeat (first | (with_reducible first | exact HB.out | apply below_alloc | apply pw_below_drewN | apply below_drew1) | exact HB.out)) hb); clear HO_5; clear HO_7; clear HB; have HO_5 := n0_; have HO_7 := n1_; have HO192 := n2_; have HB := n3_; clear n0_ n1_ n2_ n3_; (try clear hb); (try clear hb2); (try clear hk); (try clear hi); (try clear ho0); obtain ⟨Ao47, co47, eo47⟩ := Kd.R_slice HO_7.out; subst eo47; have p194 : 0 ≤ (((rd_T41 l1 x8_2).f0) : Int) := of_decide_eq_true (by first | (with_reducible assumption) | assumption); have q194 : ((rd_T41 l1 x8_2).f0) < (x7_2.length : Int) := of_decide_eq_true (by first | (with_reducible assumption) | assumption); obtain ⟨ad194, e194, hx194_0⟩ := Kd.at_int (Kd.R_reads' HO_7.out).2.2 ((rd_T41 l1 x8_2).f0) p194 q194; cases e194; replace p194 := eq_true p194; replace q194 := eq_true q194; have p36 : 0 ≤ (((rd_T41 l1 x8_2).f0) : Int) := of_decide_eq_true (by first | (with_reducible assumption) | assumption); have q36 : (((rd_T41 l1 x8_2).f0) : Int) < ((x7_2.length : Int) : Int) := of_decide_eq_true (by first | (with_reducible assumption) | assumption); obtain ⟨go36, co36, eo36, gb36, gl36, cl36, HG36⟩ := Kd.R_form HO_7.out (by omega); (first | cases eo36 | (injection eo36 with ea_ en_ ec_; (first | subst ea_ | (injection ea_ with ea_; subst ea_)); subst ec_; clear en_)); have GB36 := Aside0.mk gb36; have GG36 := Aside0.mk HG36; clear gb36 gl36 HG36; (first | simp only [add_plain] at hx194_0 | skip); obtain ⟨hx36_0, hf36_0⟩ := Kd.R_celln 0 HO_7.out (((rd_T41 l1 x8_2).f0) : Int) p36 q36; replace p36 := eq_true p36; replace q36 := eq_true q36; obtain ⟨hy48_, hz48_⟩ := Kd.R_celln 0 HO_7.out (((rd_T41 l1 x8_2).f0) : Int) (of_decide_eq_true (by first | (with_reducible assumption) | assumption)) (of_decide_eq_true (by first | (with_reducible assumption) | assumption)); have HP48 := Kd.R_putg HO_7.out (((rd_T41 l1 x8_2).f0) : Int) ((rd_T41 l1 x8_2).f1)) | ((with_reducible refine gate_store (t := 3) (p := 93) rfl ?_); refine store_event (t := 3) (p := 93) (v := ?vo_w49) (w1 := (w46.setCell ⟨go36, (((rd_T41 l1 x8_2).f0) : Int).toNat, none⟩ (.int .i64 ((rd_T41 l1 x8_2).f1)))) ?hg ?ho ?hn ?hr ?_; (case ho => rfl); (case hg => rfl); (case hn => rfl); (case hr => first | (go_simp; done) | (go_simp; rfl)); intro w49 hw; have hg : w46.grownBy w49 (some go36) := (by rw [hw]; exact HP48.2); have hp_ : Kd.R (Kd.int .i64) 3 w49 w.heap.size (fun _ => True) (.slice (some ⟨go36, 0, none⟩) x7_2.length co47) y195 := (by rw [hw, Ny195.out]; exact HP48.1); clear HP48; have n0_ := Aside0.mk (Kd.V_afterv (v := (.slice (some ⟨go36, 0, none⟩) x7_2.length co47)) (v1 := (.slice (some ⟨go36, 0, none⟩) x7_2.length co47)) (ok := (fun _ => True)) (by (with_reducible repeat (first | apply Kd.V_alloc | apply Kd.V_drewN | apply Kd.V_drew)); exact Kd.V_mono HO_5.out (fun _ hk => ⟨trivial, hk⟩)) hg (.inl rfl)); have n1_ := Aside0.mk (hp_); have n2_ := Aside0.mk (Kd.V_afterv (v := (.slice (some ⟨go36, 0, none⟩) x7_2.length co47)) (v1 := (.slice (some ⟨go36, 0, none⟩) x7_2.length co47)) (ok := (fun _ => True)) (by (with_reducible repeat (first | apply Kd.V_alloc | apply Kd.V_drewN | apply Kd.V_drew)); exact Kd.V_mono HO192.out (fun _ hk => ⟨trivial, hk⟩)) hg (.inl rfl)); have n3_ := Aside0.mk ((by rw [hw]; exact below_set (HB.out) GB36.out : Below w.heap.size w w49)); clear HO_5; clear HO_7; clear HO192; clear HB; have HO_5 := n0_; have HO_7 := n1_; have HO192 := n2_; have HB := n3_; clear n0_ n1_ n2_ n3_; clear hg hw hp_; obtain ⟨Ao50, co50, eo50⟩ := Kd.V_slice HO192.out; subst eo50) | ((with_reducible refine gate_callee (f := 14) rfl ?_); refine goesL_ (some 121) rfl rfl Try.func14 (by kernel_rfl) rfl #[.slice Ao50 t190.length co50, .slice (some ⟨go36, 0, none⟩) y195.length co47] rfl (by (try simp only [List.map_toArray, List.map_cons, List.map_nil]); first | done | (rw [show y195.length = x7_2.length from (Kd.R_reads' HO_7.out).1.symm] <;> rfl) | rfl | (simp only [List.length_drop, List.length_take]; rfl)) ?_; (with_reducible refine (hopperref09_Same.calls kj21 _ _ t190 _ _ y195 false _ ?side1 ?side2 ?side3 ?side4 A37.out).mono ?_); (case side1 => repeat (first | exact (Kd.V_reads' HO192.out).2.2 | (with_reducible refine Kd.C_alloc ?_ _) | (with_reducible refine Kd.C_drewN ?_ _) | (with_reducible refine Kd.C_drew ?_))); (case side2 => exact (Kd.V_reads' HO192.out).2.1); (case side3 => repeat (first | exact (Kd.R_reads' HO_7.out).2.2 | (with_reducible refine Kd.C_alloc ?_ _) | (with_reducible refine Kd.C_drewN ?_ _) | (with_reducible refine Kd.C_drew ?_))); (case side4 => rw [show y195.length = x7_2.length from (Kd.R_reads' HO_7.out).1.symm]; exact (Kd.R_reads' HO_7.out).2.1); rintro e w' ⟨rfl, ⟨nd, rfl⟩⟩; refine ⟨_, rfl, ?_⟩))
                                      go_ret
                                      exact ⟨by first | rfl | (simp [errW_none, errW_some] <;> rfl) | (simp [*, errW_none, errW_some] <;> rfl), by repeat (first | (with_reducible first | exact HB.out | apply below_alloc | apply pw_below_drewN | apply below_drew1) | exact HB.out)⟩
                                  · rw [if_neg c35] at H
                                    have c35b0 : (t193 == 0) = false := beq_eq_false_iff_ne.mpr c35
                                    (try (have c35x : ((rd x7_2 ((rd_T41 l1 x8_2).f0)) == 0) = false := by simpa [c35b0] using c31b0))
                                    have c35b1 : (t193 != 0) = true := bne_iff_ne.mpr c35
                                    replace H := Option.bind_eq_some_iff.mp H
                                    obtain ⟨t197, A510, H⟩ := H
                                    replace H : (if t197 = true then (hopperlaw09_LockRuns.l0 kj21 a0 l1 t190 x7_2 (wrap64 (x8_2 + 1))) else (some false)) = some r := H
                                    have A51 := Aside0.mk A510
                                    clear A510
                                    by_cases c52 : t197 = true
                                    · subst c52
                                      have H1 : (hopperlaw09_LockRuns.l0 kj21 a0 l1 t190 x7_2 (wrap64 (x8_2 + 1))) = some r := by rw [if_pos rfl] at H; exact H
                                      clear H
                                      have H := H1
                                      clear H1
                                      have H' := Aside0.mk H
                                      clear H
                                      obtain ⟨Ao53, co53, eo53⟩ := Kd.V_slice HO_5.out
                                      subst eo53
                                      go_wp2_with (first | ((with_reducible refine gate_callee (f := 8) rfl ?_); refine goesL_ (some 77) rfl rfl Try.func8 (by kernel_rfl) rfl #[.slice Ao53 x5_2.length co53, .int .i64 ((rd_T41 l1 x8_2).f0), .int .i64 ((rd_T41 l1 x8_2).f1)] rfl (by (try simp only [List.map_toArray, List.map_cons, List.map_nil]); first | done | rfl | (simp only [List.length_drop, List.length_take]; rfl)) ?_; (with_reducible refine (lock_Table_Take.calls kj21 (fun k_ => some k_ ≠ (v185 : Value).ownBlock) _ _ x5_2 ((rd_T41 l1 x8_2).f0) ((rd_T41 l1 x8_2).f1) t190 t193 _ ?side1 A28.out).mono ?_); (case side1 => exact HO_5.out); rintro e w54 ⟨v191, rfl, ho0, hb⟩; refine ⟨_, rfl, ?_⟩; have n0_ := Aside0.mk (Kd.V_below (by (with_reducible repeat (first | apply Kd.V_alloc | apply Kd.V_drewN | apply Kd.V_drew)); exact HO_5.out) hb); have n1_ := Aside0.mk (Kd.R_below (by (with_reducible repeat (first | apply Kd.R_alloc | apply Kd.R_drewN | apply Kd.R_drew)); exact HO_7.out) hb); have n2_ := Aside0.mk (Kd.V_lower (Kd.V_mono (ok' := fun k_ => some k_ ≠ (v185 : Value).ownBlock) ho0 (fun k_ hk_ => Or.elim hk_ (fun hs_ => hs_) (fun hn_ => (Kd.fresh' (Kd.R_lt (by (with_reducible repeat (first | apply Kd.R_alloc | apply Kd.R_drewN | apply Kd.R_drew)); exact HO_7.out)) k_ hn_)))) (below_size (by repeat (first | (with_reducible first | exact HB.out | apply below_alloc | apply pw_below_drewN | apply below_drew1) | exact HB.out)))); have n3_ := Aside0.mk (below_step (by repeat (first | (with_reducible first | exact HB.out | apply below_alloc | apply pw_below_drewN | apply below_drew1) | exact HB.out)) hb); clear HO_5; clear HO_7; clear HB; have HO_5 := n0_; have HO_7 := n1_; have HO192 := n2_; have HB := n3_; clear n0_ n1_ n2_ n3_; (try clear hb); (try clear hb2); (try clear hk); (try clear hi); (try clear ho0); obtain ⟨Ao55, co55, eo55⟩ := Kd.R_slice HO_7.out; subst eo55; have p194 : 0 ≤ (((rd_T41 l1 x8_2).f0) : Int) := of_decide_eq_true (by first | (with_reducible assumption) | assumption); have q194 : ((rd_T41 l1 x8_2).f0) < (x7_2.length : Int) := of_decide_eq_true (by first | (with_reducible assumption) | assumption); obtain ⟨ad194, e194, hx194_0⟩ := Kd.at_int (Kd.R_reads' HO_7.out).2.2 ((rd_T41 l1 x8_2).f0) p194 q194; cases e194; replace p194 := eq_true p194; replace q194 := eq_true q194; obtain ⟨Ao56, co56, eo56⟩ := Kd.V_slice HO192.out; subst eo56) | ((with_reducible refine gate_callee (f := 14) rfl ?_); refine goesL_ (some 121) rfl rfl Try.func14 (by kernel_rfl) rfl #[.slice Ao56 t190.length co56, .slice (some ad194) x7_2.length co55] rfl (by (try simp only [List.map_toArray, List.map_cons, List.map_nil]); first | done | rfl | (simp only [List.length_drop, List.length_take]; rfl)) ?_; (with_reducible refine (hopperref09_Same.calls kj21 _ _ t190 _ _ x7_2 true _ ?side1 ?side2 ?side3 ?side4 A51.out).mono ?_); (case side1 => repeat (first | exact (Kd.V_reads' HO192.out).2.2 | (with_reducible refine Kd.C_alloc ?_ _) | (with_reducible refine Kd.C_drewN ?_ _) | (with_reducible refine Kd.C_drew ?_))); (case side2 => exact (Kd.V_reads' HO192.out).2.1); (case side3 => repeat (first | exact (Kd.R_reads' HO_7.out).2.2 | (with_reducible refine Kd.C_alloc ?_ _) | (with_reducible refine Kd.C_drewN ?_ _) | (with_reducible refine Kd.C_drew ?_))); (case side4 => exact (Kd.R_reads' HO_7.out).2.1); rintro e w' ⟨rfl, ⟨nd, rfl⟩⟩; refine ⟨_, rfl, ?_⟩))
                                      go_roundg kj21
                                      case measure => have := HJ3.out; have := HK2.out; have := HJ21.out; omega
                                      case rel => exact ⟨(t190), (x7_2), (wrap64 (x8_2 + 1)), (by first | rfl | (simp; done) | (simp [*]; done)), H', ⟨by have := HJ3.out; have := HK2.out; have := HJ21.out; omega⟩, ⟨by (with_reducible repeat (first | apply Kd.V_alloc | apply Kd.V_drewN | apply Kd.V_drew)); exact HO192.out⟩, ⟨by (with_reducible repeat (first | apply Kd.R_alloc | apply Kd.R_drewN | apply Kd.R_drew)); exact HO_7.out⟩, ⟨by repeat (first | (with_reducible first | exact HB.out | apply below_alloc | apply pw_below_drewN | apply below_drew1) | exact HB.out)⟩⟩
                                    · replace c52 := Bool.eq_false_iff.mpr c52
                                      subst c52
                                      have H1 : (some false) = some r := by rw [if_neg (show ¬ (false = true) by decide)] at H; exact H
                                      clear H
                                      have H := H1
                                      clear H1
                                      obtain rfl := Option.some.inj H
                                      obtain ⟨Ao57, co57, eo57⟩ := Kd.V_slice HO_5.out
                                      subst eo57
                                      go_wp2_with (first | ((with_reducible refine gate_callee (f := 8) rfl ?_); refine goesL_ (some 77) rfl rfl Try.func8 (by kernel_rfl) rfl #[.slice Ao57 x5_2.length co57, .int .i64 ((rd_T41 l1 x8_2).f0), .int .i64 ((rd_T41 l1 x8_2).f1)] rfl (by (try simp only [List.map_toArray, List.map_cons, List.map_nil]); first | done | rfl | (simp only [List.length_drop, List.length_take]; rfl)) ?_; (with_reducible refine (lock_Table_Take.calls kj21 (fun k_ => some k_ ≠ (v185 : Value).ownBlock) _ _ x5_2 ((rd_T41 l1 x8_2).f0) ((rd_T41 l1 x8_2).f1) t190 t193 _ ?side1 A28.out).mono ?_); (case side1 => exact HO_5.out); rintro e w58 ⟨v191, rfl, ho0, hb⟩; refine ⟨_, rfl, ?_⟩; have n0_ := Aside0.mk (Kd.V_below (by (with_reducible repeat (first | apply Kd.V_alloc | apply Kd.V_drewN | apply Kd.V_drew)); exact HO_5.out) hb); have n1_ := Aside0.mk (Kd.R_below (by (with_reducible repeat (first | apply Kd.R_alloc | apply Kd.R_drewN | apply Kd.R_drew)); exact HO_7.out) hb); have n2_ := Aside0.mk (Kd.V_lower (Kd.V_mono (ok' := fun k_ => some k_ ≠ (v185 : Value).ownBlock) ho0 (fun k_ hk_ => Or.elim hk_ (fun hs_ => hs_) (fun hn_ => (Kd.fresh' (Kd.R_lt (by (with_reducible repeat (first | apply Kd.R_alloc | apply Kd.R_drewN | apply Kd.R_drew)); exact HO_7.out)) k_ hn_)))) (below_size (by repeat (first | (with_reducible first | exact HB.out | apply below_alloc | apply pw_below_drewN | apply below_drew1) | exact HB.out)))); have n3_ := Aside0.mk (below_step (by repeat (first | (with_reducible first | exact HB.out | apply below_alloc | apply pw_below_drewN | apply below_drew1) | exact HB.out)) hb); clear HO_5; clear HO_7; clear HB; have HO_5 := n0_; have HO_7 := n1_; have HO192 := n2_; have HB := n3_; clear n0_ n1_ n2_ n3_; (try clear hb); (try clear hb2); (try clear hk); (try clear hi); (try clear ho0); obtain ⟨Ao59, co59, eo59⟩ := Kd.R_slice HO_7.out; subst eo59; have p194 : 0 ≤ (((rd_T41 l1 x8_2).f0) : Int) := of_decide_eq_true (by first | (with_reducible assumption) | assumption); have q194 : ((rd_T41 l1 x8_2).f0) < (x7_2.length : Int) := of_decide_eq_true (by first | (with_reducible assumption) | assumption); obtain ⟨ad194, e194, hx194_0⟩ := Kd.at_int (Kd.R_reads' HO_7.out).2.2 ((rd_T41 l1 x8_2).f0) p194 q194; cases e194; replace p194 := eq_true p194; replace q194 := eq_true q194; obtain ⟨Ao60, co60, eo60⟩ := Kd.V_slice HO192.out; subst eo60) | ((with_reducible refine gate_callee (f := 14) rfl ?_); refine goesL_ (some 121) rfl rfl Try.func14 (by kernel_rfl) rfl #[.slice Ao60 t190.length co60, .slice (some ad194) x7_2.length co59] rfl (by (try simp only [List.map_toArray, List.map_cons, List.map_nil]); first | done | rfl | (simp only [List.length_drop, List.length_take]; rfl)) ?_; (with_reducible refine (hopperref09_Same.calls kj21 _ _ t190 _ _ x7_2 false _ ?side1 ?side2 ?side3 ?side4 A51.out).mono ?_); (case side1 => repeat (first | exact (Kd.V_reads' HO192.out).2.2 | (with_reducible refine Kd.C_alloc ?_ _) | (with_reducible refine Kd.C_drewN ?_ _) | (with_reducible refine Kd.C_drew ?_))); (case side2 => exact (Kd.V_reads' HO192.out).2.1); (case side3 => repeat (first | exact (Kd.R_reads' HO_7.out).2.2 | (with_reducible refine Kd.C_alloc ?_ _) | (with_reducible refine Kd.C_drewN ?_ _) | (with_reducible refine Kd.C_drew ?_))); (case side4 => exact (Kd.R_reads' HO_7.out).2.1); rintro e w' ⟨rfl, ⟨nd, rfl⟩⟩; refine ⟨_, rfl, ?_⟩))
                                      go_ret
                                      exact ⟨by first | rfl | (simp [errW_none, errW_some] <;> rfl) | (simp [*, errW_none, errW_some] <;> rfl), by repeat (first | (with_reducible first | exact HB.out | apply below_alloc | apply pw_below_drewN | apply below_drew1) | exact HB.out)⟩
                              · rw [if_neg c30] at H
                                exact absurd H (by simp)
                            · rw [if_neg c29] at H
                              exact absurd H (by simp)
                          · rw [if_neg c27] at H
                            have c27b0 : decide (0 < ((rd_T41 l1 x8_2).f1)) = false := decide_eq_false c27
                            clear c27
                            replace H := Option.bind_eq_some_iff.mp H
                            obtain ⟨⟨t198, t201⟩, A610, H⟩ := H
                            replace H : (if 0 ≤ ((rd_T41 l1 x8_2).f0) then (if ((rd_T41 l1 x8_2).f0) < (x7_2.length : Int) then (if ((t201 == 0) != ((rd x7_2 ((rd_T41 l1 x8_2).f0)) == (wrap64 (-((rd_T41 l1 x8_2).f1))))) = true then (some false) else (if t201 = 0 then ((some (x7_2.set (((rd_T41 l1 x8_2).f0) : Int).toNat 0 : List Int)).bind fun y203 => ((hopperref09_Same.f kj21 t198 y203).bind fun t204 => (if t204 = true then (hopperlaw09_LockRuns.l0 kj21 a0 l1 t198 y203 (wrap64 (x8_2 + 1))) else (some false)))) else ((hopperref09_Same.f kj21 t198 x7_2).bind fun t205 => (if t205 = true then (hopperlaw09_LockRuns.l0 kj21 a0 l1 t198 x7_2 (wrap64 (x8_2 + 1))) else (some false))))) else (none)) else (none)) = some r := H
                            have A61 := Aside0.mk A610
                            clear A610
                            by_cases c62 : 0 ≤ ((rd_T41 l1 x8_2).f0)
                            · rw [if_pos c62] at H
                              have c62b0 : decide (0 ≤ ((rd_T41 l1 x8_2).f0)) = true := decide_eq_true c62
                              clear c62
                              by_cases c63 : ((rd_T41 l1 x8_2).f0) < (x7_2.length : Int)
                              · rw [if_pos c63] at H
                                have c63b0 : decide (((rd_T41 l1 x8_2).f0) < (x7_2.length : Int)) = true := decide_eq_true c63
                                clear c63
                                by_cases c64 : ((t201 == 0) != ((rd x7_2 ((rd_T41 l1 x8_2).f0)) == (wrap64 (-((rd_T41 l1 x8_2).f1))))) = true
                                · rw [if_pos c64] at H
                                  have c64b0 : ((t201 == 0) != ((rd x7_2 ((rd_T41 l1 x8_2).f0)) == (wrap64 (-((rd_T41 l1 x8_2).f1))))) = true := c64
                                  (try (have c64b1 : decide ((t201 == 0) = ((rd x7_2 ((rd_T41 l1 x8_2).f0)) == (wrap64 (-((rd_T41 l1 x8_2).f1))))) = false := by simpa using c64))
                                  (try (have c64b2 : ((t201 == 0) == ((rd x7_2 ((rd_T41 l1 x8_2).f0)) == (wrap64 (-((rd_T41 l1 x8_2).f1))))) = false := by simpa using c64))
                                  (try (have c64b3 : ¬ ((t201 == 0) = ((rd x7_2 ((rd_T41 l1 x8_2).f0)) == (wrap64 (-((rd_T41 l1 x8_2).f1))))) := by simpa using c64))
                                  clear c64
                                  obtain rfl := Option.some.inj H
                                  obtain ⟨Ao65, co65, eo65⟩ := Kd.V_slice HO_5.out
                                  subst eo65
                                  go_wp2_with (first | ((with_reducible refine gate_callee (f := 10) rfl ?_); refine goesL_ (some 100) rfl rfl Try.func10 (by kernel_rfl) rfl #[.slice Ao65 x5_2.length co65, .int .i64 ((rd_T41 l1 x8_2).f0), .int .i64 (wrap64 (-((rd_T41 l1 x8_2).f1)))] rfl (by (try simp only [List.map_toArray, List.map_cons, List.map_nil]); first | done | rfl | (simp only [List.length_drop, List.length_take]; rfl)) ?_; (with_reducible refine (lock_Table_Give.calls kj21 (fun k_ => some k_ ≠ (v185 : Value).ownBlock) _ _ x5_2 ((rd_T41 l1 x8_2).f0) (wrap64 (-((rd_T41 l1 x8_2).f1))) t198 t201 _ ?side1 A61.out).mono ?_); (case side1 => exact HO_5.out); rintro e w66 ⟨v199, rfl, ho0, hb⟩; refine ⟨_, rfl, ?_⟩; have n0_ := Aside0.mk (Kd.V_below (by (with_reducible repeat (first | apply Kd.V_alloc | apply Kd.V_drewN | apply Kd.V_drew)); exact HO_5.out) hb); have n1_ := Aside0.mk (Kd.R_below (by (with_reducible repeat (first | apply Kd.R_alloc | apply Kd.R_drewN | apply Kd.R_drew)); exact HO_7.out) hb); have n2_ := Aside0.mk (Kd.V_lower (Kd.V_mono (ok' := fun k_ => some k_ ≠ (v185 : Value).ownBlock) ho0 (fun k_ hk_ => Or.elim hk_ (fun hs_ => hs_) (fun hn_ => (Kd.fresh' (Kd.R_lt (by (with_reducible repeat (first | apply Kd.R_alloc | apply Kd.R_drewN | apply Kd.R_drew)); exact HO_7.out)) k_ hn_)))) (below_size (by repeat (first | (with_reducible first | exact HB.out | apply below_alloc | apply pw_below_drewN | apply below_drew1) | exact HB.out)))); have n3_ := Aside0.mk (below_step (by repeat (first | (with_reducible first | exact HB.out | apply below_alloc | apply pw_below_drewN | apply below_drew1) | exact HB.out)) hb); clear HO_5; clear HO_7; clear HB; have HO_5 := n0_; have HO_7 := n1_; have HO200 := n2_; have HB := n3_; clear n0_ n1_ n2_ n3_; (try clear hb); (try clear hb2); (try clear hk); (try clear hi); (try clear ho0); obtain ⟨Ao67, co67, eo67⟩ := Kd.R_slice HO_7.out; subst eo67; have p202 : 0 ≤ (((rd_T41 l1 x8_2).f0) : Int) := of_decide_eq_true (by first | (with_reducible assumption) | assumption); have q202 : ((rd_T41 l1 x8_2).f0) < (x7_2.length : Int) := of_decide_eq_true (by first | (with_reducible assumption) | assumption); obtain ⟨ad202, e202, hx202_0⟩ := Kd.at_int (Kd.R_reads' HO_7.out).2.2 ((rd_T41 l1 x8_2).f0) p202 q202; cases e202; replace p202 := eq_true p202; replace q202 := eq_true q202))
                                  go_ret
                                  exact ⟨by first | rfl | (simp [errW_none, errW_some] <;> rfl) | (simp [*, errW_none, errW_some] <;> rfl), by repeat (first | (with_reducible first | exact HB.out | apply below_alloc | apply pw_below_drewN | apply below_drew1) | exact HB.out)⟩
                                · rw [if_neg c64] at H
                                  have c64b0 : ((t201 == 0) != ((rd x7_2 ((rd_T41 l1 x8_2).f0)) == (wrap64 (-((rd_T41 l1 x8_2).f1))))) = false := by simpa using c64
                                  (try (have c64b1 : decide ((t201 == 0) = ((rd x7_2 ((rd_T41 l1 x8_2).f0)) == (wrap64 (-((rd_T41 l1 x8_2).f1))))) = true := by simpa using c64))
                                  (try (have c64b2 : ((t201 == 0) == ((rd x7_2 ((rd_T41 l1 x8_2).f0)) == (wrap64 (-((rd_T41 l1 x8_2).f1))))) = true := by simpa using c64))
                                  clear c64
                                  by_cases c68 : t201 = 0
                                  · rw [if_pos c68] at H
                                    have c68b0 : (t201 == 0) = true := beq_iff_eq.mpr c68
                                    (try (have c68x : ((rd x7_2 ((rd_T41 l1 x8_2).f0)) == (wrap64 (-((rd_T41 l1 x8_2).f1)))) = true := by simpa [c68b0] using c64b0))
                                    have c68b1 : (t201 != 0) = false := bne_eq_false_iff_eq.mpr c68
                                    clear c68
                                    obtain ⟨y203, hy203⟩ : ∃ y_ : List Int, y_ = (x7_2.set (((rd_T41 l1 x8_2).f0) : Int).toNat 0) := ⟨_, rfl⟩
                                    replace H : ((hopperref09_Same.f kj21 t198 y203).bind fun t204 => (if t204 = true then (hopperlaw09_LockRuns.l0 kj21 a0 l1 t198 y203 (wrap64 (x8_2 + 1))) else (some false))) = some r := by first | (rw [hy203]; with_reducible exact H) | (have H2_ := (Option.bind_some _ _).symm.trans H; rw [hy203]; with_reducible exact H2_) | (have H2_ := (Option.bind_some _ _).symm.trans H; with_reducible exact H2_) | with_reducible exact H | (rw [hy203]; exact H) | exact H
                                    have Ny203 := Aside0.mk hy203
                                    clear hy203
                                    replace H := Option.bind_eq_some_iff.mp H
                                    obtain ⟨t204, A700, H⟩ := H
                                    replace H : (if t204 = true then (hopperlaw09_LockRuns.l0 kj21 a0 l1 t198 y203 (wrap64 (x8_2 + 1))) else (some false)) = some r := H
                                    have A70 := Aside0.mk A700
                                    clear A700
                                    by_cases c71 : t204 = true
                                    · subst c71
                                      have H1 : (hopperlaw09_LockRuns.l0 kj21 a0 l1 t198 y203 (wrap64 (x8_2 + 1))) = some r := by rw [if_pos rfl] at H; exact H
                                      clear H
                                      have H := H1
                                      clear H1
                                      have H' := Aside0.mk H
                                      clear H
                                      obtain ⟨Ao72, co72, eo72⟩ := Kd.V_slice HO_5.out
                                      subst eo72
                                      go_wp2_with (first | ((with_reducible refine gate_callee (f := 10) rfl ?_); refine goesL_ (some 100) rfl rfl Try.func10 (by kernel_rfl) rfl #[.slice Ao72 x5_2.length co72, .int .i64 ((rd_T41 l1 x8_2).f0), .int .i64 (wrap64 (-((rd_T41 l1 x8_2).f1)))] rfl (by (try simp only [List.map_toArray, List.map_cons, List.map_nil]); first | done | rfl | (simp only [List.length_drop, List.length_take]; rfl)) ?_; (with_reducible refine (lock_Table_Give.calls kj21 (fun k_ => some k_ ≠ (v185 : Value).ownBlock) _ _ x5_2 ((rd_T41 l1 x8_2).f0) (wrap64 (-((rd_T41 l1 x8_2).f1))) t198 t201 _ ?side1 A61.out).mono ?_); (case side1 => exact HO_5.out); rintro e w73 ⟨v199, rfl, ho0, hb⟩; refine ⟨_, rfl, ?_⟩; have n0_ := Aside0.mk (Kd.V_below (by (with_reducible repeat (first | apply Kd.V_alloc | apply Kd.V_drewN | apply Kd.V_drew)); exact HO_5.out) hb); have n1_ := Aside0.mk (Kd.R_below (by (with_reducible repeat (first | apply Kd.R_alloc | apply Kd.R_drewN | apply Kd.R_drew)); exact HO_7.out) hb); have n2_ := Aside0.mk (Kd.V_lower (Kd.V_mono (ok' := fun k_ => some k_ ≠ (v185 : Value).ownBlock) ho0 (fun k_ hk_ => Or.elim hk_ (fun hs_ => hs_) (fun hn_ => (Kd.fresh' (Kd.R_lt (by (with_reducible repeat (first | apply Kd.R_alloc | apply Kd.R_drewN | apply Kd.R_drew)); exact HO_7.out)) k_ hn_)))) (below_size (by repeat (first | (with_reducible first | exact HB.out | apply below_alloc | apply pw_below_drewN | apply below_drew1) | exact HB.out)))); have n3_ := Aside0.mk (below_step (by repeat (first | (with_reducible first | exact HB.out | apply below_alloc | apply pw_below_drewN | apply below_drew1) | exact HB.out)) hb); clear HO_5; clear HO_7; clear HB; have HO_5 := n0_; have HO_7 := n1_; have HO200 := n2_; have HB := n3_; clear n0_ n1_ n2_ n3_; (try clear hb); (try clear hb2); (try clear hk); (try clear hi); (try clear ho0); obtain ⟨Ao74, co74, eo74⟩ := Kd.R_slice HO_7.out; subst eo74; have p202 : 0 ≤ (((rd_T41 l1 x8_2).f0) : Int) := of_decide_eq_true (by first | (with_reducible assumption) | assumption); have q202 : ((rd_T41 l1 x8_2).f0) < (x7_2.length : Int) := of_decide_eq_true (by first | (with_reducible assumption) | assumption); obtain ⟨ad202, e202, hx202_0⟩ := Kd.at_int (Kd.R_reads' HO_7.out).2.2 ((rd_T41 l1 x8_2).f0) p202 q202; cases e202; replace p202 := eq_true p202; replace q202 := eq_true q202; have p69 : 0 ≤ (((rd_T41 l1 x8_2).f0) : Int) := of_decide_eq_true (by first | (with_reducible assumption) | assumption); have q69 : (((rd_T41 l1 x8_2).f0) : Int) < ((x7_2.length : Int) : Int) := of_decide_eq_true (by first | (with_reducible assumption) | assumption); obtain ⟨go69, co69, eo69, gb69, gl69, cl69, HG69⟩ := Kd.R_form HO_7.out (by omega); (first | cases eo69 | (injection eo69 with ea_ en_ ec_; (first | subst ea_ | (injection ea_ with ea_; subst ea_)); subst ec_; clear en_)); have GB69 := Aside0.mk gb69; have GG69 := Aside0.mk HG69; clear gb69 gl69 HG69; (first | simp only [add_plain] at hx202_0 | skip); obtain ⟨hx69_0, hf69_0⟩ := Kd.R_celln 0 HO_7.out (((rd_T41 l1 x8_2).f0) : Int) p69 q69; replace p69 := eq_true p69; replace q69 := eq_true q69; obtain ⟨hy75_, hz75_⟩ := Kd.R_celln 0 HO_7.out (((rd_T41 l1 x8_2).f0) : Int) (of_decide_eq_true (by first | (with_reducible assumption) | assumption)) (of_decide_eq_true (by first | (with_reducible assumption) | assumption)); have HP75 := Kd.R_putg HO_7.out (((rd_T41 l1 x8_2).f0) : Int) 0) | ((with_reducible refine gate_store (t := 3) (p := 117) rfl ?_); refine store_event (t := 3) (p := 117) (v := ?vo_w76) (w1 := (w73.setCell ⟨go69, (((rd_T41 l1 x8_2).f0) : Int).toNat, none⟩ (.int .i64 0))) ?hg ?ho ?hn ?hr ?_; (case ho => rfl); (case hg => rfl); (case hn => rfl); (case hr => first | (go_simp; done) | (go_simp; rfl)); intro w76 hw; have hg : w73.grownBy w76 (some go69) := (by rw [hw]; exact HP75.2); have hp_ : Kd.R (Kd.int .i64) 3 w76 w.heap.size (fun _ => True) (.slice (some ⟨go69, 0, none⟩) x7_2.length co74) y203 := (by rw [hw, Ny203.out]; exact HP75.1); clear HP75; have n0_ := Aside0.mk (Kd.V_afterv (v := (.slice (some ⟨go69, 0, none⟩) x7_2.length co74)) (v1 := (.slice (some ⟨go69, 0, none⟩) x7_2.length co74)) (ok := (fun _ => True)) (by (with_reducible repeat (first | apply Kd.V_alloc | apply Kd.V_drewN | apply Kd.V_drew)); exact Kd.V_mono HO_5.out (fun _ hk => ⟨trivial, hk⟩)) hg (.inl rfl)); have n1_ := Aside0.mk (hp_); have n2_ := Aside0.mk (Kd.V_afterv (v := (.slice (some ⟨go69, 0, none⟩) x7_2.length co74)) (v1 := (.slice (some ⟨go69, 0, none⟩) x7_2.length co74)) (ok := (fun _ => True)) (by (with_reducible repeat (first | apply Kd.V_alloc | apply Kd.V_drewN | apply Kd.V_drew)); exact Kd.V_mono HO200.out (fun _ hk => ⟨trivial, hk⟩)) hg (.inl rfl)); have n3_ := Aside0.mk ((by rw [hw]; exact below_set (HB.out) GB69.out : Below w.heap.size w w76)); clear HO_5; clear HO_7; clear HO200; clear HB; have HO_5 := n0_; have HO_7 := n1_; have HO200 := n2_; have HB := n3_; clear n0_ n1_ n2_ n3_; clear hg hw hp_; obtain ⟨Ao77, co77, eo77⟩ := Kd.V_slice HO200.out; subst eo77) | ((with_reducible refine gate_callee (f := 14) rfl ?_); refine goesL_ (some 121) rfl rfl Try.func14 (by kernel_rfl) rfl #[.slice Ao77 t198.length co77, .slice (some ⟨go69, 0, none⟩) y203.length co74] rfl (by (try simp only [List.map_toArray, List.map_cons, List.map_nil]); first | done | (rw [show y203.length = x7_2.length from (Kd.R_reads' HO_7.out).1.symm] <;> rfl) | rfl | (simp only [List.length_drop, List.length_take]; rfl)) ?_; (with_reducible refine (hopperref09_Same.calls kj21 _ _ t198 _ _ y203 true _ ?side1 ?side2 ?side3 ?side4 A70.out).mono ?_); (case side1 => repeat (first | exact (Kd.V_reads' HO200.out).2.2 | (with_reducible refine Kd.C_alloc ?_ _) | (with_reducible refine Kd.C_drewN ?_ _) | (with_reducible refine Kd.C_drew ?_))); (case side2 => exact (Kd.V_reads' HO200.out).2.1); (case side3 => repeat (first | exact (Kd.R_reads' HO_7.out).2.2 | (with_reducible refine Kd.C_alloc ?_ _) | (with_reducible refine Kd.C_drewN ?_ _) | (with_reducible refine Kd.C_drew ?_))); (case side4 => rw [show y203.length = x7_2.length from (Kd.R_reads' HO_7.out).1.symm]; exact (Kd.R_reads' HO_7.out).2.1); rintro e w' ⟨rfl, ⟨nd, rfl⟩⟩; refine ⟨_, rfl, ?_⟩))
                                      go_roundg kj21
                                      case measure => have := HJ3.out; have := HK2.out; have := HJ21.out; omega
                                      case rel => exact ⟨(t198), (y203), (wrap64 (x8_2 + 1)), (by first | rfl | (simp; done) | (simp [*]; done)), H', ⟨by have := HJ3.out; have := HK2.out; have := HJ21.out; omega⟩, ⟨by (with_reducible repeat (first | apply Kd.V_alloc | apply Kd.V_drewN | apply Kd.V_drew)); exact Kd.V_mono HO200.out (fun _ hk => hk.2)⟩, ⟨by (with_reducible repeat (first | apply Kd.R_alloc | apply Kd.R_drewN | apply Kd.R_drew)); exact HO_7.out⟩, ⟨by repeat (first | (with_reducible first | exact HB.out | apply below_alloc | apply pw_below_drewN | apply below_drew1) | exact HB.out)⟩⟩
                                    · replace c71 := Bool.eq_false_iff.mpr c71
                                      subst c71
                                      have H1 : (some false) = some r := by rw [if_neg (show ¬ (false = true) by decide)] at H; exact H
                                      clear H
                                      have H := H1
                                      clear H1
                                      obtain rfl := Option.some.inj H
                                      obtain ⟨Ao78, co78, eo78⟩ := Kd.V_slice HO_5.out
                                      subst eo78
                                      go_wp2_with (first | ((with_reducible refine gate_callee (f := 10) rfl ?_); refine goesL_ (some 100) rfl rfl Try.func10 (by kernel_rfl) rfl #[.slice Ao78 x5_2.length co78, .int .i64 ((rd_T41 l1 x8_2).f0), .int .i64 (wrap64 (-((rd_T41 l1 x8_2).f1)))] rfl (by (try simp only [List.map_toArray, List.map_cons, List.map_nil]); first | done | rfl | (simp only [List.length_drop, List.length_take]; rfl)) ?_; (with_reducible refine (lock_Table_Give.calls kj21 (fun k_ => some k_ ≠ (v185 : Value).ownBlock) _ _ x5_2 ((rd_T41 l1 x8_2).f0) (wrap64 (-((rd_T41 l1 x8_2).f1))) t198 t201 _ ?side1 A61.out).mono ?_); (case side1 => exact HO_5.out); rintro e w79 ⟨v199, rfl, ho0, hb⟩; refine ⟨_, rfl, ?_⟩; have n0_ := Aside0.mk (Kd.V_below (by (with_reducible repeat (first | apply Kd.V_alloc | apply Kd.V_drewN | apply Kd.V_drew)); exact HO_5.out) hb); have n1_ := Aside0.mk (Kd.R_below (by (with_reducible repeat (first | apply Kd.R_alloc | apply Kd.R_drewN | apply Kd.R_drew)); exact HO_7.out) hb); have n2_ := Aside0.mk (Kd.V_lower (Kd.V_mono (ok' := fun k_ => some k_ ≠ (v185 : Value).ownBlock) ho0 (fun k_ hk_ => Or.elim hk_ (fun hs_ => hs_) (fun hn_ => (Kd.fresh' (Kd.R_lt (by (with_reducible repeat (first | apply Kd.R_alloc | apply Kd.R_drewN | apply Kd.R_drew)); exact HO_7.out)) k_ hn_)))) (below_size (by repeat (first | (with_reducible first | exact HB.out | apply below_alloc | apply pw_below_drewN | apply below_drew1) | exact HB.out)))); have n3_ := Aside0.mk (below_step (by repeat (first | (with_reducible first | exact HB.out | apply below_alloc | apply pw_below_drewN | apply below_drew1) | exact HB.out)) hb); clear HO_5; clear HO_7; clear HB; have HO_5 := n0_; have HO_7 := n1_; have HO200 := n2_; have HB := n3_; clear n0_ n1_ n2_ n3_; (try clear hb); (try clear hb2); (try clear hk); (try clear hi); (try clear ho0); obtain ⟨Ao80, co80, eo80⟩ := Kd.R_slice HO_7.out; subst eo80; have p202 : 0 ≤ (((rd_T41 l1 x8_2).f0) : Int) := of_decide_eq_true (by first | (with_reducible assumption) | assumption); have q202 : ((rd_T41 l1 x8_2).f0) < (x7_2.length : Int) := of_decide_eq_true (by first | (with_reducible assumption) | assumption); obtain ⟨ad202, e202, hx202_0⟩ := Kd.at_int (Kd.R_reads' HO_7.out).2.2 ((rd_T41 l1 x8_2).f0) p202 q202; cases e202; replace p202 := eq_true p202; replace q202 := eq_true q202; have p69 : 0 ≤ (((rd_T41 l1 x8_2).f0) : Int) := of_decide_eq_true (by first | (with_reducible assumption) | assumption); have q69 : (((rd_T41 l1 x8_2).f0) : Int) < ((x7_2.length : Int) : Int) := of_decide_eq_true (by first | (with_reducible assumption) | assumption); obtain ⟨go69, co69, eo69, gb69, gl69, cl69, HG69⟩ := Kd.R_form HO_7.out (by omega); (first | cases eo69 | (injection eo69 with ea_ en_ ec_; (first | subst ea_ | (injection ea_ with ea_; subst ea_)); subst ec_; clear en_)); have GB69 := Aside0.mk gb69; have GG69 := Aside0.mk HG69; clear gb69 gl69 HG69; (first | simp only [add_plain] at hx202_0 | skip); obtain ⟨hx69_0, hf69_0⟩ := Kd.R_celln 0 HO_7.out (((rd_T41 l1 x8_2).f0) : Int) p69 q69; replace p69 := eq_true p69; replace q69 := eq_true q69; obtain ⟨hy81_, hz81_⟩ := Kd.R_celln 0 HO_7.out (((rd_T41 l1 x8_2).f0) : Int) (of_decide_eq_true (by first | (with_reducible assumption) | assumption)) (of_decide_eq_true (by first | (with_reducible assumption) | assumption)); have HP81 := Kd.R_putg HO_7.out (((rd_T41 l1 x8_2).f0) : Int) 0) | ((with_reducible refine gate_store (t := 3) (p := 117) rfl ?_); refine store_event (t := 3) (p := 117) (v := ?vo_w82) (w1 := (w79.setCell ⟨go69, (((rd_T41 l1 x8_2).f0) : Int).toNat, none⟩ (.int .i64 0))) ?hg ?ho ?hn ?hr ?_; (case ho => rfl); (case hg => rfl); (case hn => rfl); (case hr => first | (go_simp; done) | (go_simp; rfl)); intro w82 hw; have hg : w79.grownBy w82 (some go69) := (by rw [hw]; exact HP81.2); have hp_ : Kd.R (Kd.int .i64) 3 w82 w.heap.size (fun _ => True) (.slice (some ⟨go69, 0, none⟩) x7_2.length co80) y203 := (by rw [hw, Ny203.out]; exact HP81.1); clear HP81; have n0_ := Aside0.mk (Kd.V_afterv (v := (.slice (some ⟨go69, 0, none⟩) x7_2.length co80)) (v1 := (.slice (some ⟨go69, 0, none⟩) x7_2.length co80)) (ok := (fun _ => True)) (by (with_reducible repeat (first | apply Kd.V_alloc | apply Kd.V_drewN | apply Kd.V_drew)); exact Kd.V_mono HO_5.out (fun _ hk => ⟨trivial, hk⟩)) hg (.inl rfl)); have n1_ := Aside0.mk (hp_); have n2_ := Aside0.mk (Kd.V_afterv (v := (.slice (some ⟨go69, 0, none⟩) x7_2.length co80)) (v1 := (.slice (some ⟨go69, 0, none⟩) x7_2.length co80)) (ok := (fun _ => True)) (by (with_reducible repeat (first | apply Kd.V_alloc | apply Kd.V_drewN | apply Kd.V_drew)); exact Kd.V_mono HO200.out (fun _ hk => ⟨trivial, hk⟩)) hg (.inl rfl)); have n3_ := Aside0.mk ((by rw [hw]; exact below_set (HB.out) GB69.out : Below w.heap.size w w82)); clear HO_5; clear HO_7; clear HO200; clear HB; have HO_5 := n0_; have HO_7 := n1_; have HO200 := n2_; have HB := n3_; clear n0_ n1_ n2_ n3_; clear hg hw hp_; obtain ⟨Ao83, co83, eo83⟩ := Kd.V_slice HO200.out; subst eo83) | ((with_reducible refine gate_callee (f := 14) rfl ?_); refine goesL_ (some 121) rfl rfl Try.func14 (by kernel_rfl) rfl #[.slice Ao83 t198.length co83, .slice (some ⟨go69, 0, none⟩) y203.length co80] rfl (by (try simp only [List.map_toArray, List.map_cons, List.map_nil]); first | done | (rw [show y203.length = x7_2.length from (Kd.R_reads' HO_7.out).1.symm] <;> rfl) | rfl | (simp only [List.length_drop, List.length_take]; rfl)) ?_; (with_reducible refine (hopperref09_Same.calls kj21 _ _ t198 _ _ y203 false _ ?side1 ?side2 ?side3 ?side4 A70.out).mono ?_); (case side1 => repeat (first | exact (Kd.V_reads' HO200.out).2.2 | (with_reducible refine Kd.C_alloc ?_ _) | (with_reducible refine Kd.C_drewN ?_ _) | (with_reducible refine Kd.C_drew ?_))); (case side2 => exact (Kd.V_reads' HO200.out).2.1); (case side3 => repeat (first | exact (Kd.R_reads' HO_7.out).2.2 | (with_reducible refine Kd.C_alloc ?_ _) | (with_reducible refine Kd.C_drewN ?_ _) | (with_reducible refine Kd.C_drew ?_))); (case side4 => rw [show y203.length = x7_2.length from (Kd.R_reads' HO_7.out).1.symm]; exact (Kd.R_reads' HO_7.out).2.1); rintro e w' ⟨rfl, ⟨nd, rfl⟩⟩; refine ⟨_, rfl, ?_⟩))
                                      go_ret
                                      exact ⟨by first | rfl | (simp [errW_none, errW_some] <;> rfl) | (simp [*, errW_none, errW_some] <;> rfl), by repeat (first | (with_reducible first | exact HB.out | apply below_alloc | apply pw_below_drewN | apply below_drew1) | exact HB.out)⟩
                                  · rw [if_neg c68] at H
                                    have c68b0 : (t201 == 0) = false := beq_eq_false_iff_ne.mpr c68
                                    (try (have c68x : ((rd x7_2 ((rd_T41 l1 x8_2).f0)) == (wrap64 (-((rd_T41 l1 x8_2).f1)))) = false := by simpa [c68b0] using c64b0))
                                    have c68b1 : (t201 != 0) = true := bne_iff_ne.mpr c68
                                    replace H := Option.bind_eq_some_iff.mp H
                                    obtain ⟨t205, A840, H⟩ := H
                                    replace H : (if t205 = true then (hopperlaw09_LockRuns.l0 kj21 a0 l1 t198 x7_2 (wrap64 (x8_2 + 1))) else (some false)) = some r := H
                                    have A84 := Aside0.mk A840
                                    clear A840
                                    by_cases c85 : t205 = true
                                    · subst c85
                                      have H1 : (hopperlaw09_LockRuns.l0 kj21 a0 l1 t198 x7_2 (wrap64 (x8_2 + 1))) = some r := by rw [if_pos rfl] at H; exact H
                                      clear H
                                      have H := H1
                                      clear H1
                                      have H' := Aside0.mk H
                                      clear H
                                      obtain ⟨Ao86, co86, eo86⟩ := Kd.V_slice HO_5.out
                                      subst eo86
                                      go_wp2_with (first | ((with_reducible refine gate_callee (f := 10) rfl ?_); refine goesL_ (some 100) rfl rfl Try.func10 (by kernel_rfl) rfl #[.slice Ao86 x5_2.length co86, .int .i64 ((rd_T41 l1 x8_2).f0), .int .i64 (wrap64 (-((rd_T41 l1 x8_2).f1)))] rfl (by (try simp only [List.map_toArray, List.map_cons, List.map_nil]); first | done | rfl | (simp only [List.length_drop, List.length_take]; rfl)) ?_; (with_reducible refine (lock_Table_Give.calls kj21 (fun k_ => some k_ ≠ (v185 : Value).ownBlock) _ _ x5_2 ((rd_T41 l1 x8_2).f0) (wrap64 (-((rd_T41 l1 x8_2).f1))) t198 t201 _ ?side1 A61.out).mono ?_); (case side1 => exact HO_5.out); rintro e w87 ⟨v199, rfl, ho0, hb⟩; refine ⟨_, rfl, ?_⟩; have n0_ := Aside0.mk (Kd.V_below (by (with_reducible repeat (first | apply Kd.V_alloc | apply Kd.V_drewN | apply Kd.V_drew)); exact HO_5.out) hb); have n1_ := Aside0.mk (Kd.R_below (by (with_reducible repeat (first | apply Kd.R_alloc | apply Kd.R_drewN | apply Kd.R_drew)); exact HO_7.out) hb); have n2_ := Aside0.mk (Kd.V_lower (Kd.V_mono (ok' := fun k_ => some k_ ≠ (v185 : Value).ownBlock) ho0 (fun k_ hk_ => Or.elim hk_ (fun hs_ => hs_) (fun hn_ => (Kd.fresh' (Kd.R_lt (by (with_reducible repeat (first | apply Kd.R_alloc | apply Kd.R_drewN | apply Kd.R_drew)); exact HO_7.out)) k_ hn_)))) (below_size (by repeat (first | (with_reducible first | exact HB.out | apply below_alloc | apply pw_below_drewN | apply below_drew1) | exact HB.out)))); have n3_ := Aside0.mk (below_step (by repeat (first | (with_reducible first | exact HB.out | apply below_alloc | apply pw_below_drewN | apply below_drew1) | exact HB.out)) hb); clear HO_5; clear HO_7; clear HB; have HO_5 := n0_; have HO_7 := n1_; have HO200 := n2_; have HB := n3_; clear n0_ n1_ n2_ n3_; (try clear hb); (try clear hb2); (try clear hk); (try clear hi); (try clear ho0); obtain ⟨Ao88, co88, eo88⟩ := Kd.R_slice HO_7.out; subst eo88; have p202 : 0 ≤ (((rd_T41 l1 x8_2).f0) : Int) := of_decide_eq_true (by first | (with_reducible assumption) | assumption); have q202 : ((rd_T41 l1 x8_2).f0) < (x7_2.length : Int) := of_decide_eq_true (by first | (with_reducible assumption) | assumption); obtain ⟨ad202, e202, hx202_0⟩ := Kd.at_int (Kd.R_reads' HO_7.out).2.2 ((rd_T41 l1 x8_2).f0) p202 q202; cases e202; replace p202 := eq_true p202; replace q202 := eq_true q202; obtain ⟨Ao89, co89, eo89⟩ := Kd.V_slice HO200.out; subst eo89) | ((with_reducible refine gate_callee (f := 14) rfl ?_); refine goesL_ (some 121) rfl rfl Try.func14 (by kernel_rfl) rfl #[.slice Ao89 t198.length co89, .slice (some ad202) x7_2.length co88] rfl (by (try simp only [List.map_toArray, List.map_cons, List.map_nil]); first | done | rfl | (simp only [List.length_drop, List.length_take]; rfl)) ?_; (with_reducible refine (hopperref09_Same.calls kj21 _ _ t198 _ _ x7_2 true _ ?side1 ?side2 ?side3 ?side4 A84.out).mono ?_); (case side1 => repeat (first | exact (Kd.V_reads' HO200.out).2.2 | (with_reducible refine Kd.C_alloc ?_ _) | (with_reducible refine Kd.C_drewN ?_ _) | (with_reducible refine Kd.C_drew ?_))); (case side2 => exact (Kd.V_reads' HO200.out).2.1); (case side3 => repeat (first | exact (Kd.R_reads' HO_7.out).2.2 | (with_reducible refine Kd.C_alloc ?_ _) | (with_reducible refine Kd.C_drewN ?_ _) | (with_reducible refine Kd.C_drew ?_))); (case side4 => exact (Kd.R_reads' HO_7.out).2.1); rintro e w' ⟨rfl, ⟨nd, rfl⟩⟩; refine ⟨_, rfl, ?_⟩))
                                      go_roundg kj21
                                      case measure => have := HJ3.out; have := HK2.out; have := HJ21.out; omega
                                      case rel => exact ⟨(t198), (x7_2), (wrap64 (x8_2 + 1)), (by first | rfl | (simp; done) | (simp [*]; done)), H', ⟨by have := HJ3.out; have := HK2.out; have := HJ21.out; omega⟩, ⟨by (with_reducible repeat (first | apply Kd.V_alloc | apply Kd.V_drewN | apply Kd.V_drew)); exact HO200.out⟩, ⟨by (with_reducible repeat (first | apply Kd.R_alloc | apply Kd.R_drewN | apply Kd.R_drew)); exact HO_7.out⟩, ⟨by repeat (first | (with_reducible first | exact HB.out | apply below_alloc | apply pw_below_drewN | apply below_drew1) | exact HB.out)⟩⟩
                                    · replace c85 := Bool.eq_false_iff.mpr c85
                                      subst c85
                                      have H1 : (some false) = some r := by rw [if_neg (show ¬ (false = true) by decide)] at H; exact H
                                      clear H
                                      have H := H1
                                      clear H1
                                      obtain rfl := Option.some.inj H
                                      obtain ⟨Ao90, co90, eo90⟩ := Kd.V_slice HO_5.out
                                      subst eo90
                                      go_wp2_with (first | ((with_reducible refine gate_callee (f := 10) rfl ?_); refine goesL_ (some 100) rfl rfl Try.func10 (by kernel_rfl) rfl #[.slice Ao90 x5_2.length co90, .int .i64 ((rd_T41 l1 x8_2).f0), .int .i64 (wrap64 (-((rd_T41 l1 x8_2).f1)))] rfl (by (try simp only [List.map_toArray, List.map_cons, List.map_nil]); first | done | rfl | (simp only [List.length_drop, List.length_take]; rfl)) ?_; (with_reducible refine (lock_Table_Give.calls kj21 (fun k_ => some k_ ≠ (v185 : Value).ownBlock) _ _ x5_2 ((rd_T41 l1 x8_2).f0) (wrap64 (-((rd_T41 l1 x8_2).f1))) t198 t201 _ ?side1 A61.out).mono ?_); (case side1 => exact HO_5.out); rintro e w91 ⟨v199, rfl, ho0, hb⟩; refine ⟨_, rfl, ?_⟩; have n0_ := Aside0.mk (Kd.V_below (by (with_reducible repeat (first | apply Kd.V_alloc | apply Kd.V_drewN | apply Kd.V_drew)); exact HO_5.out) hb); have n1_ := Aside0.mk (Kd.R_below (by (with_reducible repeat (first | apply Kd.R_alloc | apply Kd.R_drewN | apply Kd.R_drew)); exact HO_7.out) hb); have n2_ := Aside0.mk (Kd.V_lower (Kd.V_mono (ok' := fun k_ => some k_ ≠ (v185 : Value).ownBlock) ho0 (fun k_ hk_ => Or.elim hk_ (fun hs_ => hs_) (fun hn_ => (Kd.fresh' (Kd.R_lt (by (with_reducible repeat (first | apply Kd.R_alloc | apply Kd.R_drewN | apply Kd.R_drew)); exact HO_7.out)) k_ hn_)))) (below_size (by repeat (first | (with_reducible first | exact HB.out | apply below_alloc | apply pw_below_drewN | apply below_drew1) | exact HB.out)))); have n3_ := Aside0.mk (below_step (by repeat (first | (with_reducible first | exact HB.out | apply below_alloc | apply pw_below_drewN | apply below_drew1) | exact HB.out)) hb); clear HO_5; clear HO_7; clear HB; have HO_5 := n0_; have HO_7 := n1_; have HO200 := n2_; have HB := n3_; clear n0_ n1_ n2_ n3_; (try clear hb); (try clear hb2); (try clear hk); (try clear hi); (try clear ho0); obtain ⟨Ao92, co92, eo92⟩ := Kd.R_slice HO_7.out; subst eo92; have p202 : 0 ≤ (((rd_T41 l1 x8_2).f0) : Int) := of_decide_eq_true (by first | (with_reducible assumption) | assumption); have q202 : ((rd_T41 l1 x8_2).f0) < (x7_2.length : Int) := of_decide_eq_true (by first | (with_reducible assumption) | assumption); obtain ⟨ad202, e202, hx202_0⟩ := Kd.at_int (Kd.R_reads' HO_7.out).2.2 ((rd_T41 l1 x8_2).f0) p202 q202; cases e202; replace p202 := eq_true p202; replace q202 := eq_true q202; obtain ⟨Ao93, co93, eo93⟩ := Kd.V_slice HO200.out; subst eo93) | ((with_reducible refine gate_callee (f := 14) rfl ?_); refine goesL_ (some 121) rfl rfl Try.func14 (by kernel_rfl) rfl #[.slice Ao93 t198.length co93, .slice (some ad202) x7_2.length co92] rfl (by (try simp only [List.map_toArray, List.map_cons, List.map_nil]); first | done | rfl | (simp only [List.length_drop, List.length_take]; rfl)) ?_; (with_reducible refine (hopperref09_Same.calls kj21 _ _ t198 _ _ x7_2 false _ ?side1 ?side2 ?side3 ?side4 A84.out).mono ?_); (case side1 => repeat (first | exact (Kd.V_reads' HO200.out).2.2 | (with_reducible refine Kd.C_alloc ?_ _) | (with_reducible refine Kd.C_drewN ?_ _) | (with_reducible refine Kd.C_drew ?_))); (case side2 => exact (Kd.V_reads' HO200.out).2.1); (case side3 => repeat (first | exact (Kd.R_reads' HO_7.out).2.2 | (with_reducible refine Kd.C_alloc ?_ _) | (with_reducible refine Kd.C_drewN ?_ _) | (with_reducible refine Kd.C_drew ?_))); (case side4 => exact (Kd.R_reads' HO_7.out).2.1); rintro e w' ⟨rfl, ⟨nd, rfl⟩⟩; refine ⟨_, rfl, ?_⟩))
                                      go_ret
                                      exact ⟨by first | rfl | (simp [errW_none, errW_some] <;> rfl) | (simp [*, errW_none, errW_some] <;> rfl), by repeat (first | (with_reducible first | exact HB.out | apply below_alloc | apply pw_below_drewN | apply below_drew1) | exact HB.out)⟩
                              · rw [if_neg c63] at H
                                exact absurd H (by simp)
                            · rw [if_neg c62] at H
                              exact absurd H (by simp)
                  · rw [if_neg c21] at H
                    exact absurd H (by simp)
                · rw [if_neg c20] at H
                  have c20b0 : decide (x8_2 < (l1.length : Int)) = false := decide_eq_false c20
                  clear c20
                  replace H := Option.bind_eq_some_iff.mp H
                  obtain ⟨t187, A940, H⟩ := H
                  replace H : (some t187) = some r := H
                  have A94 := Aside0.mk A940
                  clear A940
                  obtain rfl := Option.some.inj H
                  go_wp2_with (first | ((with_reducible refine gate_callee (f := 7) rfl ?_); refine goesL_ (some 123) rfl rfl Try.func7 (by kernel_rfl) rfl #[] rfl (by (try simp only [List.map_toArray, List.map_cons, List.map_nil]); first | done | rfl | (simp only [List.length_drop, List.length_take]; rfl)) ?_; (with_reducible refine (hopperlaw09_live.calls k2  t187 _ A94.out).mono ?_); rintro e w95 ⟨rfl, hb⟩; refine ⟨_, rfl, ?_⟩; have n0_ := Aside0.mk (Kd.V_below (by (with_reducible repeat (first | apply Kd.V_alloc | apply Kd.V_drewN | apply Kd.V_drew)); exact HO_5.out) hb); have n1_ := Aside0.mk (Kd.R_below (by (with_reducible repeat (first | apply Kd.R_alloc | apply Kd.R_drewN | apply Kd.R_drew)); exact HO_7.out) hb); have n2_ := Aside0.mk (below_step (by repeat (first | (with_reducible first | exact HB.out | apply below_alloc | apply pw_below_drewN | apply below_drew1) | exact HB.out)) hb); clear HO_5; clear HO_7; clear HB; have HO_5 := n0_; have HO_7 := n1_; have HB := n2_; clear n0_ n1_ n2_; (try clear hb); (try clear hb2); (try clear hk); (try clear hi)))
                  go_ret
                  exact ⟨by first | rfl | (simp [errW_none, errW_some] <;> rfl) | (simp [*, errW_none, errW_some] <;> rfl), by repeat (first | (with_reducible first | exact HB.out | apply below_alloc | apply pw_below_drewN | apply below_drew1) | exact HB.out)⟩
          · rw [if_neg c17] at H
            exact absurd H (by simp)
        · rw [if_neg c16] at H
          exact absurd H (by simp)

-- GIVEN hopperlaw09_LockRuns

end Go.Proofs.Ytjbhjjdahakjmaa.PLockRuns
