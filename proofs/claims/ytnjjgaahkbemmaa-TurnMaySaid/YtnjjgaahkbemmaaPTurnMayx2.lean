/- What the functions that the law reaches answer, each as a plain Lean function, with a proof that the call in memory comes to that answer. Written by wip/tools/given.py of this session out of the print.py of the kit, with stand-ins for some functions. -/
import Derived.Test.YtnjjgaahkbemmaaPTurnMayx0
import Derived.Test.YtnjjgaahkbemmaaPTurnMayx1
namespace Go.Proofs.Ytnjjgaahkbemmaa.PTurnMay
open Go.RowKit Go.Proofs.YtnjjgaahkbemmaaW.PrintWords Go.Proofs.YtnjjgaahkbemmaaW.PrintLast Go.Proofs.YtnjjgaahkbemmaaW.PrintMore
attribute [local go_sem] max2_int min2_int max_two min_two max_three min_three max_four min_four   -- for this text's walks alone
set_option linter.unusedVariables false
set_option linter.unusedSimpArgs false

/-! ### hopperlaw10_TurnMay: function 4 -/
mutual
def hopperlaw10_TurnMay.j0 : Nat → List Bool → Int → Int → Bool → Option (Bool)
  | 0, _, _, _, _ => none
  | k + 1, x0, x1, x2, x20 => if x20 = true then ((hopperlaw10_live.f k).bind fun t129 => (some t129)) else ((turn_Pick.f x0 x1).bind fun t130 => ((turn_Next.f x0 x2).bind fun t131 => ((turn_Count.f x0).bind fun t132 => (if ((decide (t130 < 0)) != (t132 == 0)) = true then (hopperlaw10_TurnMay.j1 k x0 x1 t130 t131 t132 true) else (if ((decide (t131 < 0)) != (t132 == 0)) = true then (hopperlaw10_TurnMay.j1 k x0 x1 t130 t131 t132 true) else (if t130 ≥ (x0.length : Int) then (hopperlaw10_TurnMay.j1 k x0 x1 t130 t131 t132 true) else (hopperlaw10_TurnMay.j1 k x0 x1 t130 t131 t132 (decide (t131 ≥ (x0.length : Int))))))))))
def hopperlaw10_TurnMay.j1 : Nat → List Bool → Int → Int → Int → Int → Bool → Option (Bool)
  | 0, _, _, _, _, _, _ => none
  | k + 1, x0, x1, x7, x8, x9, x53 => if x53 = true then (some false) else (if x9 = 0 then (if x7 = (-1) then (if x8 = (-1) then ((hopperlaw10_live.f k).bind fun t133 => (some t133)) else (some false)) else (some false)) else (if 0 ≤ x7 then (if x7 < (x0.length : Int) then (if rdOf false x0 x7 = true then (if 0 ≤ x8 then (if x8 < (x0.length : Int) then (if rdOf false x0 x8 = true then ((turn_Pick.f x0 (wrap64 (x1 + 1))).bind fun t136 => ((turn_Next.f x0 x7).bind fun t137 => (if t136 = t137 then ((turn_Pick.f x0 (wrap64 (x1 + x9))).bind fun t138 => (if t138 = x7 then ((hopperlaw10_live.f k).bind fun t139 => (some t139)) else (some false))) else (some false)))) else (some false)) else (none)) else (none)) else (some false)) else (none)) else (none)))
end
def hopperlaw10_TurnMay.f (k : Nat) (l0 : List Bool) (a1 : Int) (a2 : Int) : Option (Bool) := if (l0.length : Int) > 200 then (hopperlaw10_TurnMay.j0 k l0 a1 a2 true) else (if a1 < 0 then (hopperlaw10_TurnMay.j0 k l0 a1 a2 true) else (hopperlaw10_TurnMay.j0 k l0 a1 a2 (decide (a1 > 1099511627776))))
theorem hopperlaw10_TurnMay.mono_l : ∀ k, (∀ y0 y1 y2 y3, LeO (hopperlaw10_TurnMay.j0 k y0 y1 y2 y3) (hopperlaw10_TurnMay.j0 (k + 1) y0 y1 y2 y3)) ∧ (∀ y0 y1 y2 y3 y4 y5, LeO (hopperlaw10_TurnMay.j1 k y0 y1 y2 y3 y4 y5) (hopperlaw10_TurnMay.j1 (k + 1) y0 y1 y2 y3 y4 y5))
  | 0 => ⟨fun _ _ _ _ r h => by simp [hopperlaw10_TurnMay.j0] at h, fun _ _ _ _ _ _ r h => by simp [hopperlaw10_TurnMay.j1] at h⟩
  | k + 1 => by
    obtain ⟨ih0, ih1⟩ := hopperlaw10_TurnMay.mono_l k
    refine ⟨?_, ?_⟩
    · intro y0 y1 y2 y3
      unfold hopperlaw10_TurnMay.j0
      repeat' first
      | (with_reducible exact ih0 _ _ _ _)
      | (with_reducible exact ih1 _ _ _ _ _ _)
      | (with_reducible exact hopperlaw10_live.mono _)
      | (with_reducible exact LeO.refl _)
      | (with_reducible exact LeO.none _)
      | (with_reducible refine LeO.ite ?_ ?_)
      | (with_reducible refine LeO.bind ?_ (fun _ => ?_))
      | exact ih0 _ _ _ _
      | exact ih1 _ _ _ _ _ _
      | exact hopperlaw10_live.mono _
      | exact LeO.none _
      | refine LeO.ite ?_ ?_
      | refine LeO.bind ?_ (fun _ => ?_)
    · intro y0 y1 y2 y3 y4 y5
      unfold hopperlaw10_TurnMay.j1
      repeat' first
      | (with_reducible exact ih0 _ _ _ _)
      | (with_reducible exact ih1 _ _ _ _ _ _)
      | (with_reducible exact hopperlaw10_live.mono _)
      | (with_reducible exact LeO.refl _)
      | (with_reducible exact LeO.none _)
      | (with_reducible refine LeO.ite ?_ ?_)
      | (with_reducible refine LeO.bind ?_ (fun _ => ?_))
      | exact ih0 _ _ _ _
      | exact ih1 _ _ _ _ _ _
      | exact hopperlaw10_live.mono _
      | exact LeO.none _
      | refine LeO.ite ?_ ?_
      | refine LeO.bind ?_ (fun _ => ?_)
theorem hopperlaw10_TurnMay.mono : ∀ a0 a1 a2 k, LeO (hopperlaw10_TurnMay.f k a0 a1 a2) (hopperlaw10_TurnMay.f (k + 1) a0 a1 a2) := by
  intro a0 a1 a2 k
  obtain ⟨ih0, ih1⟩ := hopperlaw10_TurnMay.mono_l k
  unfold hopperlaw10_TurnMay.f
  repeat' first
      | (with_reducible exact ih0 _ _ _ _)
      | (with_reducible exact ih1 _ _ _ _ _ _)
      | (with_reducible exact hopperlaw10_live.mono _)
      | (with_reducible exact LeO.refl _)
      | (with_reducible exact LeO.none _)
      | (with_reducible refine LeO.ite ?_ ?_)
      | (with_reducible refine LeO.bind ?_ (fun _ => ?_))
      | exact ih0 _ _ _ _
      | exact ih1 _ _ _ _ _ _
      | exact hopperlaw10_live.mono _
      | exact LeO.none _
      | refine LeO.ite ?_ ?_
      | refine LeO.bind ?_ (fun _ => ?_)
set_option maxHeartbeats 8000000 in
set_option maxRecDepth 100000 in
theorem hopperlaw10_TurnMay.calls (k : Nat) (A0 : Option Addr) (c0 : Nat) (l0 : List Bool) (a1 : Int) (a2 : Int) (r : Bool) (w : World) (hr0 : Kd.C Kd.bool w A0 l0.length l0) (hc0 : l0.length ≤ c0) (h : hopperlaw10_TurnMay.f k l0 a1 a2 = some r) :
    Calls Try.prog 4 #[.slice A0 l0.length c0, .int .i64 a1, .int .i64 a2] w fun e w' => e = .returned (.bool r) ∧ Below w.heap.size w w' := by
  have HR0 := Aside0.mk hr0
  have HC0 := Aside0.mk hc0
  clear hr0 hc0
  have HB := Aside0.mk (Below.refl w.heap.size w)
  have H : (if (l0.length : Int) > 200 then (hopperlaw10_TurnMay.j0 k l0 a1 a2 true) else (if a1 < 0 then (hopperlaw10_TurnMay.j0 k l0 a1 a2 true) else (hopperlaw10_TurnMay.j0 k l0 a1 a2 (decide (a1 > 1099511627776))))) = some r := h
  clear h
  have HC4 := Aside0.mk H
  clear H
  go_enter Try.func4, Try.ntmps4
  go_upto_region 1 with (fail)
  go_cut [20] (fun v20 wc => ∃ (kq : Nat) (x20_3 : Bool), v20 = .bool x20_3 ∧ Aside0 (hopperlaw10_TurnMay.j0 kq l0 a1 a2 x20_3 = some r) ∧ Aside0 (kq ≤ k) ∧ Aside0 (Below w.heap.size w wc))
  case first =>
    have H := HC4.out
    clear HC4
    by_cases c5 : (l0.length : Int) > 200
    · rw [if_pos c5] at H
      have c5b0 : decide (200 < (l0.length : Int)) = true := decide_eq_true c5
      have c5b1 : decide (200 < l0.length) = true := decide_eq_true (by omega)
      clear c5
      (first | rw [c5b0] | (simp only [i64_w, i32_w]; rw [c5b0]) | skip)
      have H' := Aside0.mk H
      clear H
      go_wp2
      go_meet
      case rel => exact ⟨_, (true), (by first | rfl | (simp; done) | (simp [*]; done)), H', ⟨by first | omega | exact Nat.le_refl _⟩, ⟨by repeat (first | (with_reducible first | exact HB.out | apply below_alloc | apply pw_below_drewN | apply below_drew1) | exact HB.out)⟩⟩
    · rw [if_neg c5] at H
      have c5b0 : decide (200 < (l0.length : Int)) = false := decide_eq_false c5
      have c5b1 : decide (200 < l0.length) = false := decide_eq_false (by omega)
      clear c5
      (first | rw [c5b0] | (simp only [i64_w, i32_w]; rw [c5b0]) | skip)
      by_cases c6 : a1 < 0
      · rw [if_pos c6] at H
        have c6b0 : decide (a1 < 0) = true := decide_eq_true c6
        clear c6
        have H' := Aside0.mk H
        clear H
        go_wp2
        go_meet
        case rel => exact ⟨_, (true), (by first | rfl | (simp; done) | (simp [*]; done)), H', ⟨by first | omega | exact Nat.le_refl _⟩, ⟨by repeat (first | (with_reducible first | exact HB.out | apply below_alloc | apply pw_below_drewN | apply below_drew1) | exact HB.out)⟩⟩
      · rw [if_neg c6] at H
        have c6b0 : decide (a1 < 0) = false := decide_eq_false c6
        clear c6
        have H' := Aside0.mk H
        clear H
        go_wp2
        go_meet
        case rel => exact ⟨_, (decide (a1 > 1099511627776)), (by first | rfl | (simp; done) | (simp [*]; done)), H', ⟨by first | omega | exact Nat.le_refl _⟩, ⟨by repeat (first | (with_reducible first | exact HB.out | apply below_alloc | apply pw_below_drewN | apply below_drew1) | exact HB.out)⟩⟩
  case rest =>
    clear HC4
    try clear p2
    try clear c4
    try clear c5
    try clear c5b0
    try clear c5b1
    try clear c6
    try clear c6b0
    obtain ⟨kq, x20_3, rfl, HA, HJ3, HB⟩ := hcut
    cases kq with
    | zero => exact absurd HA.out (by simp [hopperlaw10_TurnMay.j0])
    | succ kj3 =>
      have H := HA.out
      clear HA
      simp only [hopperlaw10_TurnMay.j0] at H
      by_cases c7 : x20_3 = true
      · subst c7
        have H1 : ((hopperlaw10_live.f kj3).bind fun t129 => (some t129)) = some r := by rw [if_pos rfl] at H; exact H
        clear H
        have H := H1
        clear H1
        replace H := Option.bind_eq_some_iff.mp H
        obtain ⟨t129, A80, H⟩ := H
        replace H : (some t129) = some r := H
        have A8 := Aside0.mk A80
        clear A80
        obtain rfl := Option.some.inj H
        go_wp2_with (first | ((with_reducible refine gate_callee (f := 8) rfl ?_); refine goesL_ (some 21) rfl rfl Try.func8 (by kernel_rfl) rfl #[] rfl (by (try simp only [List.map_toArray, List.map_cons, List.map_nil]); first | done | rfl | (simp only [List.length_drop, List.length_take]; rfl)) ?_; (with_reducible refine (hopperlaw10_live.calls kj3  t129 _ A8.out).mono ?_); rintro e w9 ⟨rfl, hb⟩; refine ⟨_, rfl, ?_⟩; have n0_ := Aside0.mk (below_step (by repeat (first | (with_reducible first | exact HB.out | apply below_alloc | apply pw_below_drewN | apply below_drew1) | exact HB.out)) hb); clear HB; have HB := n0_; clear n0_; (try clear hb); (try clear hb2); (try clear hk); (try clear hi)))
        go_ret
        exact ⟨by first | rfl | (simp [errW_none, errW_some] <;> rfl) | (simp [*, errW_none, errW_some] <;> rfl), by repeat (first | (with_reducible first | exact HB.out | apply below_alloc | apply pw_below_drewN | apply below_drew1) | exact HB.out)⟩
      · replace c7 := Bool.eq_false_iff.mpr c7
        subst c7
        have H1 : ((turn_Pick.f l0 a1).bind fun t130 => ((turn_Next.f l0 a2).bind fun t131 => ((turn_Count.f l0).bind fun t132 => (if ((decide (t130 < 0)) != (t132 == 0)) = true then (hopperlaw10_TurnMay.j1 kj3 l0 a1 t130 t131 t132 true) else (if ((decide (t131 < 0)) != (t132 == 0)) = true then (hopperlaw10_TurnMay.j1 kj3 l0 a1 t130 t131 t132 true) else (if t130 ≥ (l0.length : Int) then (hopperlaw10_TurnMay.j1 kj3 l0 a1 t130 t131 t132 true) else (hopperlaw10_TurnMay.j1 kj3 l0 a1 t130 t131 t132 (decide (t131 ≥ (l0.length : Int)))))))))) = some r := by rw [if_neg (show ¬ (false = true) by decide)] at H; exact H
        clear H
        have H := H1
        clear H1
        replace H := Option.bind_eq_some_iff.mp H
        obtain ⟨t130, A100, H⟩ := H
        replace H : ((turn_Next.f l0 a2).bind fun t131 => ((turn_Count.f l0).bind fun t132 => (if ((decide (t130 < 0)) != (t132 == 0)) = true then (hopperlaw10_TurnMay.j1 kj3 l0 a1 t130 t131 t132 true) else (if ((decide (t131 < 0)) != (t132 == 0)) = true then (hopperlaw10_TurnMay.j1 kj3 l0 a1 t130 t131 t132 true) else (if t130 ≥ (l0.length : Int) then (hopperlaw10_TurnMay.j1 kj3 l0 a1 t130 t131 t132 true) else (hopperlaw10_TurnMay.j1 kj3 l0 a1 t130 t131 t132 (decide (t131 ≥ (l0.length : Int))))))))) = some r := H
        have A10 := Aside0.mk A100
        clear A100
        replace H := Option.bind_eq_some_iff.mp H
        obtain ⟨t131, A110, H⟩ := H
        replace H : ((turn_Count.f l0).bind fun t132 => (if ((decide (t130 < 0)) != (t132 == 0)) = true then (hopperlaw10_TurnMay.j1 kj3 l0 a1 t130 t131 t132 true) else (if ((decide (t131 < 0)) != (t132 == 0)) = true then (hopperlaw10_TurnMay.j1 kj3 l0 a1 t130 t131 t132 true) else (if t130 ≥ (l0.length : Int) then (hopperlaw10_TurnMay.j1 kj3 l0 a1 t130 t131 t132 true) else (hopperlaw10_TurnMay.j1 kj3 l0 a1 t130 t131 t132 (decide (t131 ≥ (l0.length : Int)))))))) = some r := H
        have A11 := Aside0.mk A110
        clear A110
        replace H := Option.bind_eq_some_iff.mp H
        obtain ⟨t132, A120, H⟩ := H
        replace H : (if ((decide (t130 < 0)) != (t132 == 0)) = true then (hopperlaw10_TurnMay.j1 kj3 l0 a1 t130 t131 t132 true) else (if ((decide (t131 < 0)) != (t132 == 0)) = true then (hopperlaw10_TurnMay.j1 kj3 l0 a1 t130 t131 t132 true) else (if t130 ≥ (l0.length : Int) then (hopperlaw10_TurnMay.j1 kj3 l0 a1 t130 t131 t132 true) else (hopperlaw10_TurnMay.j1 kj3 l0 a1 t130 t131 t132 (decide (t131 ≥ (l0.length : Int))))))) = some r := H
        have A12 := Aside0.mk A120
        clear A120
        have HC13 := Aside0.mk H
        clear H
        go_upto_region 6 with (first | ((with_reducible refine gate_callee (f := 11) rfl ?_); refine goesL_ (some 24) rfl rfl Try.func11 (by kernel_rfl) rfl #[.slice A0 l0.length c0, .int .i64 a1] rfl (by (try simp only [List.map_toArray, List.map_cons, List.map_nil]); first | done | rfl | (simp only [List.length_drop, List.length_take]; rfl)) ?_; (with_reducible refine (turn_Pick.calls _ _ l0 a1 t130 _ ?side1 ?side2 A10.out).mono ?_); (case side1 => repeat (first | exact (Kd.C_below HR0.out HB.out) | (with_reducible refine Kd.C_alloc ?_ _) | (with_reducible refine Kd.C_drewN ?_ _) | (with_reducible refine Kd.C_drew ?_))); (case side2 => exact HC0.out); rintro e w14 ⟨rfl, hb⟩; refine ⟨_, rfl, ?_⟩; have n0_ := Aside0.mk (below_step (by repeat (first | (with_reducible first | exact HB.out | apply below_alloc | apply pw_below_drewN | apply below_drew1) | exact HB.out)) hb); clear HB; have HB := n0_; clear n0_; (try clear hb); (try clear hb2); (try clear hk); (try clear hi)) | ((with_reducible refine gate_callee (f := 13) rfl ?_); refine goesL_ (some 27) rfl rfl Try.func13 (by kernel_rfl) rfl #[.slice A0 l0.length c0, .int .i64 a2] rfl (by (try simp only [List.map_toArray, List.map_cons, List.map_nil]); first | done | rfl | (simp only [List.length_drop, List.length_take]; rfl)) ?_; (with_reducible refine (turn_Next.calls _ _ l0 a2 t131 _ ?side1 ?side2 A11.out).mono ?_); (case side1 => repeat (first | exact (Kd.C_below HR0.out HB.out) | (with_reducible refine Kd.C_alloc ?_ _) | (with_reducible refine Kd.C_drewN ?_ _) | (with_reducible refine Kd.C_drew ?_))); (case side2 => exact HC0.out); rintro e w15 ⟨rfl, hb⟩; refine ⟨_, rfl, ?_⟩; have n0_ := Aside0.mk (below_step (by repeat (first | (with_reducible first | exact HB.out | apply below_alloc | apply pw_below_drewN | apply below_drew1) | exact HB.out)) hb); clear HB; have HB := n0_; clear n0_; (try clear hb); (try clear hb2); (try clear hk); (try clear hi)) | ((with_reducible refine gate_callee (f := 9) rfl ?_); refine goesL_ (some 29) rfl rfl Try.func9 (by kernel_rfl) rfl #[.slice A0 l0.length c0] rfl (by (try simp only [List.map_toArray, List.map_cons, List.map_nil]); first | done | rfl | (simp only [List.length_drop, List.length_take]; rfl)) ?_; (with_reducible refine (turn_Count.calls _ _ l0 t132 _ ?side1 ?side2 A12.out).mono ?_); (case side1 => repeat (first | exact (Kd.C_below HR0.out HB.out) | (with_reducible refine Kd.C_alloc ?_ _) | (with_reducible refine Kd.C_drewN ?_ _) | (with_reducible refine Kd.C_drew ?_))); (case side2 => exact HC0.out); rintro e w16 ⟨rfl, hb⟩; refine ⟨_, rfl, ?_⟩; have n0_ := Aside0.mk (below_step (by repeat (first | (with_reducible first | exact HB.out | apply below_alloc | apply pw_below_drewN | apply below_drew1) | exact HB.out)) hb); clear HB; have HB := n0_; clear n0_; (try clear hb); (try clear hb2); (try clear hk); (try clear hi)))
        (try simp only [Act.put, List.setIfInBounds_toArray, List.set_cons_zero, List.set_cons_succ])
        go_cut [53] (fun v53 wc => ∃ (kq : Nat) (x53_12 : Bool), v53 = .bool x53_12 ∧ Aside0 (hopperlaw10_TurnMay.j1 kq l0 a1 t130 t131 t132 x53_12 = some r) ∧ Aside0 (kq ≤ kj3) ∧ Aside0 (Below w.heap.size w wc))
        case first =>
          have H := HC13.out
          clear HC13
          by_cases c17 : ((decide (t130 < 0)) != (t132 == 0)) = true
          · rw [if_pos c17] at H
            have c17b0 : ((decide (t130 < 0)) != (t132 == 0)) = true := c17
            (try (have c17b1 : decide ((decide (t130 < 0)) = (t132 == 0)) = false := by simpa using c17))
            (try (have c17b2 : ((decide (t130 < 0)) == (t132 == 0)) = false := by simpa using c17))
            (try (have c17b3 : ¬ ((decide (t130 < 0)) = (t132 == 0)) := by simpa using c17))
            clear c17
            (first | rw [c17b0] | (simp only [i64_w, i32_w]; rw [c17b0]) | skip)
            have H' := Aside0.mk H
            clear H
            go_wp2
            go_meet
            case rel => exact ⟨_, (true), (by first | rfl | (simp; done) | (simp [*]; done)), H', ⟨by have := HJ3.out; first | omega | exact Nat.le_refl _⟩, ⟨by repeat (first | (with_reducible first | exact HB.out | apply below_alloc | apply pw_below_drewN | apply below_drew1) | exact HB.out)⟩⟩
          · rw [if_neg c17] at H
            have c17b0 : ((decide (t130 < 0)) != (t132 == 0)) = false := by simpa using c17
            (try (have c17b1 : decide ((decide (t130 < 0)) = (t132 == 0)) = true := by simpa using c17))
            (try (have c17b2 : ((decide (t130 < 0)) == (t132 == 0)) = true := by simpa using c17))
            clear c17
            (first | rw [c17b0] | (simp only [i64_w, i32_w]; rw [c17b0]) | skip)
            by_cases c18 : ((decide (t131 < 0)) != (t132 == 0)) = true
            · rw [if_pos c18] at H
              have c18b0 : ((decide (t131 < 0)) != (t132 == 0)) = true := c18
              (try (have c18b1 : decide ((decide (t131 < 0)) = (t132 == 0)) = false := by simpa using c18))
              (try (have c18b2 : ((decide (t131 < 0)) == (t132 == 0)) = false := by simpa using c18))
              (try (have c18b3 : ¬ ((decide (t131 < 0)) = (t132 == 0)) := by simpa using c18))
              clear c18
              have H' := Aside0.mk H
              clear H
              go_wp2
              go_meet
              case rel => exact ⟨_, (true), (by first | rfl | (simp; done) | (simp [*]; done)), H', ⟨by have := HJ3.out; first | omega | exact Nat.le_refl _⟩, ⟨by repeat (first | (with_reducible first | exact HB.out | apply below_alloc | apply pw_below_drewN | apply below_drew1) | exact HB.out)⟩⟩
            · rw [if_neg c18] at H
              have c18b0 : ((decide (t131 < 0)) != (t132 == 0)) = false := by simpa using c18
              (try (have c18b1 : decide ((decide (t131 < 0)) = (t132 == 0)) = true := by simpa using c18))
              (try (have c18b2 : ((decide (t131 < 0)) == (t132 == 0)) = true := by simpa using c18))
              clear c18
              by_cases c19 : t130 ≥ (l0.length : Int)
              · rw [if_pos c19] at H
                have c19b0 : decide ((l0.length : Int) ≤ t130) = true := decide_eq_true c19
                clear c19
                have H' := Aside0.mk H
                clear H
                go_wp2
                go_meet
                case rel => exact ⟨_, (true), (by first | rfl | (simp; done) | (simp [*]; done)), H', ⟨by have := HJ3.out; first | omega | exact Nat.le_refl _⟩, ⟨by repeat (first | (with_reducible first | exact HB.out | apply below_alloc | apply pw_below_drewN | apply below_drew1) | exact HB.out)⟩⟩
              · rw [if_neg c19] at H
                have c19b0 : decide ((l0.length : Int) ≤ t130) = false := decide_eq_false c19
                clear c19
                have H' := Aside0.mk H
                clear H
                go_wp2
                go_meet
                case rel => exact ⟨_, (decide (t131 ≥ (l0.length : Int))), (by first | rfl | (simp; done) | (simp [*]; done)), H', ⟨by have := HJ3.out; first | omega | exact Nat.le_refl _⟩, ⟨by repeat (first | (with_reducible first | exact HB.out | apply below_alloc | apply pw_below_drewN | apply below_drew1) | exact HB.out)⟩⟩
        case rest =>
          clear HC13
          try clear c1
          try clear p2
          try clear c4
          try clear c5
          try clear c5b0
          try clear c5b1
          try clear c6
          try clear c6b0
          try clear c7
          try clear c8
          try clear c9
          try clear c11
          try clear c13
          try clear c17
          try clear c17b0
          try clear c17b1
          try clear c17b2
          try clear c18
          try clear c18b0
          try clear c18b1
          try clear c18b2
          try clear c19
          try clear c19b0
          try clear p2
          obtain ⟨kq, x53_12, rfl, HA, HJ12, HB⟩ := hcut
          cases kq with
          | zero => exact absurd HA.out (by simp [hopperlaw10_TurnMay.j1])
          | succ kj12 =>
            have H := HA.out
            clear HA
            simp only [hopperlaw10_TurnMay.j1] at H
            by_cases c20 : x53_12 = true
            · subst c20
              have H1 : (some false) = some r := by rw [if_pos rfl] at H; exact H
              clear H
              have H := H1
              clear H1
              obtain rfl := Option.some.inj H
              go_wp2
              go_ret
              exact ⟨by first | rfl | (simp [errW_none, errW_some] <;> rfl) | (simp [*, errW_none, errW_some] <;> rfl), by repeat (first | (with_reducible first | exact HB.out | apply below_alloc | apply pw_below_drewN | apply below_drew1) | exact HB.out)⟩
            · replace c20 := Bool.eq_false_iff.mpr c20
              subst c20
              have H1 : (if t132 = 0 then (if t130 = (-1) then (if t131 = (-1) then ((hopperlaw10_live.f kj12).bind fun t133 => (some t133)) else (some false)) else (some false)) else (if 0 ≤ t130 then (if t130 < (l0.length : Int) then (if rdOf false l0 t130 = true then (if 0 ≤ t131 then (if t131 < (l0.length : Int) then (if rdOf false l0 t131 = true then ((turn_Pick.f l0 (wrap64 (a1 + 1))).bind fun t136 => ((turn_Next.f l0 t130).bind fun t137 => (if t136 = t137 then ((turn_Pick.f l0 (wrap64 (a1 + t132))).bind fun t138 => (if t138 = t130 then ((hopperlaw10_live.f kj12).bind fun t139 => (some t139)) else (some false))) else (some false)))) else (some false)) else (none)) else (none)) else (some false)) else (none)) else (none))) = some r := by rw [if_neg (show ¬ (false = true) by decide)] at H; exact H
              clear H
              have H := H1
              clear H1
              by_cases c21 : t132 = 0
              · rw [if_pos c21] at H
                have c21b0 : (t132 == 0) = true := beq_iff_eq.mpr c21
                have c21b1 : (t132 != 0) = false := bne_eq_false_iff_eq.mpr c21
                clear c21
                by_cases c22 : t130 = (-1)
                · rw [if_pos c22] at H
                  have c22b0 : (t130 == (-1)) = true := beq_iff_eq.mpr c22
                  have c22b1 : (t130 != (-1)) = false := bne_eq_false_iff_eq.mpr c22
                  clear c22
                  by_cases c23 : t131 = (-1)
                  · rw [if_pos c23] at H
                    have c23b0 : (t131 == (-1)) = true := beq_iff_eq.mpr c23
                    have c23b1 : (t131 != (-1)) = false := bne_eq_false_iff_eq.mpr c23
                    clear c23
                    replace H := Option.bind_eq_some_iff.mp H
                    obtain ⟨t133, A240, H⟩ := H
                    replace H : (some t133) = some r := H
                    have A24 := Aside0.mk A240
                    clear A240
                    obtain rfl := Option.some.inj H
                    go_wp2_with (first | (go_at_call 8; (with_reducible refine (hopperlaw10_live.calls kj12  t133 _ A24.out).mono ?_); rintro e w25 ⟨rfl, hb⟩; have n0_ := Aside0.mk (below_step (by repeat (first | (with_reducible first | exact HB.out | apply below_alloc | apply pw_below_drewN | apply below_drew1) | exact HB.out)) hb); clear HB; have HB := n0_; clear n0_; (try clear hb); (try clear hb2); (try clear hk); (try clear hi)))
                    go_ret
                    exact ⟨by first | rfl | (simp [errW_none, errW_some] <;> rfl) | (simp [*, errW_none, errW_some] <;> rfl), by repeat (first | (with_reducible first | exact HB.out | apply below_alloc | apply pw_below_drewN | apply below_drew1) | exact HB.out)⟩
                  · rw [if_neg c23] at H
                    have c23b0 : (t131 == (-1)) = false := beq_eq_false_iff_ne.mpr c23
                    have c23b1 : (t131 != (-1)) = true := bne_iff_ne.mpr c23
                    obtain rfl := Option.some.inj H
                    go_wp2
                    go_ret
                    exact ⟨by first | rfl | (simp [errW_none, errW_some] <;> rfl) | (simp [*, errW_none, errW_some] <;> rfl), by repeat (first | (with_reducible first | exact HB.out | apply below_alloc | apply pw_below_drewN | apply below_drew1) | exact HB.out)⟩
                · rw [if_neg c22] at H
                  have c22b0 : (t130 == (-1)) = false := beq_eq_false_iff_ne.mpr c22
                  have c22b1 : (t130 != (-1)) = true := bne_iff_ne.mpr c22
                  obtain rfl := Option.some.inj H
                  go_wp2
                  go_ret
                  exact ⟨by first | rfl | (simp [errW_none, errW_some] <;> rfl) | (simp [*, errW_none, errW_some] <;> rfl), by repeat (first | (with_reducible first | exact HB.out | apply below_alloc | apply pw_below_drewN | apply below_drew1) | exact HB.out)⟩
              · rw [if_neg c21] at H
                have c21b0 : (t132 == 0) = false := beq_eq_false_iff_ne.mpr c21
                have c21b1 : (t132 != 0) = true := bne_iff_ne.mpr c21
                by_cases c26 : 0 ≤ t130
                · rw [if_pos c26] at H
                  have c26b0 : decide (0 ≤ t130) = true := decide_eq_true c26
                  clear c26
                  by_cases c27 : t130 < (l0.length : Int)
                  · rw [if_pos c27] at H
                    have c27b0 : decide (t130 < (l0.length : Int)) = true := decide_eq_true c27
                    clear c27
                    obtain ⟨bq28, hbq28⟩ : ∃ b_ : Bool, b_ = (rdOf false l0 t130) := ⟨_, rfl⟩
                    replace H : (if bq28 = true then (if 0 ≤ t131 then (if t131 < (l0.length : Int) then (if rdOf false l0 t131 = true then ((turn_Pick.f l0 (wrap64 (a1 + 1))).bind fun t136 => ((turn_Next.f l0 t130).bind fun t137 => (if t136 = t137 then ((turn_Pick.f l0 (wrap64 (a1 + t132))).bind fun t138 => (if t138 = t130 then ((hopperlaw10_live.f kj12).bind fun t139 => (some t139)) else (some false))) else (some false)))) else (some false)) else (none)) else (none)) else (some false)) = some r := by rw [← hbq28] at H; exact H
                    have Nbq28 := Aside0.mk hbq28
                    clear hbq28
                    by_cases c29 : bq28 = true
                    · subst c29
                      have H1 : (if 0 ≤ t131 then (if t131 < (l0.length : Int) then (if rdOf false l0 t131 = true then ((turn_Pick.f l0 (wrap64 (a1 + 1))).bind fun t136 => ((turn_Next.f l0 t130).bind fun t137 => (if t136 = t137 then ((turn_Pick.f l0 (wrap64 (a1 + t132))).bind fun t138 => (if t138 = t130 then ((hopperlaw10_live.f kj12).bind fun t139 => (some t139)) else (some false))) else (some false)))) else (some false)) else (none)) else (none)) = some r := by rw [if_pos rfl] at H; exact H
                      clear H
                      have H := H1
                      clear H1
                      by_cases c30 : 0 ≤ t131
                      · rw [if_pos c30] at H
                        have c30b0 : decide (0 ≤ t131) = true := decide_eq_true c30
                        clear c30
                        by_cases c31 : t131 < (l0.length : Int)
                        · rw [if_pos c31] at H
                          have c31b0 : decide (t131 < (l0.length : Int)) = true := decide_eq_true c31
                          clear c31
                          obtain ⟨bq32, hbq32⟩ : ∃ b_ : Bool, b_ = (rdOf false l0 t131) := ⟨_, rfl⟩
                          replace H : (if bq32 = true then ((turn_Pick.f l0 (wrap64 (a1 + 1))).bind fun t136 => ((turn_Next.f l0 t130).bind fun t137 => (if t136 = t137 then ((turn_Pick.f l0 (wrap64 (a1 + t132))).bind fun t138 => (if t138 = t130 then ((hopperlaw10_live.f kj12).bind fun t139 => (some t139)) else (some false))) else (some false)))) else (some false)) = some r := by rw [← hbq32] at H; exact H
                          have Nbq32 := Aside0.mk hbq32
                          clear hbq32
                          by_cases c33 : bq32 = true
                          · subst c33
                            have H1 : ((turn_Pick.f l0 (wrap64 (a1 + 1))).bind fun t136 => ((turn_Next.f l0 t130).bind fun t137 => (if t136 = t137 then ((turn_Pick.f l0 (wrap64 (a1 + t132))).bind fun t138 => (if t138 = t130 then ((hopperlaw10_live.f kj12).bind fun t139 => (some t139)) else (some false))) else (some false)))) = some r := by rw [if_pos rfl] at H; exact H
                            clear H
                            have H := H1
                            clear H1
                            replace H := Option.bind_eq_some_iff.mp H
                            obtain ⟨t136, A340, H⟩ := H
                            replace H : ((turn_Next.f l0 t130).bind fun t137 => (if t136 = t137 then ((turn_Pick.f l0 (wrap64 (a1 + t132))).bind fun t138 => (if t138 = t130 then ((hopperlaw10_live.f kj12).bind fun t139 => (some t139)) else (some false))) else (some false))) = some r := H
                            have A34 := Aside0.mk A340
                            clear A340
                            replace H := Option.bind_eq_some_iff.mp H
                            obtain ⟨t137, A350, H⟩ := H
                            replace H : (if t136 = t137 then ((turn_Pick.f l0 (wrap64 (a1 + t132))).bind fun t138 => (if t138 = t130 then ((hopperlaw10_live.f kj12).bind fun t139 => (some t139)) else (some false))) else (some false)) = some r := H
                            have A35 := Aside0.mk A350
                            clear A350
                            by_cases c36 : t136 = t137
                            · rw [if_pos c36] at H
                              have c36b0 : (t136 == t137) = true := beq_iff_eq.mpr c36
                              have c36b1 : (t136 != t137) = false := bne_eq_false_iff_eq.mpr c36
                              clear c36
                              replace H := Option.bind_eq_some_iff.mp H
                              obtain ⟨t138, A370, H⟩ := H
                              replace H : (if t138 = t130 then ((hopperlaw10_live.f kj12).bind fun t139 => (some t139)) else (some false)) = some r := H
                              have A37 := Aside0.mk A370
                              clear A370
                              by_cases c38 : t138 = t130
                              · rw [if_pos c38] at H
                                have c38b0 : (t138 == t130) = true := beq_iff_eq.mpr c38
                                have c38b1 : (t138 != t130) = false := bne_eq_false_iff_eq.mpr c38
                                clear c38
                                replace H := Option.bind_eq_some_iff.mp H
                                obtain ⟨t139, A390, H⟩ := H
                                replace H : (some t139) = some r := H
                                have A39 := Aside0.mk A390
                                clear A390
                                obtain rfl := Option.some.inj H
                                have p134 : 0 ≤ (t130 : Int) := of_decide_eq_true (by first | (with_reducible assumption) | assumption)
                                have q134 : t130 < (l0.length : Int) := of_decide_eq_true (by first | (with_reducible assumption) | assumption)
                                obtain ⟨ad134, e134, hx134_0⟩ := Kd.at_bool HR0.out t130 p134 q134
                                (try rw [← Nbq28.out] at hx134_0)
                                (try rw [← Nbq32.out] at hx134_0)
                                cases e134
                                replace hx134_0 := (HB.out.cell (World.block_lt_of_cell? w _ hx134_0)).trans hx134_0
                                replace p134 := eq_true p134
                                replace q134 := eq_true q134
                                have p135 : 0 ≤ (t131 : Int) := of_decide_eq_true (by first | (with_reducible assumption) | assumption)
                                have q135 : t131 < (l0.length : Int) := of_decide_eq_true (by first | (with_reducible assumption) | assumption)
                                obtain ⟨ad135, e135, hx135_0⟩ := Kd.at_bool HR0.out t131 p135 q135
                                (try rw [← Nbq28.out] at hx135_0)
                                (try rw [← Nbq32.out] at hx135_0)
                                obtain rfl : ad134 = ad135 := (by injection e135)
                                replace hx135_0 := (HB.out.cell (World.block_lt_of_cell? w _ hx135_0)).trans hx135_0
                                replace p135 := eq_true p135
                                replace q135 := eq_true q135
                                go_wp2_with (first | (go_at_call 11; (with_reducible refine (turn_Pick.calls _ _ l0 (wrap64 (a1 + 1)) t136 _ ?side1 ?side2 A34.out).mono ?_); (case side1 => repeat (first | exact (Kd.C_below HR0.out HB.out) | (with_reducible refine Kd.C_alloc ?_ _) | (with_reducible refine Kd.C_drewN ?_ _) | (with_reducible refine Kd.C_drew ?_))); (case side2 => exact HC0.out); rintro e w40 ⟨rfl, hb⟩; have n0_ := Aside0.mk (below_step (by repeat (first | (with_reducible first | exact HB.out | apply below_alloc | apply pw_below_drewN | apply below_drew1) | exact HB.out)) hb); clear HB; have HB := n0_; clear n0_; (try clear hb); (try clear hb2); (try clear hk); (try clear hi)) | (go_at_call 13; (with_reducible refine (turn_Next.calls _ _ l0 t130 t137 _ ?side1 ?side2 A35.out).mono ?_); (case side1 => repeat (first | exact (Kd.C_below HR0.out HB.out) | (with_reducible refine Kd.C_alloc ?_ _) | (with_reducible refine Kd.C_drewN ?_ _) | (with_reducible refine Kd.C_drew ?_))); (case side2 => exact HC0.out); rintro e w41 ⟨rfl, hb⟩; have n0_ := Aside0.mk (below_step (by repeat (first | (with_reducible first | exact HB.out | apply below_alloc | apply pw_below_drewN | apply below_drew1) | exact HB.out)) hb); clear HB; have HB := n0_; clear n0_; (try clear hb); (try clear hb2); (try clear hk); (try clear hi)) | (go_at_call 11; (with_reducible refine (turn_Pick.calls _ _ l0 (wrap64 (a1 + t132)) t138 _ ?side1 ?side2 A37.out).mono ?_); (case side1 => repeat (first | exact (Kd.C_below HR0.out HB.out) | (with_reducible refine Kd.C_alloc ?_ _) | (with_reducible refine Kd.C_drewN ?_ _) | (with_reducible refine Kd.C_drew ?_))); (case side2 => exact HC0.out); rintro e w42 ⟨rfl, hb⟩; have n0_ := Aside0.mk (below_step (by repeat (first | (with_reducible first | exact HB.out | apply below_alloc | apply pw_below_drewN | apply below_drew1) | exact HB.out)) hb); clear HB; have HB := n0_; clear n0_; (try clear hb); (try clear hb2); (try clear hk); (try clear hi)) | (go_at_call 8; (with_reducible refine (hopperlaw10_live.calls kj12  t139 _ A39.out).mono ?_); rintro e w43 ⟨rfl, hb⟩; have n0_ := Aside0.mk (below_step (by repeat (first | (with_reducible first | exact HB.out | apply below_alloc | apply pw_below_drewN | apply below_drew1) | exact HB.out)) hb); clear HB; have HB := n0_; clear n0_; (try clear hb); (try clear hb2); (try clear hk); (try clear hi)))
                                go_ret
                                exact ⟨by first | rfl | (simp [errW_none, errW_some] <;> rfl) | (simp [*, errW_none, errW_some] <;> rfl), by repeat (first | (with_reducible first | exact HB.out | apply below_alloc | apply pw_below_drewN | apply below_drew1) | exact HB.out)⟩
                              · rw [if_neg c38] at H
                                have c38b0 : (t138 == t130) = false := beq_eq_false_iff_ne.mpr c38
                                have c38b1 : (t138 != t130) = true := bne_iff_ne.mpr c38
                                obtain rfl := Option.some.inj H
                                have p134 : 0 ≤ (t130 : Int) := of_decide_eq_true (by first | (with_reducible assumption) | assumption)
                                have q134 : t130 < (l0.length : Int) := of_decide_eq_true (by first | (with_reducible assumption) | assumption)
                                obtain ⟨ad134, e134, hx134_0⟩ := Kd.at_bool HR0.out t130 p134 q134
                                (try rw [← Nbq28.out] at hx134_0)
                                (try rw [← Nbq32.out] at hx134_0)
                                cases e134
                                replace hx134_0 := (HB.out.cell (World.block_lt_of_cell? w _ hx134_0)).trans hx134_0
                                replace p134 := eq_true p134
                                replace q134 := eq_true q134
                                have p135 : 0 ≤ (t131 : Int) := of_decide_eq_true (by first | (with_reducible assumption) | assumption)
                                have q135 : t131 < (l0.length : Int) := of_decide_eq_true (by first | (with_reducible assumption) | assumption)
                                obtain ⟨ad135, e135, hx135_0⟩ := Kd.at_bool HR0.out t131 p135 q135
                                (try rw [← Nbq28.out] at hx135_0)
                                (try rw [← Nbq32.out] at hx135_0)
                                obtain rfl : ad134 = ad135 := (by injection e135)
                                replace hx135_0 := (HB.out.cell (World.block_lt_of_cell? w _ hx135_0)).trans hx135_0
                                replace p135 := eq_true p135
                                replace q135 := eq_true q135
                                go_wp2_with (first | (go_at_call 11; (with_reducible refine (turn_Pick.calls _ _ l0 (wrap64 (a1 + 1)) t136 _ ?side1 ?side2 A34.out).mono ?_); (case side1 => repeat (first | exact (Kd.C_below HR0.out HB.out) | (with_reducible refine Kd.C_alloc ?_ _) | (with_reducible refine Kd.C_drewN ?_ _) | (with_reducible refine Kd.C_drew ?_))); (case side2 => exact HC0.out); rintro e w44 ⟨rfl, hb⟩; have n0_ := Aside0.mk (below_step (by repeat (first | (with_reducible first | exact HB.out | apply below_alloc | apply pw_below_drewN | apply below_drew1) | exact HB.out)) hb); clear HB; have HB := n0_; clear n0_; (try clear hb); (try clear hb2); (try clear hk); (try clear hi)) | (go_at_call 13; (with_reducible refine (turn_Next.calls _ _ l0 t130 t137 _ ?side1 ?side2 A35.out).mono ?_); (case side1 => repeat (first | exact (Kd.C_below HR0.out HB.out) | (with_reducible refine Kd.C_alloc ?_ _) | (with_reducible refine Kd.C_drewN ?_ _) | (with_reducible refine Kd.C_drew ?_))); (case side2 => exact HC0.out); rintro e w45 ⟨rfl, hb⟩; have n0_ := Aside0.mk (below_step (by repeat (first | (with_reducible first | exact HB.out | apply below_alloc | apply pw_below_drewN | apply below_drew1) | exact HB.out)) hb); clear HB; have HB := n0_; clear n0_; (try clear hb); (try clear hb2); (try clear hk); (try clear hi)) | (go_at_call 11; (with_reducible refine (turn_Pick.calls _ _ l0 (wrap64 (a1 + t132)) t138 _ ?side1 ?side2 A37.out).mono ?_); (case side1 => repeat (first | exact (Kd.C_below HR0.out HB.out) | (with_reducible refine Kd.C_alloc ?_ _) | (with_reducible refine Kd.C_drewN ?_ _) | (with_reducible refine Kd.C_drew ?_))); (case side2 => exact HC0.out); rintro e w46 ⟨rfl, hb⟩; have n0_ := Aside0.mk (below_step (by repeat (first | (with_reducible first | exact HB.out | apply below_alloc | apply pw_below_drewN | apply below_drew1) | exact HB.out)) hb); clear HB; have HB := n0_; clear n0_; (try clear hb); (try clear hb2); (try clear hk); (try clear hi)))
                                go_ret
                                exact ⟨by first | rfl | (simp [errW_none, errW_some] <;> rfl) | (simp [*, errW_none, errW_some] <;> rfl), by repeat (first | (with_reducible first | exact HB.out | apply below_alloc | apply pw_below_drewN | apply below_drew1) | exact HB.out)⟩
                            · rw [if_neg c36] at H
                              have c36b0 : (t136 == t137) = false := beq_eq_false_iff_ne.mpr c36
                              have c36b1 : (t136 != t137) = true := bne_iff_ne.mpr c36
                              obtain rfl := Option.some.inj H
                              have p134 : 0 ≤ (t130 : Int) := of_decide_eq_true (by first | (with_reducible assumption) | assumption)
                              have q134 : t130 < (l0.length : Int) := of_decide_eq_true (by first | (with_reducible assumption) | assumption)
                              obtain ⟨ad134, e134, hx134_0⟩ := Kd.at_bool HR0.out t130 p134 q134
                              (try rw [← Nbq28.out] at hx134_0)
                              (try rw [← Nbq32.out] at hx134_0)
                              cases e134
                              replace hx134_0 := (HB.out.cell (World.block_lt_of_cell? w _ hx134_0)).trans hx134_0
                              replace p134 := eq_true p134
                              replace q134 := eq_true q134
                              have p135 : 0 ≤ (t131 : Int) := of_decide_eq_true (by first | (with_reducible assumption) | assumption)
                              have q135 : t131 < (l0.length : Int) := of_decide_eq_true (by first | (with_reducible assumption) | assumption)
                              obtain ⟨ad135, e135, hx135_0⟩ := Kd.at_bool HR0.out t131 p135 q135
                              (try rw [← Nbq28.out] at hx135_0)
                              (try rw [← Nbq32.out] at hx135_0)
                              obtain rfl : ad134 = ad135 := (by injection e135)
                              replace hx135_0 := (HB.out.cell (World.block_lt_of_cell? w _ hx135_0)).trans hx135_0
                              replace p135 := eq_true p135
                              replace q135 := eq_true q135
                              go_wp2_with (first | (go_at_call 11; (with_reducible refine (turn_Pick.calls _ _ l0 (wrap64 (a1 + 1)) t136 _ ?side1 ?side2 A34.out).mono ?_); (case side1 => repeat (first | exact (Kd.C_below HR0.out HB.out) | (with_reducible refine Kd.C_alloc ?_ _) | (with_reducible refine Kd.C_drewN ?_ _) | (with_reducible refine Kd.C_drew ?_))); (case side2 => exact HC0.out); rintro e w47 ⟨rfl, hb⟩; have n0_ := Aside0.mk (below_step (by repeat (first | (with_reducible first | exact HB.out | apply below_alloc | apply pw_below_drewN | apply below_drew1) | exact HB.out)) hb); clear HB; have HB := n0_; clear n0_; (try clear hb); (try clear hb2); (try clear hk); (try clear hi)) | (go_at_call 13; (with_reducible refine (turn_Next.calls _ _ l0 t130 t137 _ ?side1 ?side2 A35.out).mono ?_); (case side1 => repeat (first | exact (Kd.C_below HR0.out HB.out) | (with_reducible refine Kd.C_alloc ?_ _) | (with_reducible refine Kd.C_drewN ?_ _) | (with_reducible refine Kd.C_drew ?_))); (case side2 => exact HC0.out); rintro e w48 ⟨rfl, hb⟩; have n0_ := Aside0.mk (below_step (by repeat (first | (with_reducible first | exact HB.out | apply below_alloc | apply pw_below_drewN | apply below_drew1) | exact HB.out)) hb); clear HB; have HB := n0_; clear n0_; (try clear hb); (try clear hb2); (try clear hk); (try clear hi)))
                              go_ret
                              exact ⟨by first | rfl | (simp [errW_none, errW_some] <;> rfl) | (simp [*, errW_none, errW_some] <;> rfl), by repeat (first | (with_reducible first | exact HB.out | apply below_alloc | apply pw_below_drewN | apply below_drew1) | exact HB.out)⟩
                          · replace c33 := Bool.eq_false_iff.mpr c33
                            subst c33
                            have H1 : (some false) = some r := by rw [if_neg (show ¬ (false = true) by decide)] at H; exact H
                            clear H
                            have H := H1
                            clear H1
                            obtain rfl := Option.some.inj H
                            have p134 : 0 ≤ (t130 : Int) := of_decide_eq_true (by first | (with_reducible assumption) | assumption)
                            have q134 : t130 < (l0.length : Int) := of_decide_eq_true (by first | (with_reducible assumption) | assumption)
                            obtain ⟨ad134, e134, hx134_0⟩ := Kd.at_bool HR0.out t130 p134 q134
                            (try rw [← Nbq28.out] at hx134_0)
                            (try rw [← Nbq32.out] at hx134_0)
                            cases e134
                            replace hx134_0 := (HB.out.cell (World.block_lt_of_cell? w _ hx134_0)).trans hx134_0
                            replace p134 := eq_true p134
                            replace q134 := eq_true q134
                            have p135 : 0 ≤ (t131 : Int) := of_decide_eq_true (by first | (with_reducible assumption) | assumption)
                            have q135 : t131 < (l0.length : Int) := of_decide_eq_true (by first | (with_reducible assumption) | assumption)
                            obtain ⟨ad135, e135, hx135_0⟩ := Kd.at_bool HR0.out t131 p135 q135
                            (try rw [← Nbq28.out] at hx135_0)
                            (try rw [← Nbq32.out] at hx135_0)
                            obtain rfl : ad134 = ad135 := (by injection e135)
                            replace hx135_0 := (HB.out.cell (World.block_lt_of_cell? w _ hx135_0)).trans hx135_0
                            replace p135 := eq_true p135
                            replace q135 := eq_true q135
                            go_wp2
                            go_ret
                            exact ⟨by first | rfl | (simp [errW_none, errW_some] <;> rfl) | (simp [*, errW_none, errW_some] <;> rfl), by repeat (first | (with_reducible first | exact HB.out | apply below_alloc | apply pw_below_drewN | apply below_drew1) | exact HB.out)⟩
                        · rw [if_neg c31] at H
                          exact absurd H (by simp)
                      · rw [if_neg c30] at H
                        exact absurd H (by simp)
                    · replace c29 := Bool.eq_false_iff.mpr c29
                      subst c29
                      have H1 : (some false) = some r := by rw [if_neg (show ¬ (false = true) by decide)] at H; exact H
                      clear H
                      have H := H1
                      clear H1
                      obtain rfl := Option.some.inj H
                      have p134 : 0 ≤ (t130 : Int) := of_decide_eq_true (by first | (with_reducible assumption) | assumption)
                      have q134 : t130 < (l0.length : Int) := of_decide_eq_true (by first | (with_reducible assumption) | assumption)
                      obtain ⟨ad134, e134, hx134_0⟩ := Kd.at_bool HR0.out t130 p134 q134
                      (try rw [← Nbq28.out] at hx134_0)
                      cases e134
                      replace hx134_0 := (HB.out.cell (World.block_lt_of_cell? w _ hx134_0)).trans hx134_0
                      replace p134 := eq_true p134
                      replace q134 := eq_true q134
                      go_wp2
                      go_ret
                      exact ⟨by first | rfl | (simp [errW_none, errW_some] <;> rfl) | (simp [*, errW_none, errW_some] <;> rfl), by repeat (first | (with_reducible first | exact HB.out | apply below_alloc | apply pw_below_drewN | apply below_drew1) | exact HB.out)⟩
                  · rw [if_neg c27] at H
                    exact absurd H (by simp)
                · rw [if_neg c26] at H
                  exact absurd H (by simp)

end Go.Proofs.Ytnjjgaahkbemmaa.PTurnMay
