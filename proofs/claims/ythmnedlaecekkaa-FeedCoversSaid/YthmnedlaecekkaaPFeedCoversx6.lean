/- What the functions that the law reaches answer, each as a plain Lean function, with a proof that the call in memory comes to that answer. Written by wip/tools/given.py of this session out of the print.py of the kit, with stand-ins for some functions. -/
import Derived.Test.YthmnedlaecekkaaPFeedCoversx0
import Derived.Test.YthmnedlaecekkaaPFeedCoversx1
namespace Go.Proofs.Ythmnedlaecekkaa.PFeedCovers
open Go.RowKit Go.Proofs.YthmnedlaecekkaaW.PrintWords Go.Proofs.YthmnedlaecekkaaW.PrintLast Go.Proofs.YthmnedlaecekkaaW.PrintMore
attribute [local go_sem] max2_int min2_int max_two min_two max_three min_three max_four min_four   -- for this text's walks alone
set_option linter.unusedVariables false
set_option linter.unusedSimpArgs false

attribute [local go_sem high] eqA36
/-! ### hopperref13_Events: function 18 -/
def hopperref13_Events.l0 : Nat → List (S36) → List (S36) → Int → Option (Bool)
  | 0, _, _, _ => none
  | k + 1, x0, x1, x5 => if x5 < (x0.length : Int) then (if 0 ≤ x5 then (if x5 < (x1.length : Int) then (if (!(((rd_T36 x0 x5).f0) == ((rd_T36 x1 x5).f0)) || ((!(((rd_T36 x0 x5).f1.f0) == ((rd_T36 x1 x5).f1.f0)) || (!(((rd_T36 x0 x5).f1.f1) == ((rd_T36 x1 x5).f1.f1)) || (!(((rd_T36 x0 x5).f1.f2) == ((rd_T36 x1 x5).f1.f2)) || (!(((rd_T36 x0 x5).f1.f3) == ((rd_T36 x1 x5).f1.f3)) || (!(((rd_T36 x0 x5).f1.f4) == ((rd_T36 x1 x5).f1.f4)) || (!((((rd_T36 x0 x5).f1.f5).toList) == (((rd_T36 x1 x5).f1.f5).toList)))))))) || (!(((rd_T36 x0 x5).f2) == ((rd_T36 x1 x5).f2))))) = true then (some false) else (hopperref13_Events.l0 k x0 x1 (wrap64 (x5 + 1)))) else (none)) else (none)) else (some true)
def hopperref13_Events.f (k : Nat) (l0 : List (S36)) (l1 : List (S36)) : Option (Bool) := if (l0.length : Int) = (l1.length : Int) then (hopperref13_Events.l0 k l0 l1 0) else (some false)
theorem hopperref13_Events.mono_l : ∀ k, (∀ y0 y1 y2, LeO (hopperref13_Events.l0 k y0 y1 y2) (hopperref13_Events.l0 (k + 1) y0 y1 y2))
  | 0 => fun _ _ _ r h => by simp [hopperref13_Events.l0] at h
  | k + 1 => by
    have ih0 := hopperref13_Events.mono_l k
    · intro y0 y1 y2
      unfold hopperref13_Events.l0
      repeat' first
      | (with_reducible exact ih0 _ _ _)
      | (with_reducible exact LeO.refl _)
      | (with_reducible exact LeO.none _)
      | (with_reducible refine LeO.ite ?_ ?_)
      | (with_reducible refine LeO.bind ?_ (fun _ => ?_))
      | exact ih0 _ _ _
      | exact LeO.none _
      | refine LeO.ite ?_ ?_
      | refine LeO.bind ?_ (fun _ => ?_)
theorem hopperref13_Events.mono : ∀ a0 a1 k, LeO (hopperref13_Events.f k a0 a1) (hopperref13_Events.f (k + 1) a0 a1) := by
  intro a0 a1 k
  have ih0 := hopperref13_Events.mono_l k
  unfold hopperref13_Events.f
  repeat' first
      | (with_reducible exact ih0 _ _ _)
      | (with_reducible exact LeO.refl _)
      | (with_reducible exact LeO.none _)
      | (with_reducible refine LeO.ite ?_ ?_)
      | (with_reducible refine LeO.bind ?_ (fun _ => ?_))
      | exact ih0 _ _ _
      | exact LeO.none _
      | refine LeO.ite ?_ ?_
      | refine LeO.bind ?_ (fun _ => ?_)
set_option maxHeartbeats 8000000 in
set_option maxRecDepth 100000 in
theorem hopperref13_Events.calls (k : Nat) (A0 : Option Addr) (c0 : Nat) (l0 : List (S36)) (A1 : Option Addr) (c1 : Nat) (l1 : List (S36)) (r : Bool) (w : World) (hr0 : Kd.C k36 w A0 l0.length l0) (hc0 : l0.length ≤ c0) (hr1 : Kd.C k36 w A1 l1.length l1) (hc1 : l1.length ≤ c1) (h : hopperref13_Events.f k l0 l1 = some r) :
    Calls Try.prog 18 #[.slice A0 l0.length c0, .slice A1 l1.length c1] w fun e w' => e = .returned (.bool r) ∧ Drawn0 w w' := by
  have hu36 := Try.underlying36
  have HR0 := Aside0.mk hr0
  have HC0 := Aside0.mk hc0
  clear hr0 hc0
  have HR1 := Aside0.mk hr1
  have HC1 := Aside0.mk hc1
  clear hr1 hc1
  have H : (if (l0.length : Int) = (l1.length : Int) then (hopperref13_Events.l0 k l0 l1 0) else (some false)) = some r := h
  clear h
  by_cases c3 : (l0.length : Int) = (l1.length : Int)
  · rw [if_pos c3] at H
    have c3b0 : ((l0.length : Int) == (l1.length : Int)) = true := beq_iff_eq.mpr c3
    have c3b1 : ((l0.length : Int) != (l1.length : Int)) = false := bne_eq_false_iff_eq.mpr c3
    have c3b2 : (l0.length == l1.length) = true := by first | simpa using c3 | (simp at c3 ⊢; omega)
    clear c3
    have H' := Aside0.mk H
    clear H
    go_enter Try.func18, Try.ntmps18
    go_wp2
    repeat (go_quiet (fail); try go_wp2)
    go_loopg [5] k (fun kq v5 w' => ∃ (x5_1 : Int), v5 = .int .i64 x5_1 ∧ Aside0 (hopperref13_Events.l0 kq l0 l1 x5_1 = some r) ∧ Aside0 (kq ≤ k) ∧ Drawn0 w w')
    case atStart => exact ⟨(0), (by first | rfl | (simp; done) | (simp [*]; done)), H', ⟨Nat.le_refl _⟩, by repeat (first | exact Drawn0.refl _ | apply Drawn0.step)⟩
    case round =>
      clear H'
      try clear c1
      try clear p2
      try clear c3
      try clear c3b0
      try clear c3b1
      try clear c3b2
      obtain ⟨x5_1, rfl, HA, HK1, ⟨m1, rfl⟩⟩ := hrel
      cases gk with
      | zero => exact absurd HA.out (by simp [hopperref13_Events.l0])
      | succ k1 =>
        have H := HA.out
        clear HA
        simp only [hopperref13_Events.l0] at H
        by_cases c4 : x5_1 < (l0.length : Int)
        rotate_left
        · rw [if_neg c4] at H
          have c4b0 : decide (x5_1 < (l0.length : Int)) = false := decide_eq_false c4
          clear c4
          obtain rfl := Option.some.inj H
          go_wp2
          repeat (go_quiet (fail); try go_wp2)
          go_ret
          exact ⟨by first | rfl | (simp; done) | (simp [*]; done), by repeat (first | exact Drawn0.refl _ | apply Drawn0.step)⟩
        rw [if_pos c4] at H
        have c4b0 : decide (x5_1 < (l0.length : Int)) = true := decide_eq_true c4
        clear c4
        by_cases c5 : 0 ≤ x5_1
        rotate_left
        · rw [if_neg c5] at H
          exact absurd H (by simp)
        rw [if_pos c5] at H
        have c5b0 : decide (0 ≤ x5_1) = true := decide_eq_true c5
        clear c5
        by_cases c6 : x5_1 < (l1.length : Int)
        rotate_left
        · rw [if_neg c6] at H
          exact absurd H (by simp)
        rw [if_pos c6] at H
        have c6b0 : decide (x5_1 < (l1.length : Int)) = true := decide_eq_true c6
        clear c6
        by_cases c7 : (!(((rd_T36 l0 x5_1).f0) == ((rd_T36 l1 x5_1).f0)) || ((!(((rd_T36 l0 x5_1).f1.f0) == ((rd_T36 l1 x5_1).f1.f0)) || (!(((rd_T36 l0 x5_1).f1.f1) == ((rd_T36 l1 x5_1).f1.f1)) || (!(((rd_T36 l0 x5_1).f1.f2) == ((rd_T36 l1 x5_1).f1.f2)) || (!(((rd_T36 l0 x5_1).f1.f3) == ((rd_T36 l1 x5_1).f1.f3)) || (!(((rd_T36 l0 x5_1).f1.f4) == ((rd_T36 l1 x5_1).f1.f4)) || (!((((rd_T36 l0 x5_1).f1.f5).toList) == (((rd_T36 l1 x5_1).f1.f5).toList)))))))) || (!(((rd_T36 l0 x5_1).f2) == ((rd_T36 l1 x5_1).f2))))) = true
        · rw [if_pos c7] at H
          have c7b0 : (!(((rd_T36 l0 x5_1).f0) == ((rd_T36 l1 x5_1).f0)) || ((!(((rd_T36 l0 x5_1).f1.f0) == ((rd_T36 l1 x5_1).f1.f0)) || (!(((rd_T36 l0 x5_1).f1.f1) == ((rd_T36 l1 x5_1).f1.f1)) || (!(((rd_T36 l0 x5_1).f1.f2) == ((rd_T36 l1 x5_1).f1.f2)) || (!(((rd_T36 l0 x5_1).f1.f3) == ((rd_T36 l1 x5_1).f1.f3)) || (!(((rd_T36 l0 x5_1).f1.f4) == ((rd_T36 l1 x5_1).f1.f4)) || (!((((rd_T36 l0 x5_1).f1.f5).toList) == (((rd_T36 l1 x5_1).f1.f5).toList)))))))) || (!(((rd_T36 l0 x5_1).f2) == ((rd_T36 l1 x5_1).f2))))) = true := c7
          clear c7
          obtain rfl := Option.some.inj H
          have p328 : 0 ≤ (x5_1 : Int) := of_decide_eq_true (by first | (with_reducible assumption) | assumption)
          have q328 : x5_1 < (l0.length : Int) := of_decide_eq_true (by first | (with_reducible assumption) | assumption)
          obtain ⟨ad328, e328, hx328_0, hx328_1, hx328_2, hx328_3, hx328_4, hx328_5, hx328_6, hx328_7⟩ := at_T36 HR0.out x5_1 p328 q328
          cases e328
          replace p328 := eq_true p328
          replace q328 := eq_true q328
          have p329 : 0 ≤ (x5_1 : Int) := of_decide_eq_true (by first | (with_reducible assumption) | assumption)
          have q329 : x5_1 < (l1.length : Int) := of_decide_eq_true (by first | (with_reducible assumption) | assumption)
          obtain ⟨ad329, e329, hx329_0, hx329_1, hx329_2, hx329_3, hx329_4, hx329_5, hx329_6, hx329_7⟩ := at_T36 HR1.out x5_1 p329 q329
          cases e329
          replace p329 := eq_true p329
          replace q329 := eq_true q329
          go_wp2
          repeat (go_quiet (fail); try go_wp2)
          go_ret
          exact ⟨by first | rfl | (simp; done) | (simp [*]; done), by repeat (first | exact Drawn0.refl _ | apply Drawn0.step)⟩
        · rw [if_neg c7] at H
          have c7b0 : (!(((rd_T36 l0 x5_1).f0) == ((rd_T36 l1 x5_1).f0)) || ((!(((rd_T36 l0 x5_1).f1.f0) == ((rd_T36 l1 x5_1).f1.f0)) || (!(((rd_T36 l0 x5_1).f1.f1) == ((rd_T36 l1 x5_1).f1.f1)) || (!(((rd_T36 l0 x5_1).f1.f2) == ((rd_T36 l1 x5_1).f1.f2)) || (!(((rd_T36 l0 x5_1).f1.f3) == ((rd_T36 l1 x5_1).f1.f3)) || (!(((rd_T36 l0 x5_1).f1.f4) == ((rd_T36 l1 x5_1).f1.f4)) || (!((((rd_T36 l0 x5_1).f1.f5).toList) == (((rd_T36 l1 x5_1).f1.f5).toList)))))))) || (!(((rd_T36 l0 x5_1).f2) == ((rd_T36 l1 x5_1).f2))))) = false := by simpa using c7
          clear c7
          have H' := Aside0.mk H
          clear H
          have p328 : 0 ≤ (x5_1 : Int) := of_decide_eq_true (by first | (with_reducible assumption) | assumption)
          have q328 : x5_1 < (l0.length : Int) := of_decide_eq_true (by first | (with_reducible assumption) | assumption)
          obtain ⟨ad328, e328, hx328_0, hx328_1, hx328_2, hx328_3, hx328_4, hx328_5, hx328_6, hx328_7⟩ := at_T36 HR0.out x5_1 p328 q328
          cases e328
          replace p328 := eq_true p328
          replace q328 := eq_true q328
          have p329 : 0 ≤ (x5_1 : Int) := of_decide_eq_true (by first | (with_reducible assumption) | assumption)
          have q329 : x5_1 < (l1.length : Int) := of_decide_eq_true (by first | (with_reducible assumption) | assumption)
          obtain ⟨ad329, e329, hx329_0, hx329_1, hx329_2, hx329_3, hx329_4, hx329_5, hx329_6, hx329_7⟩ := at_T36 HR1.out x5_1 p329 q329
          cases e329
          replace p329 := eq_true p329
          replace q329 := eq_true q329
          go_wp2
          repeat (go_quiet (fail); try go_wp2)
          go_roundg k1
          case measure => have := HK1.out; omega
          case rel => exact ⟨(wrap64 (x5_1 + 1)), (by first | rfl | (simp; done) | (simp [*]; done)), H', ⟨by have := HK1.out; omega⟩, by repeat (first | exact Drawn0.refl _ | apply Drawn0.step)⟩
  · rw [if_neg c3] at H
    have c3b0 : ((l0.length : Int) == (l1.length : Int)) = false := beq_eq_false_iff_ne.mpr c3
    have c3b1 : ((l0.length : Int) != (l1.length : Int)) = true := bne_iff_ne.mpr c3
    have c3b2 : (l0.length == l1.length) = false := by first | simpa using c3 | (simp at c3 ⊢; omega)
    obtain rfl := Option.some.inj H
    go_enter Try.func18, Try.ntmps18
    go_wp2
    repeat (go_quiet (fail); try go_wp2)
    go_ret
    exact ⟨by first | rfl | (simp; done) | (simp [*]; done), by repeat (first | exact Drawn0.refl _ | apply Drawn0.step)⟩

/-! ### hopperref14_Covers: function 22 -/
mutual
def hopperref14_Covers.l0 : Nat → List (S36) → List (S36) → Int → Int → Option (Bool)
  | 0, _, _, _, _ => none
  | k + 1, x0, x1, x5, x6 => if x6 < (x0.length : Int) then (if 0 ≤ x6 then (if ((rd_T36 x0 x6).f0) = 4 then (if ((rd_T36 x0 x6).f2) < 1 then (hopperref14_Covers.j1 k x0 x1 x5 x6 true) else (hopperref14_Covers.j1 k x0 x1 x5 x6 (decide (((rd_T36 x0 x6).f2) > (wrap64 ((x1.length : Int) - x5)))))) else (if x5 ≥ (x1.length : Int) then (some false) else (if 0 ≤ x5 then (if x5 < (x1.length : Int) then (if (!(((rd_T36 x1 x5).f0) == ((rd_T36 x0 x6).f0)) || ((!(((rd_T36 x1 x5).f1.f0) == ((rd_T36 x0 x6).f1.f0)) || (!(((rd_T36 x1 x5).f1.f1) == ((rd_T36 x0 x6).f1.f1)) || (!(((rd_T36 x1 x5).f1.f2) == ((rd_T36 x0 x6).f1.f2)) || (!(((rd_T36 x1 x5).f1.f3) == ((rd_T36 x0 x6).f1.f3)) || (!(((rd_T36 x1 x5).f1.f4) == ((rd_T36 x0 x6).f1.f4)) || (!((((rd_T36 x1 x5).f1.f5).toList) == (((rd_T36 x0 x6).f1.f5).toList)))))))) || (!(((rd_T36 x1 x5).f2) == ((rd_T36 x0 x6).f2))))) = true then (some false) else (hopperref14_Covers.l0 k x0 x1 (wrap64 (x5 + 1)) (wrap64 (x6 + 1)))) else (none)) else (none)))) else (none)) else (some (x5 == (x1.length : Int)))
def hopperref14_Covers.j1 : Nat → List (S36) → List (S36) → Int → Int → Bool → Option (Bool)
  | 0, _, _, _, _, _ => none
  | k + 1, x0, x1, x5, x6, x36 => if x36 = true then (some false) else (if 0 ≤ x6 then (if x6 < (x0.length : Int) then (hopperref14_Covers.l0 k x0 x1 (wrap64 (x5 + ((rd_T36 x0 x6).f2))) (wrap64 (x6 + 1))) else (none)) else (none))
end
def hopperref14_Covers.f (k : Nat) (l0 : List (S36)) (l1 : List (S36)) : Option (Bool) := hopperref14_Covers.l0 k l0 l1 0 0
theorem hopperref14_Covers.mono_l : ∀ k, (∀ y0 y1 y2 y3, LeO (hopperref14_Covers.l0 k y0 y1 y2 y3) (hopperref14_Covers.l0 (k + 1) y0 y1 y2 y3)) ∧ (∀ y0 y1 y2 y3 y4, LeO (hopperref14_Covers.j1 k y0 y1 y2 y3 y4) (hopperref14_Covers.j1 (k + 1) y0 y1 y2 y3 y4))
  | 0 => ⟨fun _ _ _ _ r h => by simp [hopperref14_Covers.l0] at h, fun _ _ _ _ _ r h => by simp [hopperref14_Covers.j1] at h⟩
  | k + 1 => by
    obtain ⟨ih0, ih1⟩ := hopperref14_Covers.mono_l k
    refine ⟨?_, ?_⟩
    · intro y0 y1 y2 y3
      unfold hopperref14_Covers.l0
      repeat' first
      | (with_reducible exact ih0 _ _ _ _)
      | (with_reducible exact ih1 _ _ _ _ _)
      | (with_reducible exact LeO.refl _)
      | (with_reducible exact LeO.none _)
      | (with_reducible refine LeO.ite ?_ ?_)
      | (with_reducible refine LeO.bind ?_ (fun _ => ?_))
      | exact ih0 _ _ _ _
      | exact ih1 _ _ _ _ _
      | exact LeO.none _
      | refine LeO.ite ?_ ?_
      | refine LeO.bind ?_ (fun _ => ?_)
    · intro y0 y1 y2 y3 y4
      unfold hopperref14_Covers.j1
      repeat' first
      | (with_reducible exact ih0 _ _ _ _)
      | (with_reducible exact ih1 _ _ _ _ _)
      | (with_reducible exact LeO.refl _)
      | (with_reducible exact LeO.none _)
      | (with_reducible refine LeO.ite ?_ ?_)
      | (with_reducible refine LeO.bind ?_ (fun _ => ?_))
      | exact ih0 _ _ _ _
      | exact ih1 _ _ _ _ _
      | exact LeO.none _
      | refine LeO.ite ?_ ?_
      | refine LeO.bind ?_ (fun _ => ?_)
theorem hopperref14_Covers.mono : ∀ a0 a1 k, LeO (hopperref14_Covers.f k a0 a1) (hopperref14_Covers.f (k + 1) a0 a1) := by
  intro a0 a1 k
  obtain ⟨ih0, ih1⟩ := hopperref14_Covers.mono_l k
  unfold hopperref14_Covers.f
  repeat' first
      | (with_reducible exact ih0 _ _ _ _)
      | (with_reducible exact ih1 _ _ _ _ _)
      | (with_reducible exact LeO.refl _)
      | (with_reducible exact LeO.none _)
      | (with_reducible refine LeO.ite ?_ ?_)
      | (with_reducible refine LeO.bind ?_ (fun _ => ?_))
      | exact ih0 _ _ _ _
      | exact ih1 _ _ _ _ _
      | exact LeO.none _
      | refine LeO.ite ?_ ?_
      | refine LeO.bind ?_ (fun _ => ?_)
set_option maxHeartbeats 8000000 in
set_option maxRecDepth 100000 in
theorem hopperref14_Covers.calls (k : Nat) (A0 : Option Addr) (c0 : Nat) (l0 : List (S36)) (A1 : Option Addr) (c1 : Nat) (l1 : List (S36)) (r : Bool) (w : World) (hr0 : Kd.C k36 w A0 l0.length l0) (hc0 : l0.length ≤ c0) (hr1 : Kd.C k36 w A1 l1.length l1) (hc1 : l1.length ≤ c1) (h : hopperref14_Covers.f k l0 l1 = some r) :
    Calls Try.prog 22 #[.slice A0 l0.length c0, .slice A1 l1.length c1] w fun e w' => e = .returned (.bool r) ∧ Drawn0 w w' := by
  have hu36 := Try.underlying36
  have HR0 := Aside0.mk hr0
  have HC0 := Aside0.mk hc0
  clear hr0 hc0
  have HR1 := Aside0.mk hr1
  have HC1 := Aside0.mk hc1
  clear hr1 hc1
  have H : (hopperref14_Covers.l0 k l0 l1 0 0) = some r := h
  clear h
  have H' := Aside0.mk H
  clear H
  go_enter Try.func22, Try.ntmps22
  go_wp2
  repeat (go_quiet (fail); try go_wp2)
  go_loopg [5, 6] k (fun kq v5 v6 w' => ∃ (x5_1 : Int) (x6_1 : Int), v5 = .int .i64 x5_1 ∧ v6 = .int .i64 x6_1 ∧ Aside0 (hopperref14_Covers.l0 kq l0 l1 x5_1 x6_1 = some r) ∧ Aside0 (kq ≤ k) ∧ Drawn0 w w')
  case atStart => exact ⟨(0), (0), (by first | rfl | (simp; done) | (simp [*]; done)), (by first | rfl | (simp; done) | (simp [*]; done)), H', ⟨Nat.le_refl _⟩, by repeat (first | exact Drawn0.refl _ | apply Drawn0.step)⟩
  case round =>
    clear H'
    try clear c1
    try clear c2
    try clear p2
    obtain ⟨x5_1, x6_1, rfl, rfl, HA, HK1, ⟨m1, rfl⟩⟩ := hrel
    cases gk with
    | zero => exact absurd HA.out (by simp [hopperref14_Covers.l0])
    | succ k1 =>
      have H := HA.out
      clear HA
      simp only [hopperref14_Covers.l0] at H
      by_cases c3 : x6_1 < (l0.length : Int)
      rotate_left
      · rw [if_neg c3] at H
        have c3b0 : decide (x6_1 < (l0.length : Int)) = false := decide_eq_false c3
        clear c3
        obtain rfl := Option.some.inj H
        go_wp2
        repeat (go_quiet (fail); try go_wp2)
        go_ret
        exact ⟨by first | rfl | (simp; done) | (simp [*]; done), by repeat (first | exact Drawn0.refl _ | apply Drawn0.step)⟩
      rw [if_pos c3] at H
      have c3b0 : decide (x6_1 < (l0.length : Int)) = true := decide_eq_true c3
      clear c3
      by_cases c4 : 0 ≤ x6_1
      rotate_left
      · rw [if_neg c4] at H
        exact absurd H (by simp)
      rw [if_pos c4] at H
      have c4b0 : decide (0 ≤ x6_1) = true := decide_eq_true c4
      clear c4
      by_cases c5 : ((rd_T36 l0 x6_1).f0) = 4
      · rw [if_pos c5] at H
        have c5b0 : (((rd_T36 l0 x6_1).f0) == 4) = true := beq_iff_eq.mpr c5
        have c5b1 : (((rd_T36 l0 x6_1).f0) != 4) = false := bne_eq_false_iff_eq.mpr c5
        clear c5
        have HC6 := Aside0.mk H
        clear H
        have p330 : 0 ≤ (x6_1 : Int) := of_decide_eq_true (by first | (with_reducible assumption) | assumption)
        have q330 : x6_1 < (l0.length : Int) := of_decide_eq_true (by first | (with_reducible assumption) | assumption)
        obtain ⟨ad330, e330, hx330_0, hx330_1, hx330_2, hx330_3, hx330_4, hx330_5, hx330_6, hx330_7⟩ := at_T36 HR0.out x6_1 p330 q330
        cases e330
        replace p330 := eq_true p330
        replace q330 := eq_true q330
        go_upto_region 6 with (fail)
        repeat (go_quiet (fail); go_upto_region 6 with (fail))
        go_cut [36] (fun v36 wc => ∃ (kq : Nat) (x36_5 : Bool), v36 = .bool x36_5 ∧ Aside0 (hopperref14_Covers.j1 kq l0 l1 x5_1 x6_1 x36_5 = some r) ∧ Aside0 (kq ≤ k1) ∧ Drawn0 w wc)
        case first =>
          have H := HC6.out
          clear HC6
          by_cases c7 : ((rd_T36 l0 x6_1).f2) < 1
          · rw [if_pos c7] at H
            have c7b0 : decide (((rd_T36 l0 x6_1).f2) < 1) = true := decide_eq_true c7
            clear c7
            (first | rw [c7b0] | (simp only [i64_w, i32_w]; rw [c7b0]) | skip)
            have H' := Aside0.mk H
            clear H
            have p331 : 0 ≤ (x6_1 : Int) := of_decide_eq_true (by first | (with_reducible assumption) | assumption)
            have q331 : x6_1 < (l0.length : Int) := of_decide_eq_true (by first | (with_reducible assumption) | assumption)
            obtain ⟨ad331, e331, hx331_0, hx331_1, hx331_2, hx331_3, hx331_4, hx331_5, hx331_6, hx331_7⟩ := at_T36 HR0.out x6_1 p331 q331
            obtain rfl : ad330 = ad331 := (by injection e331)
            replace p331 := eq_true p331
            replace q331 := eq_true q331
            go_wp2
            repeat (go_quiet (fail); try go_wp2)
            go_meet
            case rel => exact ⟨_, (true), (by first | rfl | (simp; done) | (simp [*]; done)), H', ⟨by have := HK1.out; first | omega | exact Nat.le_refl _⟩, by repeat (first | exact Drawn0.refl _ | apply Drawn0.step)⟩
          · rw [if_neg c7] at H
            have c7b0 : decide (((rd_T36 l0 x6_1).f2) < 1) = false := decide_eq_false c7
            clear c7
            (first | rw [c7b0] | (simp only [i64_w, i32_w]; rw [c7b0]) | skip)
            have H' := Aside0.mk H
            clear H
            have p331 : 0 ≤ (x6_1 : Int) := of_decide_eq_true (by first | (with_reducible assumption) | assumption)
            have q331 : x6_1 < (l0.length : Int) := of_decide_eq_true (by first | (with_reducible assumption) | assumption)
            obtain ⟨ad331, e331, hx331_0, hx331_1, hx331_2, hx331_3, hx331_4, hx331_5, hx331_6, hx331_7⟩ := at_T36 HR0.out x6_1 p331 q331
            obtain rfl : ad330 = ad331 := (by injection e331)
            replace p331 := eq_true p331
            replace q331 := eq_true q331
            have p332 : 0 ≤ (x6_1 : Int) := of_decide_eq_true (by first | (with_reducible assumption) | assumption)
            have q332 : x6_1 < (l0.length : Int) := of_decide_eq_true (by first | (with_reducible assumption) | assumption)
            obtain ⟨ad332, e332, hx332_0, hx332_1, hx332_2, hx332_3, hx332_4, hx332_5, hx332_6, hx332_7⟩ := at_T36 HR0.out x6_1 p332 q332
            obtain rfl : ad330 = ad332 := (by injection e332)
            replace p332 := eq_true p332
            replace q332 := eq_true q332
            go_wp2
            repeat (go_quiet (fail); try go_wp2)
            go_meet
            case rel => exact ⟨_, (decide (((rd_T36 l0 x6_1).f2) > (wrap64 ((l1.length : Int) - x5_1)))), (by first | rfl | (simp; done) | (simp [*]; done)), H', ⟨by have := HK1.out; first | omega | exact Nat.le_refl _⟩, by repeat (first | exact Drawn0.refl _ | apply Drawn0.step)⟩
        case rest =>
          clear HC6
          try clear c1
          try clear c2
          try clear p2
          try clear c3
          try clear c3b0
          try clear p3
          try clear q3
          try clear hx3
          try clear c4
          try clear c4b0
          try clear c5
          try clear c5b0
          try clear c5b1
          try clear p6
          try clear c7
          try clear c7b0
          try clear hx330_0
          try clear hx330_1
          try clear hx330_2
          try clear hx330_3
          try clear hx330_4
          try clear hx330_5
          try clear hx330_6
          try clear hx330_7
          try clear hx331_0
          try clear hx331_1
          try clear hx331_2
          try clear hx331_3
          try clear hx331_4
          try clear hx331_5
          try clear hx331_6
          try clear hx331_7
          try clear hx332_0
          try clear hx332_1
          try clear hx332_2
          try clear hx332_3
          try clear hx332_4
          try clear hx332_5
          try clear hx332_6
          try clear hx332_7
          try clear p2
          try clear p330
          try clear p331
          try clear p332
          try clear q330
          try clear q331
          try clear q332
          obtain ⟨kq, x36_5, rfl, HA, HJ5, ⟨mc5, rfl⟩⟩ := hcut
          cases kq with
          | zero => exact absurd HA.out (by simp [hopperref14_Covers.j1])
          | succ kj5 =>
            have H := HA.out
            clear HA
            simp only [hopperref14_Covers.j1] at H
            by_cases c8 : x36_5 = true
            · subst c8
              have H1 : (some false) = some r := by rw [if_pos rfl] at H; exact H
              clear H
              have H := H1
              clear H1
              obtain rfl := Option.some.inj H
              go_wp2
              repeat (go_quiet (fail); try go_wp2)
              go_ret
              exact ⟨by first | rfl | (simp; done) | (simp [*]; done), by repeat (first | exact Drawn0.refl _ | apply Drawn0.step)⟩
            · replace c8 := Bool.eq_false_iff.mpr c8
              subst c8
              have H1 : (if 0 ≤ x6_1 then (if x6_1 < (l0.length : Int) then (hopperref14_Covers.l0 kj5 l0 l1 (wrap64 (x5_1 + ((rd_T36 l0 x6_1).f2))) (wrap64 (x6_1 + 1))) else (none)) else (none)) = some r := by rw [if_neg (show ¬ (false = true) by decide)] at H; exact H
              clear H
              have H := H1
              clear H1
              by_cases c9 : 0 ≤ x6_1
              rotate_left
              · rw [if_neg c9] at H
                exact absurd H (by simp)
              rw [if_pos c9] at H
              have c9b0 : decide (0 ≤ x6_1) = true := decide_eq_true c9
              clear c9
              by_cases c10 : x6_1 < (l0.length : Int)
              rotate_left
              · rw [if_neg c10] at H
                exact absurd H (by simp)
              rw [if_pos c10] at H
              have c10b0 : decide (x6_1 < (l0.length : Int)) = true := decide_eq_true c10
              clear c10
              have H' := Aside0.mk H
              clear H
              have p333 : 0 ≤ (x6_1 : Int) := of_decide_eq_true (by first | (with_reducible assumption) | assumption)
              have q333 : x6_1 < (l0.length : Int) := of_decide_eq_true (by first | (with_reducible assumption) | assumption)
              obtain ⟨ad333, e333, hx333_0, hx333_1, hx333_2, hx333_3, hx333_4, hx333_5, hx333_6, hx333_7⟩ := at_T36 HR0.out x6_1 p333 q333
              obtain rfl : ad330 = ad333 := (by injection e333)
              replace p333 := eq_true p333
              replace q333 := eq_true q333
              go_wp2
              repeat (go_quiet (fail); try go_wp2)
              go_roundg kj5
              case measure => have := HK1.out; have := HJ5.out; omega
              case rel => exact ⟨(wrap64 (x5_1 + ((rd_T36 l0 x6_1).f2))), (wrap64 (x6_1 + 1)), (by first | rfl | (simp; done) | (simp [*]; done)), (by first | rfl | (simp; done) | (simp [*]; done)), H', ⟨by have := HK1.out; have := HJ5.out; omega⟩, by repeat (first | exact Drawn0.refl _ | apply Drawn0.step)⟩
      · rw [if_neg c5] at H
        have c5b0 : (((rd_T36 l0 x6_1).f0) == 4) = false := beq_eq_false_iff_ne.mpr c5
        have c5b1 : (((rd_T36 l0 x6_1).f0) != 4) = true := bne_iff_ne.mpr c5
        by_cases c11 : x5_1 ≥ (l1.length : Int)
        · rw [if_pos c11] at H
          have c11b0 : decide ((l1.length : Int) ≤ x5_1) = true := decide_eq_true c11
          clear c11
          obtain rfl := Option.some.inj H
          have p330 : 0 ≤ (x6_1 : Int) := of_decide_eq_true (by first | (with_reducible assumption) | assumption)
          have q330 : x6_1 < (l0.length : Int) := of_decide_eq_true (by first | (with_reducible assumption) | assumption)
          obtain ⟨ad330, e330, hx330_0, hx330_1, hx330_2, hx330_3, hx330_4, hx330_5, hx330_6, hx330_7⟩ := at_T36 HR0.out x6_1 p330 q330
          cases e330
          replace p330 := eq_true p330
          replace q330 := eq_true q330
          go_wp2
          repeat (go_quiet (fail); try go_wp2)
          go_ret
          exact ⟨by first | rfl | (simp; done) | (simp [*]; done), by repeat (first | exact Drawn0.refl _ | apply Drawn0.step)⟩
        · rw [if_neg c11] at H
          have c11b0 : decide ((l1.length : Int) ≤ x5_1) = false := decide_eq_false c11
          clear c11
          by_cases c12 : 0 ≤ x5_1
          rotate_left
          · rw [if_neg c12] at H
            exact absurd H (by simp)
          rw [if_pos c12] at H
          have c12b0 : decide (0 ≤ x5_1) = true := decide_eq_true c12
          clear c12
          by_cases c13 : x5_1 < (l1.length : Int)
          rotate_left
          · rw [if_neg c13] at H
            exact absurd H (by simp)
          rw [if_pos c13] at H
          have c13b0 : decide (x5_1 < (l1.length : Int)) = true := decide_eq_true c13
          clear c13
          by_cases c14 : (!(((rd_T36 l1 x5_1).f0) == ((rd_T36 l0 x6_1).f0)) || ((!(((rd_T36 l1 x5_1).f1.f0) == ((rd_T36 l0 x6_1).f1.f0)) || (!(((rd_T36 l1 x5_1).f1.f1) == ((rd_T36 l0 x6_1).f1.f1)) || (!(((rd_T36 l1 x5_1).f1.f2) == ((rd_T36 l0 x6_1).f1.f2)) || (!(((rd_T36 l1 x5_1).f1.f3) == ((rd_T36 l0 x6_1).f1.f3)) || (!(((rd_T36 l1 x5_1).f1.f4) == ((rd_T36 l0 x6_1).f1.f4)) || (!((((rd_T36 l1 x5_1).f1.f5).toList) == (((rd_T36 l0 x6_1).f1.f5).toList)))))))) || (!(((rd_T36 l1 x5_1).f2) == ((rd_T36 l0 x6_1).f2))))) = true
          · rw [if_pos c14] at H
            have c14b0 : (!(((rd_T36 l1 x5_1).f0) == ((rd_T36 l0 x6_1).f0)) || ((!(((rd_T36 l1 x5_1).f1.f0) == ((rd_T36 l0 x6_1).f1.f0)) || (!(((rd_T36 l1 x5_1).f1.f1) == ((rd_T36 l0 x6_1).f1.f1)) || (!(((rd_T36 l1 x5_1).f1.f2) == ((rd_T36 l0 x6_1).f1.f2)) || (!(((rd_T36 l1 x5_1).f1.f3) == ((rd_T36 l0 x6_1).f1.f3)) || (!(((rd_T36 l1 x5_1).f1.f4) == ((rd_T36 l0 x6_1).f1.f4)) || (!((((rd_T36 l1 x5_1).f1.f5).toList) == (((rd_T36 l0 x6_1).f1.f5).toList)))))))) || (!(((rd_T36 l1 x5_1).f2) == ((rd_T36 l0 x6_1).f2))))) = true := c14
            clear c14
            obtain rfl := Option.some.inj H
            have p330 : 0 ≤ (x6_1 : Int) := of_decide_eq_true (by first | (with_reducible assumption) | assumption)
            have q330 : x6_1 < (l0.length : Int) := of_decide_eq_true (by first | (with_reducible assumption) | assumption)
            obtain ⟨ad330, e330, hx330_0, hx330_1, hx330_2, hx330_3, hx330_4, hx330_5, hx330_6, hx330_7⟩ := at_T36 HR0.out x6_1 p330 q330
            cases e330
            replace p330 := eq_true p330
            replace q330 := eq_true q330
            have p334 : 0 ≤ (x5_1 : Int) := of_decide_eq_true (by first | (with_reducible assumption) | assumption)
            have q334 : x5_1 < (l1.length : Int) := of_decide_eq_true (by first | (with_reducible assumption) | assumption)
            obtain ⟨ad334, e334, hx334_0, hx334_1, hx334_2, hx334_3, hx334_4, hx334_5, hx334_6, hx334_7⟩ := at_T36 HR1.out x5_1 p334 q334
            cases e334
            replace p334 := eq_true p334
            replace q334 := eq_true q334
            have p335 : 0 ≤ (x6_1 : Int) := of_decide_eq_true (by first | (with_reducible assumption) | assumption)
            have q335 : x6_1 < (l0.length : Int) := of_decide_eq_true (by first | (with_reducible assumption) | assumption)
            obtain ⟨ad335, e335, hx335_0, hx335_1, hx335_2, hx335_3, hx335_4, hx335_5, hx335_6, hx335_7⟩ := at_T36 HR0.out x6_1 p335 q335
            obtain rfl : ad330 = ad335 := (by injection e335)
            replace p335 := eq_true p335
            replace q335 := eq_true q335
            go_wp2
            repeat (go_quiet (fail); try go_wp2)
            go_ret
            exact ⟨by first | rfl | (simp; done) | (simp [*]; done), by repeat (first | exact Drawn0.refl _ | apply Drawn0.step)⟩
          · rw [if_neg c14] at H
            have c14b0 : (!(((rd_T36 l1 x5_1).f0) == ((rd_T36 l0 x6_1).f0)) || ((!(((rd_T36 l1 x5_1).f1.f0) == ((rd_T36 l0 x6_1).f1.f0)) || (!(((rd_T36 l1 x5_1).f1.f1) == ((rd_T36 l0 x6_1).f1.f1)) || (!(((rd_T36 l1 x5_1).f1.f2) == ((rd_T36 l0 x6_1).f1.f2)) || (!(((rd_T36 l1 x5_1).f1.f3) == ((rd_T36 l0 x6_1).f1.f3)) || (!(((rd_T36 l1 x5_1).f1.f4) == ((rd_T36 l0 x6_1).f1.f4)) || (!((((rd_T36 l1 x5_1).f1.f5).toList) == (((rd_T36 l0 x6_1).f1.f5).toList)))))))) || (!(((rd_T36 l1 x5_1).f2) == ((rd_T36 l0 x6_1).f2))))) = false := by simpa using c14
            clear c14
            have H' := Aside0.mk H
            clear H
            have p330 : 0 ≤ (x6_1 : Int) := of_decide_eq_true (by first | (with_reducible assumption) | assumption)
            have q330 : x6_1 < (l0.length : Int) := of_decide_eq_true (by first | (with_reducible assumption) | assumption)
            obtain ⟨ad330, e330, hx330_0, hx330_1, hx330_2, hx330_3, hx330_4, hx330_5, hx330_6, hx330_7⟩ := at_T36 HR0.out x6_1 p330 q330
            cases e330
            replace p330 := eq_true p330
            replace q330 := eq_true q330
            have p334 : 0 ≤ (x5_1 : Int) := of_decide_eq_true (by first | (with_reducible assumption) | assumption)
            have q334 : x5_1 < (l1.length : Int) := of_decide_eq_true (by first | (with_reducible assumption) | assumption)
            obtain ⟨ad334, e334, hx334_0, hx334_1, hx334_2, hx334_3, hx334_4, hx334_5, hx334_6, hx334_7⟩ := at_T36 HR1.out x5_1 p334 q334
            cases e334
            replace p334 := eq_true p334
            replace q334 := eq_true q334
            have p335 : 0 ≤ (x6_1 : Int) := of_decide_eq_true (by first | (with_reducible assumption) | assumption)
            have q335 : x6_1 < (l0.length : Int) := of_decide_eq_true (by first | (with_reducible assumption) | assumption)
            obtain ⟨ad335, e335, hx335_0, hx335_1, hx335_2, hx335_3, hx335_4, hx335_5, hx335_6, hx335_7⟩ := at_T36 HR0.out x6_1 p335 q335
            obtain rfl : ad330 = ad335 := (by injection e335)
            replace p335 := eq_true p335
            replace q335 := eq_true q335
            go_wp2
            repeat (go_quiet (fail); try go_wp2)
            go_roundg k1
            case measure => have := HK1.out; omega
            case rel => exact ⟨(wrap64 (x5_1 + 1)), (wrap64 (x6_1 + 1)), (by first | rfl | (simp; done) | (simp [*]; done)), (by first | rfl | (simp; done) | (simp [*]; done)), H', ⟨by have := HK1.out; omega⟩, by repeat (first | exact Drawn0.refl _ | apply Drawn0.step)⟩

end Go.Proofs.Ythmnedlaecekkaa.PFeedCovers
