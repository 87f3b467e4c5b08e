/- What the functions that the law reaches answer, each as a plain Lean function, with a proof that the call in memory comes to that answer. Written by wip/tools/given.py of this session out of the print.py of the kit, with stand-ins for some functions. -/
import Derived.Test.YthmnedlaecekkaaPFeedPartsx0
import Derived.Lib.SliceRun
namespace Go.Proofs.Ythmnedlaecekkaa.PFeedParts
open Go.RowKit Go.Proofs.YthmnedlaecekkaaW.PrintWords Go.Proofs.YthmnedlaecekkaaW.PrintLast Go.Proofs.YthmnedlaecekkaaW.PrintMore
attribute [local go_sem] max2_int min2_int max_two min_two max_three min_three max_four min_four   -- for this text's walks alone
set_option linter.unusedVariables false
set_option linter.unusedSimpArgs false

/-! ### hopperref14_Few: function 9 -/
def hopperref14_Few.l0 : Nat → List (S36) → Int → Int → Option (Bool)
  | 0, _, _, _ => none
  | k + 1, x0, x1, x5 => if x5 < (x0.length : Int) then (if 0 ≤ x5 then (if (((rd_T36 x0 x5).f1.f5).size : Int) > 500 then (some false) else (hopperref14_Few.l0 k x0 x1 (wrap64 (x5 + 1)))) else (none)) else (some (decide ((x0.length : Int) ≤ x1)))
def hopperref14_Few.f (k : Nat) (l0 : List (S36)) (a1 : Int) : Option (Bool) := hopperref14_Few.l0 k l0 a1 0
theorem hopperref14_Few.mono_l : ∀ k, (∀ y0 y1 y2, LeO (hopperref14_Few.l0 k y0 y1 y2) (hopperref14_Few.l0 (k + 1) y0 y1 y2))
  | 0 => fun _ _ _ r h => by simp [hopperref14_Few.l0] at h
  | k + 1 => by
    have ih0 := hopperref14_Few.mono_l k
    · intro y0 y1 y2
      unfold hopperref14_Few.l0
      repeat' first
      | (with_reducible exact ih0 _ _ _)
      | (with_reducible exact LeO.refl _)
      | (with_reducible exact LeO.none _)
      | (with_reducible refine LeO.ite ?_ ?_)
      | (with_reducible refine LeO.bind ?_ (fun _ => ?_))
      | exact ih0 _ _ _
      | exact LeO.none _
      | refine LeO.ite ?_ ?_
      | refine LeO.bind ?_ (fun _ => ?_)
theorem hopperref14_Few.mono : ∀ a0 a1 k, LeO (hopperref14_Few.f k a0 a1) (hopperref14_Few.f (k + 1) a0 a1) := by
  intro a0 a1 k
  have ih0 := hopperref14_Few.mono_l k
  unfold hopperref14_Few.f
  repeat' first
      | (with_reducible exact ih0 _ _ _)
      | (with_reducible exact LeO.refl _)
      | (with_reducible exact LeO.none _)
      | (with_reducible refine LeO.ite ?_ ?_)
      | (with_reducible refine LeO.bind ?_ (fun _ => ?_))
      | exact ih0 _ _ _
      | exact LeO.none _
      | refine LeO.ite ?_ ?_
      | refine LeO.bind ?_ (fun _ => ?_)
set_option maxHeartbeats 8000000 in
set_option maxRecDepth 100000 in
theorem hopperref14_Few.calls (k : Nat) (A0 : Option Addr) (c0 : Nat) (l0 : List (S36)) (a1 : Int) (r : Bool) (w : World) (hr0 : Kd.C k36 w A0 l0.length l0) (hc0 : l0.length ≤ c0) (h : hopperref14_Few.f k l0 a1 = some r) :
    Calls Try.prog 9 #[.slice A0 l0.length c0, .int .i64 a1] w fun e w' => e = .returned (.bool r) ∧ Drawn0 w w' := by
  have HR0 := Aside0.mk hr0
  have HC0 := Aside0.mk hc0
  clear hr0 hc0
  have H : (hopperref14_Few.l0 k l0 a1 0) = some r := h
  clear h
  have H' := Aside0.mk H
  clear H
  go_enter Try.func9, Try.ntmps9
  go_wp2
  go_loopg [5] k (fun kq v5 w' => ∃ (x5_1 : Int), v5 = .int .i64 x5_1 ∧ Aside0 (hopperref14_Few.l0 kq l0 a1 x5_1 = some r) ∧ Aside0 (kq ≤ k) ∧ Drawn0 w w')
  case atStart => exact ⟨(0), (by first | rfl | (simp; done) | (simp [*]; done)), H', ⟨Nat.le_refl _⟩, by repeat (first | exact Drawn0.refl _ | apply Drawn0.step)⟩
  case round =>
    clear H'
    try clear p2
    obtain ⟨x5_1, rfl, HA, HK1, ⟨m1, rfl⟩⟩ := hrel
    cases gk with
    | zero => exact absurd HA.out (by simp [hopperref14_Few.l0])
    | succ k1 =>
      have H := HA.out
      clear HA
      simp only [hopperref14_Few.l0] at H
      by_cases c3 : x5_1 < (l0.length : Int)
      rotate_left
      · rw [if_neg c3] at H
        have c3b0 : decide (x5_1 < (l0.length : Int)) = false := decide_eq_false c3
        clear c3
        obtain rfl := Option.some.inj H
        go_wp2
        go_ret
        exact ⟨by first | rfl | (simp; done) | (simp [*]; done), by repeat (first | exact Drawn0.refl _ | apply Drawn0.step)⟩
      rw [if_pos c3] at H
      have c3b0 : decide (x5_1 < (l0.length : Int)) = true := decide_eq_true c3
      clear c3
      by_cases c4 : 0 ≤ x5_1
      rotate_left
      · rw [if_neg c4] at H
        exact absurd H (by simp)
      rw [if_pos c4] at H
      have c4b0 : decide (0 ≤ x5_1) = true := decide_eq_true c4
      clear c4
      by_cases c5 : (((rd_T36 l0 x5_1).f1.f5).size : Int) > 500
      · rw [if_pos c5] at H
        have c5b0 : decide (500 < (((rd_T36 l0 x5_1).f1.f5).size : Int)) = true := decide_eq_true c5
        have c5b1 : decide (500 < ((rd_T36 l0 x5_1).f1.f5).size) = true := decide_eq_true (by omega)
        clear c5
        obtain rfl := Option.some.inj H
        have p101 : 0 ≤ (x5_1 : Int) := of_decide_eq_true (by first | (with_reducible assumption) | assumption)
        have q101 : x5_1 < (l0.length : Int) := of_decide_eq_true (by first | (with_reducible assumption) | assumption)
        obtain ⟨ad101, e101, hx101_0, hx101_1, hx101_2, hx101_3, hx101_4, hx101_5, hx101_6, hx101_7⟩ := at_T36 HR0.out x5_1 p101 q101
        cases e101
        replace p101 := eq_true p101
        replace q101 := eq_true q101
        go_wp2
        go_ret
        exact ⟨by first | rfl | (simp; done) | (simp [*]; done), by repeat (first | exact Drawn0.refl _ | apply Drawn0.step)⟩
      · rw [if_neg c5] at H
        have c5b0 : decide (500 < (((rd_T36 l0 x5_1).f1.f5).size : Int)) = false := decide_eq_false c5
        have c5b1 : decide (500 < ((rd_T36 l0 x5_1).f1.f5).size) = false := decide_eq_false (by omega)
        clear c5
        have H' := Aside0.mk H
        clear H
        have p101 : 0 ≤ (x5_1 : Int) := of_decide_eq_true (by first | (with_reducible assumption) | assumption)
        have q101 : x5_1 < (l0.length : Int) := of_decide_eq_true (by first | (with_reducible assumption) | assumption)
        obtain ⟨ad101, e101, hx101_0, hx101_1, hx101_2, hx101_3, hx101_4, hx101_5, hx101_6, hx101_7⟩ := at_T36 HR0.out x5_1 p101 q101
        cases e101
        replace p101 := eq_true p101
        replace q101 := eq_true q101
        go_wp2
        go_roundg k1
        case measure => have := HK1.out; omega
        case rel => exact ⟨(wrap64 (x5_1 + 1)), (by first | rfl | (simp; done) | (simp [*]; done)), H', ⟨by have := HK1.out; omega⟩, by repeat (first | exact Drawn0.refl _ | apply Drawn0.step)⟩

/-! ### feed_New: function 11 -/
def feed_New.f (a0 : Int) : Option (Int × (List (S36)) × Int × Int) := if a0 < 1 then (some (0, ([] : List (S36)), 0, 1)) else (if a0 > 16 then (some (0, ([] : List (S36)), 0, 1)) else (some (a0, ([] : List (S36)), 0, 0)))
set_option maxHeartbeats 8000000 in
set_option maxRecDepth 100000 in
theorem feed_New.calls (a0 : Int) (r1 : Int) (r2 : List (S36)) (r3 : Int) (r4 : Int) (w : World) (h : feed_New.f a0 = some (r1, r2, r3, r4)) :
    Calls Try.prog 11 #[.int .i64 a0] w fun e w' => ∃ v1_ : Value, e = .returned (.tuple #[.agg #[.int .i64 r1, v1_, .int .i64 r3], .int .i64 r4]) ∧ Kd.R k36 36 w' w.heap.size (fun _ => True) v1_ r2 ∧ Below w.heap.size w w' := by
  have hu27 := Try.underlying27
  have HB := Aside0.mk (Below.refl w.heap.size w)
  have H : (if a0 < 1 then (some (0, ([] : List (S36)), 0, 1)) else (if a0 > 16 then (some (0, ([] : List (S36)), 0, 1)) else (some (a0, ([] : List (S36)), 0, 0)))) = some (r1, r2, r3, r4) := h
  clear h
  by_cases c2 : a0 < 1
  · rw [if_pos c2] at H
    have c2b0 : decide (a0 < 1) = true := decide_eq_true c2
    clear c2
    simp only [Option.some.injEq, Prod.mk.injEq] at H
    obtain ⟨rfl, rfl, rfl, rfl⟩ := H
    go_enter Try.func11, Try.ntmps11
    go_wp2_with (first | ((with_reducible refine gate_dst (N := 2) rfl ?_); refine box_event ?hg (N := 2) ?hd (cs := #[.int .i64 0, .slice none 0 0, .int .i64 0]) (t := 27) ?hr ?_; (case hd => rfl); (case hg => rfl); (case hr => first | (go_simp; done) | (go_simp; rfl)); intro gb102 hg w3 hbox hb; have BK102 := Aside0.mk (hbox); have GE102 := Aside0.mk (ge1 hg (LA HB.out)); replace HB := Aside0.mk (below_step (LA HB.out) hb); clear hb hbox hg; obtain ⟨hcz4_0, hcz4_1, hcz4_2, hfz4_0, hfz4_1, hfz4_2⟩ := cz3 BK102.out))
    refine bodyPost_ret (results_ct rfl _ _ gb102 27 #[.int .i64 0, .slice none 0 0, .int .i64 0] (0, 0) _ rfl (BP BK102.out (by rfl)) Try.underlying27 rfl (by kernel_rfl)) rfl ?_
    exact ⟨_, by first | rfl | (simp [errW_none, errW_some] <;> rfl) | (simp [*, errW_none, errW_some] <;> rfl), by first | exact Kd.R_nil _ _ _ _ _ | exact Kd.N_nil _ _ _ _ _ | exact Kd.V_nil _ _ _ _ _ | exact Kd.Q_nil _ _ _ _ _ | exact Kd.S_nil _ _ _ _ _, LG HB.out (G1 GE102.out G0)⟩
  · rw [if_neg c2] at H
    have c2b0 : decide (a0 < 1) = false := decide_eq_false c2
    clear c2
    by_cases c5 : a0 > 16
    · rw [if_pos c5] at H
      have c5b0 : decide (16 < a0) = true := decide_eq_true c5
      clear c5
      simp only [Option.some.injEq, Prod.mk.injEq] at H
      obtain ⟨rfl, rfl, rfl, rfl⟩ := H
      go_enter Try.func11, Try.ntmps11
      go_wp2_with (first | ((with_reducible refine gate_dst (N := 2) rfl ?_); refine box_event ?hg (N := 2) ?hd (cs := #[.int .i64 0, .slice none 0 0, .int .i64 0]) (t := 27) ?hr ?_; (case hd => rfl); (case hg => rfl); (case hr => first | (go_simp; done) | (go_simp; rfl)); intro gb102 hg w6 hbox hb; have BK102 := Aside0.mk (hbox); have GE102 := Aside0.mk (ge1 hg (LA HB.out)); replace HB := Aside0.mk (below_step (LA HB.out) hb); clear hb hbox hg; obtain ⟨hcz7_0, hcz7_1, hcz7_2, hfz7_0, hfz7_1, hfz7_2⟩ := cz3 BK102.out))
      refine bodyPost_ret (results_ct rfl _ _ gb102 27 #[.int .i64 0, .slice none 0 0, .int .i64 0] (0, 0) _ rfl (BP BK102.out (by rfl)) Try.underlying27 rfl (by kernel_rfl)) rfl ?_
      exact ⟨_, by first | rfl | (simp [errW_none, errW_some] <;> rfl) | (simp [*, errW_none, errW_some] <;> rfl), by first | exact Kd.R_nil _ _ _ _ _ | exact Kd.N_nil _ _ _ _ _ | exact Kd.V_nil _ _ _ _ _ | exact Kd.Q_nil _ _ _ _ _ | exact Kd.S_nil _ _ _ _ _, LG HB.out (G1 GE102.out G0)⟩
    · rw [if_neg c5] at H
      have c5b0 : decide (16 < a0) = false := decide_eq_false c5
      clear c5
      simp only [Option.some.injEq, Prod.mk.injEq] at H
      obtain ⟨rfl, rfl, rfl, rfl⟩ := H
      go_enter Try.func11, Try.ntmps11
      go_wp2_with (first | ((with_reducible refine gate_dst (N := 2) rfl ?_); refine box_event ?hg (N := 2) ?hd (cs := #[.int .i64 0, .slice none 0 0, .int .i64 0]) (t := 27) ?hr ?_; (case hd => rfl); (case hg => rfl); (case hr => first | (go_simp; done) | (go_simp; rfl)); intro gb102 hg w8 hbox hb; have BK102 := Aside0.mk (hbox); have GE102 := Aside0.mk (ge1 hg (LA HB.out)); replace HB := Aside0.mk (below_step (LA HB.out) hb); clear hb hbox hg; obtain ⟨hcz9_0, hcz9_1, hcz9_2, hfz9_0, hfz9_1, hfz9_2⟩ := cz3 BK102.out))
      refine bodyPost_ret (results_ct rfl _ _ gb102 27 #[.int .i64 a0, .slice none 0 0, .int .i64 0] (0, 0) _ rfl (BP BK102.out (by rfl)) Try.underlying27 rfl (by kernel_rfl)) rfl ?_
      exact ⟨_, by first | rfl | (simp [errW_none, errW_some] <;> rfl) | (simp [*, errW_none, errW_some] <;> rfl), by first | exact Kd.R_nil _ _ _ _ _ | exact Kd.N_nil _ _ _ _ _ | exact Kd.V_nil _ _ _ _ _ | exact Kd.Q_nil _ _ _ _ _ | exact Kd.S_nil _ _ _ _ _, LG HB.out (G1 GE102.out G0)⟩

/-! ### api_Event: function 24 -/
def api_Event.f (l0 : List (S36)) : Option ((List (S36))) := (some (([] : List (S36)) : List (S36))).bind fun y103 => (if y103.length + l0.length < 1954687338268 then (some (y103 ++ l0)) else (none))
set_option maxHeartbeats 8000000 in
set_option maxRecDepth 100000 in
theorem api_Event.calls (A0 : Option Addr) (c0 : Nat) (l0 : List (S36)) (r : List (S36)) (w : World) (hr0 : Kd.C k36 w A0 l0.length l0) (hc0 : l0.length ≤ c0) (h : api_Event.f l0 = some r) :
    Calls Try.prog 24 #[.slice A0 l0.length c0] w fun e w' => ∃ v0_ : Value, e = .returned (v0_) ∧ Kd.R k36 36 w' w.heap.size (fun _ => True) v0_ r ∧ Below w.heap.size w w' := by
  have q_nil : ∀ (w : World) (a : Option Addr) (n c n' c' : Nat), (binOp .eql 22 (.slice a n c) (.slice none n' c')).run Try.prog w = .ok (.bool a.isNone) w := fun w a n c n' c' => Lib.run_eql_slice_nil w _ _ a n c n' c' Try.underlying22
  cases A0 with
  | none =>
    have hz : l0 = [] := by
      cases l0 with
      | nil => rfl
      | cons x xs => obtain ⟨ad, e, _⟩ := hr0.2.2 (by simp); cases e
    subst hz
    have hr : r = [] := by
      unfold api_Event.f at h
      simp only [Option.bind_some, List.append_nil, List.length_nil] at h
      rw [if_pos (by decide)] at h
      exact (Option.some.inj h).symm
    subst hr
    clear h hr0 hc0
    go_enter Try.func24, Try.ntmps24
    go_wp2
    go_ret
    exact ⟨_, rfl, Kd.R_nil _ _ _ _ _, Below.refl _ _⟩
  | some ad0 =>
      have HR0 := Aside0.mk hr0
      have HC0 := Aside0.mk hc0
      clear hr0 hc0
      have HB := Aside0.mk (Below.refl w.heap.size w)
      have H : ((some (([] : List (S36)) : List (S36))).bind fun y103 => (if y103.length + l0.length < 1954687338268 then (some (y103 ++ l0)) else (none))) = some r := h
      clear h
      obtain ⟨y103, hy103⟩ : ∃ y_ : List (S36), y_ = (([] : List (S36))) := ⟨_, rfl⟩
      replace H : (if y103.length + l0.length < 1954687338268 then (some (y103 ++ l0)) else (none)) = some r := by first | (rw [hy103]; with_reducible exact H) | (have H2_ := (Option.bind_some _ _).symm.trans H; rw [hy103]; with_reducible exact H2_) | (have H2_ := (Option.bind_some _ _).symm.trans H; with_reducible exact H2_) | with_reducible exact H | (rw [hy103]; exact H) | exact H
      have Ny103 := Aside0.mk hy103
      clear hy103
      by_cases c2 : y103.length + l0.length < 1954687338268
      rotate_left
      · rw [if_neg c2] at H
        exact absurd H (by simp)
      rw [if_pos c2] at H
      have LMc2 := Aside0.mk c2
      clear c2
      obtain ⟨y106, hy106⟩ : ∃ y_ : List (S36), y_ = (y103 ++ l0) := ⟨_, rfl⟩
      replace H : (some y106) = some r := by first | (rw [hy106]; with_reducible exact H) | (have H2_ := (Option.bind_some _ _).symm.trans H; rw [hy106]; with_reducible exact H2_) | (have H2_ := (Option.bind_some _ _).symm.trans H; with_reducible exact H2_) | with_reducible exact H | (rw [hy106]; exact H) | exact H
      have Ny106 := Aside0.mk hy106
      clear hy106
      obtain rfl := Option.some.inj H
      go_enter Try.func24, Try.ntmps24
      go_wp2_with (first | ((with_reducible refine gate_dst (N := 5) rfl ?_); refine Kd.R_lit k36 _ 36 ?hg (N := 5) ?hd (xs := ([] : List (S36))) (inner := []) (ok := fun _ => True) (okp := fun _ => True) ?hr ?hp (fun _ hk => hk) trivial (Below.refl _ _) (Nat.le_refl _) (by simp) ?_; (case hd => rfl); (case hg => rfl); (case hr => first | (go_simp; done) | (go_simp; rfl)); (case hp => exact (Reps.none _ _)); intro v104 w3 ho4 hb hg_ hnew_; clear hg_ hnew_; (first | rw [← Ny103.out] at ho4 | (simp only [Int.reduceToNat] at ho4; rw [← Ny103.out] at ho4)); have HO105 := Aside0.mk (Kd.R_lower ho4 (below_size (LA HB.out))); replace HB := Aside0.mk (below_step (LA HB.out) hb); clear hb ho4) | ((with_reducible refine gate_builtin (b := .append) (xs := #[.tmp 5, .tmp 6]) rfl ?_); at_builtin; refine Kd.R_append_rows k36 (w0 := w) w.heap.size rfl (.tmp 5) (.tmp 6) 22 36 (.agg #[(.int .i64 0), (.int .i64 0), (.int .i64 0), (.int .i64 0), (.int .i64 0), (.int .i64 0), (.string ⟨#[]⟩), (.int .i64 0)]) 72 rfl Try.underlying22 info36 rfl (by decide) (by omega) v104 y103 l0 _ _ _ (fun _ => True) (fun _ => False) rfl rfl ?aO ?aR (fun _ _ h => h) (fun _ h => h.elim) ?aF ?aB ?aS ?aL ?_; (case aR => repeat (first | exact (Kd.C_below HR0.out HB.out) | (with_reducible refine Kd.C_alloc ?_ _) | (with_reducible refine Kd.C_drewN ?_ _) | (with_reducible refine Kd.C_drew ?_))); (case aB => exact (LA HB.out)); (case aF => exact (fun _ _ => trivial)); (case aO => exact (Kd.RA HO105.out)); (case aS => exact (below_size (LA HB.out))); (case aL => have := LMc2.out; omega); intro v107 w5 ho hb hg hat; rw [← Ny106.out] at ho; replace HB := Aside0.mk (hb); have HO108 := Aside0.mk (ho); clear HO105; clear ho hb hg hat))
      go_ret
      exact ⟨_, by first | rfl | (simp [errW_none, errW_some] <;> rfl) | (simp [*, errW_none, errW_some] <;> rfl), by (with_reducible repeat (first | apply Kd.R_alloc | apply Kd.R_drewN | apply Kd.R_drew)); exact HO108.out, LA HB.out⟩

-- GIVEN api_Event

/-! ### feed_Read: function 13 -/
def feed_Read.f (a0_0 : Int) (l0_1 : List (S36)) (a0_2 : Int) : Option (Int × (List (S36)) × Int × Int × Int × Int × Int × Int × Int × ByteArray × Int × Int) := if (l0_1.length : Int) > 0 then (if 0 < (l0_1.length : Int) then (if 1 ≤ (l0_1.length : Int) then ((api_Event.f (l0_1.drop 1)).bind fun t119 => (some (a0_0, t119, a0_2, (rd_T36 l0_1 0).f0, (rd_T36 l0_1 0).f1.f0, (rd_T36 l0_1 0).f1.f1, (rd_T36 l0_1 0).f1.f2, (rd_T36 l0_1 0).f1.f3, (rd_T36 l0_1 0).f1.f4, (rd_T36 l0_1 0).f1.f5, (rd_T36 l0_1 0).f2, 0))) else (none)) else (none)) else (if a0_2 > 0 then (some (a0_0, l0_1, 0, 4, 0, 0, 0, 0, 0, (⟨#[]⟩ : ByteArray), a0_2, 0)) else (some (a0_0, l0_1, a0_2, 0, 0, 0, 0, 0, 0, (⟨#[]⟩ : ByteArray), 0, 7)))
set_option maxHeartbeats 60000000 in
set_option maxRecDepth 100000 in
theorem feed_Read.calls (a0_0 : Int) (P0_1_ : Nat → Prop) (A0_1 : Option Addr) (c0_1 : Nat) (l0_1 : List (S36)) (a0_2 : Int) (r1 : Int) (r2 : List (S36)) (r3 : Int) (r4 : Int) (r5 : Int) (r6 : Int) (r7 : Int) (r8 : Int) (r9 : Int) (r10 : ByteArray) (r11 : Int) (r12 : Int) (w : World) (hs0_1 : Kd.V k36 36 w w.heap.size (fun k_ => P0_1_ k_) (.slice A0_1 l0_1.length c0_1) l0_1) (h : feed_Read.f a0_0 l0_1 a0_2 = some (r1, r2, r3, r4, r5, r6, r7, r8, r9, r10, r11, r12)) :
    Calls Try.prog 13 #[.agg #[.int .i64 a0_0, .slice A0_1 l0_1.length c0_1, .int .i64 a0_2]] w fun e w' => ∃ v1_ : Value, e = .returned (.tuple #[.agg #[.int .i64 r1, v1_, .int .i64 r3], .agg #[.int .i64 r4, .int .i64 r5, .int .i64 r6, .int .i64 r7, .int .i64 r8, .int .i64 r9, .string r10, .int .i64 r11], .int .i64 r12]) ∧ Kd.V k36 36 w' w.heap.size (fun k_ => (P0_1_ k_ ∨ w.heap.size ≤ k_)) v1_ r2 ∧ Below w.heap.size w w' := by
  have hu27 := Try.underlying27
  have hu36 := Try.underlying36
  have HO0_1 := Aside0.mk (show Kd.V k36 36 w w.heap.size (fun k_ => (P0_1_ k_ ∨ w.heap.size ≤ k_)) (.slice A0_1 l0_1.length c0_1) l0_1 from Kd.V_mono hs0_1 (fun k_ hk => .inl hk))
  have HB := Aside0.mk (Below.refl w.heap.size w)
  have H : (if (l0_1.length : Int) > 0 then (if 0 < (l0_1.length : Int) then (if 1 ≤ (l0_1.length : Int) then ((api_Event.f (l0_1.drop 1)).bind fun t119 => (some (a0_0, t119, a0_2, (rd_T36 l0_1 0).f0, (rd_T36 l0_1 0).f1.f0, (rd_T36 l0_1 0).f1.f1, (rd_T36 l0_1 0).f1.f2, (rd_T36 l0_1 0).f1.f3, (rd_T36 l0_1 0).f1.f4, (rd_T36 l0_1 0).f1.f5, (rd_T36 l0_1 0).f2, 0))) else (none)) else (none)) else (if a0_2 > 0 then (some (a0_0, l0_1, 0, 4, 0, 0, 0, 0, 0, (⟨#[]⟩ : ByteArray), a0_2, 0)) else (some (a0_0, l0_1, a0_2, 0, 0, 0, 0, 0, 0, (⟨#[]⟩ : ByteArray), 0, 7)))) = some (r1, r2, r3, r4, r5, r6, r7, r8, r9, r10, r11, r12) := h
  clear h
  by_cases c2 : (l0_1.length : Int) > 0
  · rw [if_pos c2] at H
    have c2b0 : decide (0 < (l0_1.length : Int)) = true := decide_eq_true c2
    have c2b1 : decide (0 < l0_1.length) = true := decide_eq_true (by omega)
    clear c2
    by_cases c3 : 0 < (l0_1.length : Int)
    rotate_left
    · rw [if_neg c3] at H
      exact absurd H (by simp)
    rw [if_pos c3] at H
    have c3b0 : decide (0 < (l0_1.length : Int)) = true := decide_eq_true c3
    have c3b1 : decide (0 < l0_1.length) = true := decide_eq_true (by omega)
    clear c3
    by_cases c4 : 1 ≤ (l0_1.length : Int)
    rotate_left
    · rw [if_neg c4] at H
      exact absurd H (by simp)
    rw [if_pos c4] at H
    have c4b0 := eq_true c4
    have c4b1 : decide (1 ≤ (l0_1.length : Int)) = true := decide_eq_true c4
    clear c4
    obtain ⟨y114, hy114⟩ : ∃ y_ : List (S36), y_ = (l0_1.drop 1) := ⟨_, rfl⟩
    replace H : ((api_Event.f y114).bind fun t119 => (some (a0_0, t119, a0_2, (rd_T36 l0_1 0).f0, (rd_T36 l0_1 0).f1.f0, (rd_T36 l0_1 0).f1.f1, (rd_T36 l0_1 0).f1.f2, (rd_T36 l0_1 0).f1.f3, (rd_T36 l0_1 0).f1.f4, (rd_T36 l0_1 0).f1.f5, (rd_T36 l0_1 0).f2, 0))) = some (r1, r2, r3, r4, r5, r6, r7, r8, r9, r10, r11, r12) := by first | (rw [hy114]; with_reducible exact H) | (have H2_ := (Option.bind_some _ _).symm.trans H; rw [hy114]; with_reducible exact H2_) | (have H2_ := (Option.bind_some _ _).symm.trans H; with_reducible exact H2_) | with_reducible exact H | (rw [hy114]; exact H) | exact H
    have Ny114 := Aside0.mk hy114
    clear hy114
    replace H := Option.bind_eq_some_iff.mp H
    obtain ⟨t119, A50, H⟩ := H
    replace H : (some (a0_0, t119, a0_2, (rd_T36 l0_1 0).f0, (rd_T36 l0_1 0).f1.f0, (rd_T36 l0_1 0).f1.f1, (rd_T36 l0_1 0).f1.f2, (rd_T36 l0_1 0).f1.f3, (rd_T36 l0_1 0).f1.f4, (rd_T36 l0_1 0).f1.f5, (rd_T36 l0_1 0).f2, 0)) = some (r1, r2, r3, r4, r5, r6, r7, r8, r9, r10, r11, r12) := H
    have A5 := Aside0.mk A50
    clear A50
    simp only [Option.some.injEq, Prod.mk.injEq] at H
    obtain ⟨rfl, rfl, rfl, rfl, rfl, rfl, rfl, rfl, rfl, rfl, rfl, rfl⟩ := H
    go_enter Try.func13, Try.ntmps13
    try go_wp2_with (first | ((with_reducible refine gate_dst (N := 1) rfl ?_); refine box_event ?hg (N := 1) ?hd (cs := #[.int .i64 a0_0, .slice A0_1 l0_1.length c0_1, .int .i64 a0_2]) (t := 27) ?hr ?_; (case hd => rfl); (case hg => rfl); (case hr => first | (go_simp; done) | (go_simp; rfl)); intro gb109 hg w6 hbox hb; replace HO0_1 := Aside0.mk (Kd.V_below (Kd.V_elderB (Kd.VA HO0_1.out) gb109 (Nat.le_of_eq hg.symm)) hb); have BK109 := Aside0.mk (hbox); have GE109 := Aside0.mk (ge1 hg (LA HB.out)); replace HB := Aside0.mk (below_step (LA HB.out) hb); clear hb hbox hg) | ((with_reducible refine gate_dst (N := 2) rfl ?_); refine box_event ?hg (N := 2) ?hd (cs := #[.int .i64 0, .slice none 0 0, .int .i64 0]) (t := 27) ?hr ?_; (case hd => rfl); (case hg => rfl); (case hr => first | (go_simp; done) | (go_simp; rfl)); intro gb110 hg w7 hbox hb; replace HO0_1 := Aside0.mk (Kd.V_below (Kd.V_elderB (Kd.VA HO0_1.out) gb110 (Nat.le_of_eq hg.symm)) hb); have BK110 := Aside0.mk (hbox); have GE110 := Aside0.mk (ge1 hg (LA HB.out)); replace HB := Aside0.mk (below_step (LA HB.out) hb); have NB109_110 := Aside0.mk ((by rw [hg]; exact Nat.ne_of_lt (blk_lt (g := gb109) (o := .cells #[.int .i64 a0_0, .slice A0_1 l0_1.length c0_1, .int .i64 a0_2] 27 (0, 0)) (BA BK109.out)) : gb109 ≠ gb110)); have NB110_109 := Aside0.mk ((by rw [hg]; exact Nat.ne_of_gt (blk_lt (g := gb109) (o := .cells #[.int .i64 a0_0, .slice A0_1 l0_1.length c0_1, .int .i64 a0_2] 27 (0, 0)) (BA BK109.out)) : gb110 ≠ gb109)); replace BK109 := Aside0.mk (blk_below (BA BK109.out) hb); clear hb hbox hg) | ((with_reducible refine gate_dst (N := 3) rfl ?_); refine box_event ?hg (N := 3) ?hd (cs := #[.int .i64 0, .int .i64 0, .int .i64 0, .int .i64 0, .int .i64 0, .int .i64 0, .string (⟨#[]⟩ : ByteArray), .int .i64 0]) (t := 36) ?hr ?_; (case hd => rfl); (case hg => rfl); (case hr => first | (go_simp; done) | (go_simp; rfl)); intro gb111 hg w8 hbox hb; replace HO0_1 := Aside0.mk (Kd.V_below (Kd.V_elderB (Kd.VA HO0_1.out) gb111 (Nat.le_of_eq hg.symm)) hb); have BK111 := Aside0.mk (hbox); have GE111 := Aside0.mk (ge1 hg (LA HB.out)); replace HB := Aside0.mk (below_step (LA HB.out) hb); have NB109_111 := Aside0.mk ((by rw [hg]; exact Nat.ne_of_lt (blk_lt (g := gb109) (o := .cells #[.int .i64 a0_0, .slice A0_1 l0_1.length c0_1, .int .i64 a0_2] 27 (0, 0)) (BA BK109.out)) : gb109 ≠ gb111)); have NB111_109 := Aside0.mk ((by rw [hg]; exact Nat.ne_of_gt (blk_lt (g := gb109) (o := .cells #[.int .i64 a0_0, .slice A0_1 l0_1.length c0_1, .int .i64 a0_2] 27 (0, 0)) (BA BK109.out)) : gb111 ≠ gb109)); replace BK109 := Aside0.mk (blk_below (BA BK109.out) hb); have NB110_111 := Aside0.mk ((by rw [hg]; exact Nat.ne_of_lt (blk_lt (g := gb110) (o := .cells #[.int .i64 0, .slice none 0 0, .int .i64 0] 27 (0, 0)) (BA BK110.out)) : gb110 ≠ gb111)); have NB111_110 := Aside0.mk ((by rw [hg]; exact Nat.ne_of_gt (blk_lt (g := gb110) (o := .cells #[.int .i64 0, .slice none 0 0, .int .i64 0] 27 (0, 0)) (BA BK110.out)) : gb111 ≠ gb110)); replace BK110 := Aside0.mk (blk_below (BA BK110.out) hb); clear hb hbox hg; have hnb9 := NB109_110.out; have hnc9 := NB110_109.out; have hnb10 := NB109_111.out; have hnc10 := NB111_109.out; obtain ⟨hcz11_0, hcz11_1, hcz11_2, hfz11_0, hfz11_1, hfz11_2⟩ := cz3 BK109.out; have p112 : 0 ≤ (0 : Int) := (by omega); have q112 : 0 < (l0_1.length : Int) := of_decide_eq_true (by first | (with_reducible assumption) | assumption); obtain ⟨ad112, e112, hx112_0, hx112_1, hx112_2, hx112_3, hx112_4, hx112_5, hx112_6, hx112_7⟩ := at_T36 (Kd.V_reads' HO0_1.out).2.2 0 p112 q112; cases e112; have qi112 : (0 < l0_1.length) = True := eq_true (by omega); (try rw [show ((0 : Int)).toNat = 0 from rfl] at hx112_0); (try rw [show 0 * 8 = 0 from rfl] at hx112_0); (try rw [Addr.add_zero'] at hx112_0); (try rw [show ((0 : Int)).toNat = 0 from rfl] at hx112_1); (try rw [show 0 * 8 = 0 from rfl] at hx112_1); (try rw [Addr.add_zero'] at hx112_1); (try rw [show ((0 : Int)).toNat = 0 from rfl] at hx112_2); (try rw [show 0 * 8 = 0 from rfl] at hx112_2); (try rw [Addr.add_zero'] at hx112_2); (try rw [show ((0 : Int)).toNat = 0 from rfl] at hx112_3); (try rw [show 0 * 8 = 0 from rfl] at hx112_3); (try rw [Addr.add_zero'] at hx112_3); (try rw [show ((0 : Int)).toNat = 0 from rfl] at hx112_4); (try rw [show 0 * 8 = 0 from rfl] at hx112_4); (try rw [Addr.add_zero'] at hx112_4); (try rw [show ((0 : Int)).toNat = 0 from rfl] at hx112_5); (try rw [show 0 * 8 = 0 from rfl] at hx112_5); (try rw [Addr.add_zero'] at hx112_5); (try rw [show ((0 : Int)).toNat = 0 from rfl] at hx112_6); (try rw [show 0 * 8 = 0 from rfl] at hx112_6); (try rw [Addr.add_zero'] at hx112_6); (try rw [show ((0 : Int)).toNat = 0 from rfl] at hx112_7); (try rw [show 0 * 8 = 0 from rfl] at hx112_7); (try rw [Addr.add_zero'] at hx112_7); replace p112 := eq_true p112; replace q112 := eq_true q112) | ((with_reducible refine gate_dst (N := 5) rfl ?_); refine box_event ?hg (N := 5) ?hd (cs := #[.int .i64 0, .int .i64 0, .int .i64 0, .int .i64 0, .int .i64 0, .int .i64 0, .string (⟨#[]⟩ : ByteArray), .int .i64 0]) (t := 36) ?hr ?_; (case hd => rfl); (case hg => rfl); (case hr => first | (go_simp; done) | (go_simp; rfl)); intro gb113 hg w12 hbox hb; replace HO0_1 := Aside0.mk (Kd.V_below (Kd.V_elderB (Kd.VA HO0_1.out) gb113 (Nat.le_of_eq hg.symm)) hb); have BK113 := Aside0.mk (hbox); have GE113 := Aside0.mk (ge1 hg (LA HB.out)); replace HB := Aside0.mk (below_step (LA HB.out) hb); have NB109_113 := Aside0.mk ((by rw [hg]; exact Nat.ne_of_lt (blk_lt (g := gb109) (o := .cells #[.int .i64 a0_0, .slice (some ad112) l0_1.length c0_1, .int .i64 a0_2] 27 (0, 0)) (BA BK109.out)) : gb109 ≠ gb113)); have NB113_109 := Aside0.mk ((by rw [hg]; exact Nat.ne_of_gt (blk_lt (g := gb109) (o := .cells #[.int .i64 a0_0, .slice (some ad112) l0_1.length c0_1, .int .i64 a0_2] 27 (0, 0)) (BA BK109.out)) : gb113 ≠ gb109)); replace BK109 := Aside0.mk (blk_below (BA BK109.out) hb); have NB110_113 := Aside0.mk ((by rw [hg]; exact Nat.ne_of_lt (blk_lt (g := gb110) (o := .cells #[.int .i64 0, .slice none 0 0, .int .i64 0] 27 (0, 0)) (BA BK110.out)) : gb110 ≠ gb113)); have NB113_110 := Aside0.mk ((by rw [hg]; exact Nat.ne_of_gt (blk_lt (g := gb110) (o := .cells #[.int .i64 0, .slice none 0 0, .int .i64 0] 27 (0, 0)) (BA BK110.out)) : gb113 ≠ gb110)); replace BK110 := Aside0.mk (blk_below (BA BK110.out) hb); have NB111_113 := Aside0.mk ((by rw [hg]; exact Nat.ne_of_lt (blk_lt (g := gb111) (o := .cells #[.int .i64 0, .int .i64 0, .int .i64 0, .int .i64 0, .int .i64 0, .int .i64 0, .string (⟨#[]⟩ : ByteArray), .int .i64 0] 36 (0, 0)) (BA BK111.out)) : gb111 ≠ gb113)); have NB113_111 := Aside0.mk ((by rw [hg]; exact Nat.ne_of_gt (blk_lt (g := gb111) (o := .cells #[.int .i64 0, .int .i64 0, .int .i64 0, .int .i64 0, .int .i64 0, .int .i64 0, .string (⟨#[]⟩ : ByteArray), .int .i64 0] 36 (0, 0)) (BA BK111.out)) : gb113 ≠ gb111)); replace BK111 := Aside0.mk (blk_below (BA BK111.out) hb); clear hb hbox hg; have hnb13 := NB113_109.out; have hnc13 := NB109_113.out; have hnb14 := NB113_110.out; have hnc14 := NB110_113.out; have hnb15 := NB113_111.out; have hnc15 := NB111_113.out; obtain ⟨hcz16_0, hcz16_1, hcz16_2, hcz16_3, hcz16_4, hcz16_5, hcz16_6, hcz16_7, hfz16_0, hfz16_1, hfz16_2, hfz16_3, hfz16_4, hfz16_5, hfz16_6, hfz16_7⟩ := cz8 BK113.out) | ((with_reducible refine gate_store (t := 36) (p := 5) rfl ?_); refine store_event (t := 36) (p := 5) (v := ?vo_w17) (w1 := ((((((((w12.setCell ⟨gb113, 0, none⟩ (.int .i64 ((rd_T36 l0_1 0).f0))).setCell ⟨gb113, 1, none⟩ (.int .i64 ((rd_T36 l0_1 0).f1.f0))).setCell ⟨gb113, 2, none⟩ (.int .i64 ((rd_T36 l0_1 0).f1.f1))).setCell ⟨gb113, 3, none⟩ (.int .i64 ((rd_T36 l0_1 0).f1.f2))).setCell ⟨gb113, 4, none⟩ (.int .i64 ((rd_T36 l0_1 0).f1.f3))).setCell ⟨gb113, 5, none⟩ (.int .i64 ((rd_T36 l0_1 0).f1.f4))).setCell ⟨gb113, 6, none⟩ (.string ((rd_T36 l0_1 0).f1.f5))).setCell ⟨gb113, 7, none⟩ (.int .i64 ((rd_T36 l0_1 0).f2)))) ?hg ?ho ?hn ?hr ?_; (case ho => rfl); (case hg => rfl); (case hn => rfl); (case hr => first | (go_simp; done) | (go_simp; rfl)); intro w17 hw; replace HO0_1 : Aside0 (Kd.V k36 36 w17 w.heap.size (fun k_ => (P0_1_ k_ ∨ w.heap.size ≤ k_) ∧ k_ ≠ gb109 ∧ k_ ≠ gb110 ∧ k_ ≠ gb111 ∧ k_ ≠ gb113) (.slice (some ad112) l0_1.length c0_1) l0_1) := ⟨(by rw [hw]; exact (Kd.V_mono (Kd.V_mv (g := gb113) (Kd.V_mono HO0_1.out (fun k_ hk => (⟨hk, hk.2⟩ : _ ∧ k_ ≠ gb113))) (fun _ hk => hk.2)) (fun _ hk => ⟨hk.1.1.1.1.1, ⟨hk.1.1.1.1.2, ⟨hk.1.1.1.2, ⟨hk.1.1.2, hk.1.2⟩⟩⟩⟩)))⟩; replace BK109 : Aside0 (w17.heap[gb109]? = some (.cells #[.int .i64 a0_0, .slice (some ad112) l0_1.length c0_1, .int .i64 a0_2] 27 (0, 0))) := ⟨(by rw [hw]; exact (BF BK109.out NB109_113.out))⟩; replace BK110 : Aside0 (w17.heap[gb110]? = some (.cells #[.int .i64 0, .slice none 0 0, .int .i64 0] 27 (0, 0))) := ⟨(by rw [hw]; exact (BF BK110.out NB110_113.out))⟩; replace BK111 : Aside0 (w17.heap[gb111]? = some (.cells #[.int .i64 0, .int .i64 0, .int .i64 0, .int .i64 0, .int .i64 0, .int .i64 0, .string (⟨#[]⟩ : ByteArray), .int .i64 0] 36 (0, 0))) := ⟨(by rw [hw]; exact (BF BK111.out NB111_113.out))⟩; replace BK113 : Aside0 (w17.heap[gb113]? = some (.cells #[.int .i64 ((rd_T36 l0_1 0).f0), .int .i64 ((rd_T36 l0_1 0).f1.f0), .int .i64 ((rd_T36 l0_1 0).f1.f1), .int .i64 ((rd_T36 l0_1 0).f1.f2), .int .i64 ((rd_T36 l0_1 0).f1.f3), .int .i64 ((rd_T36 l0_1 0).f1.f4), .string ((rd_T36 l0_1 0).f1.f5), .int .i64 ((rd_T36 l0_1 0).f2)] 36 (0, 0))) := ⟨(by rw [hw]; exact (BP BK113.out (by rfl)))⟩; replace HB : Aside0 (Below w.heap.size w w17) := ⟨(by rw [hw]; exact (LG HB.out (G1 GE113.out G0)))⟩; clear hw; obtain ⟨hcz18_0, hcz18_1, hcz18_2, hfz18_0, hfz18_1, hfz18_2⟩ := cz3 BK109.out; have q19 : (1 : Int) ≤ ((l0_1.length : Int) : Int) := of_decide_eq_true (by first | (with_reducible assumption) | assumption); obtain ⟨i019, hi019, _, hsz19, _⟩ := info_parts info36; have hroom19 : l0_1.length ≤ c0_1 := (Kd.V_reads' HO0_1.out).2.1; have hC19 : Kd.F k36 _ _ (some ad112) l0_1.length l0_1 := (Kd.V_at (base := w.heap.size) HO0_1.out).2.2; have hcut19 := cut_from (P := Try.prog) 22 36 .i64 Try.underlying22 hi019 8 hsz19 (some ad112) l0_1.length c0_1 1 (by omega) q19; have hr19 := Kd.F_cut (m := (1 : Int).toNat) (c := c0_1) hC19 (by omega) hroom19; obtain ⟨A19, hA19⟩ : ∃ A_, A_ = (if c0_1 = (1 : Int).toNat then (some ad112) else ((some ad112) : Option Addr).map (·.add ((1 : Int).toNat * 8))) := ⟨_, rfl⟩; obtain ⟨c19, hc19⟩ : ∃ c_, c_ = c0_1 - (1 : Int).toNat := ⟨_, rfl⟩; have hy19 : y114.length = l0_1.length - (1 : Int).toNat := (by rw [Ny114.out, List.length_drop] <;> omega); rw [show (l0_1).drop (1 : Int).toNat = y114 from Ny114.out.symm] at hr19; replace hr19 : Kd.F k36 _ _ A19 y114.length y114 := (by rw [hA19]; exact hr19); rw [← hy19, ← hA19, ← hc19] at hcut19; have HO118 := Aside0.mk (show Kd.V k36 36 _ w.heap.size _ (.slice A19 y114.length c19) y114 from Kd.V_mk (by rw [hy19, hc19]; exact Nat.sub_le_sub_right hroom19 _) hr19); have HC118 := Aside0.mk (show y114.length ≤ c19 from by rw [hy19, hc19]; exact Nat.sub_le_sub_right hroom19 _); clear hr19 hC19 hroom19 hi019 hsz19 hc19; have KY19 := Aside0.mk hy19; have KA19 := Aside0.mk hA19; clear hy19 hA19; replace q19 := eq_true q19) | ((with_reducible refine gate_callee (f := 24) rfl ?_); refine goesL_ (some 19) rfl rfl Try.func24 (by kernel_rfl) rfl #[.slice A19 y114.length c19] rfl (by (try simp only [List.map_toArray, List.map_cons, List.map_nil]); first | done | rfl | (simp only [List.length_drop, List.length_take]; rfl)) ?_; (with_reducible refine (api_Event.calls _ _ y114 t119 _ ?side1 ?side2 A5.out).mono ?_); (case side1 => exact Kd.CA (Kd.V_reads' HO118.out).2.2); (case side2 => exact (Kd.V_reads' HO118.out).2.1); rintro e w20 ⟨v120, rfl, ho0, hb⟩; refine ⟨_, rfl, ?_⟩; replace HO0_1 := Aside0.mk (Kd.V_elder' (Kd.VA HO0_1.out) (Kd.R_base ho0) hb); replace HO118 := Aside0.mk (Kd.V_elder' (Kd.VA HO118.out) (Kd.R_base ho0) hb); have HO121 := Aside0.mk (Kd.R_lower (Kd.R_newB (Kd.R_newB (Kd.R_newM (M := fun k_ => (w.heap.size ≤ k_)) ho0 (below_size (LA HB.out)) (fun k_ h_ => h_)) (g := gb111) (o := .cells #[.int .i64 0, .int .i64 0, .int .i64 0, .int .i64 0, .int .i64 0, .int .i64 0, .string (⟨#[]⟩ : ByteArray), .int .i64 0] 36 (0, 0)) (BA BK111.out)) (g := gb113) (o := .cells #[.int .i64 ((rd_T36 l0_1 0).f0), .int .i64 ((rd_T36 l0_1 0).f1.f0), .int .i64 ((rd_T36 l0_1 0).f1.f1), .int .i64 ((rd_T36 l0_1 0).f1.f2), .int .i64 ((rd_T36 l0_1 0).f1.f3), .int .i64 ((rd_T36 l0_1 0).f1.f4), .string ((rd_T36 l0_1 0).f1.f5), .int .i64 ((rd_T36 l0_1 0).f2)] 36 (0, 0)) (BA BK113.out)) (below_size (LA HB.out))); replace BK109 := Aside0.mk (blk_below (BA BK109.out) hb); replace BK110 := Aside0.mk (blk_below (BA BK110.out) hb); replace BK111 := Aside0.mk (blk_below (BA BK111.out) hb); replace BK113 := Aside0.mk (blk_below (BA BK113.out) hb); replace HB := Aside0.mk (below_step (LA HB.out) hb); (try clear hb); (try clear hb2); (try clear hk); (try clear hi); (try clear ho0); obtain ⟨Ao21, co21, eo21⟩ := Kd.R_slice HO121.out; subst eo21; obtain ⟨hcz22_0, hcz22_1, hcz22_2, hfz22_0, hfz22_1, hfz22_2⟩ := cz3 BK109.out))
    have n0_ : Aside0 (Kd.V k36 36 (w20.setCell ⟨gb109, 1, none⟩ (.slice Ao21 t119.length co21)) w.heap.size (fun k_ => (P0_1_ k_ ∨ w.heap.size ≤ k_) ∧ some k_ ≠ (.slice Ao21 t119.length co21 : Value).ownBlock ∧ k_ ≠ gb109 ∧ k_ ≠ gb110 ∧ k_ ≠ gb111 ∧ k_ ≠ gb113) (.slice (some ad112) l0_1.length c0_1) l0_1) := ⟨by (with_reducible repeat (first | apply Kd.V_alloc | apply Kd.V_drewN | apply Kd.V_drew)); exact Kd.V_mono (Kd.V_far (p := ⟨gb109, 1, none⟩) (Kd.V_mono HO0_1.out (fun k_ hk => (⟨hk, hk.1.2.1⟩ : _ ∧ k_ ≠ gb109))) (fun _ hk => hk.2) (.slice Ao21 t119.length co21)) (fun _ hk => ⟨hk.1.1.1, ⟨hk.1.2, ⟨hk.1.1.2.1, ⟨hk.1.1.2.2.1, ⟨hk.1.1.2.2.2.1, hk.1.1.2.2.2.2⟩⟩⟩⟩⟩)⟩
    have n1_ : Aside0 (Kd.V k36 36 (w20.setCell ⟨gb109, 1, none⟩ (.slice Ao21 t119.length co21)) w.heap.size (fun k_ => (P0_1_ k_ ∨ w.heap.size ≤ k_) ∧ some k_ ≠ (.slice Ao21 t119.length co21 : Value).ownBlock ∧ k_ ≠ gb109 ∧ k_ ≠ gb110 ∧ k_ ≠ gb111 ∧ k_ ≠ gb113) (.slice A19 y114.length c19) y114) := ⟨by (with_reducible repeat (first | apply Kd.V_alloc | apply Kd.V_drewN | apply Kd.V_drew)); exact Kd.V_mono (Kd.V_far (p := ⟨gb109, 1, none⟩) (Kd.V_mono HO118.out (fun k_ hk => (⟨hk, hk.1.2.1⟩ : _ ∧ k_ ≠ gb109))) (fun _ hk => hk.2) (.slice Ao21 t119.length co21)) (fun _ hk => ⟨hk.1.1.1, ⟨hk.1.2, ⟨hk.1.1.2.1, ⟨hk.1.1.2.2.1, ⟨hk.1.1.2.2.2.1, hk.1.1.2.2.2.2⟩⟩⟩⟩⟩)⟩
    have n2_ : Aside0 (Kd.R k36 36 (w20.setCell ⟨gb109, 1, none⟩ (.slice Ao21 t119.length co21)) w.heap.size (fun k_ => (w.heap.size ≤ k_) ∧ k_ ≠ gb111 ∧ k_ ≠ gb113) (.slice Ao21 t119.length co21) t119) := ⟨by (with_reducible repeat (first | apply Kd.R_alloc | apply Kd.R_drewN | apply Kd.R_drew)); exact Kd.R_mono (Kd.R_far (p := ⟨gb109, 1, none⟩) (Kd.R_types HO121.out BK109.out (by decide)) (fun _ hk => hk.2) (.slice Ao21 t119.length co21)) (fun _ hk => ⟨hk.1.1.1.1, ⟨hk.1.1.2, hk.1.2⟩⟩)⟩
    have n3_ : Aside0 ((w20.setCell ⟨gb109, 1, none⟩ (.slice Ao21 t119.length co21)).heap[gb109]? = some (.cells #[.int .i64 a0_0, .slice Ao21 t119.length co21, .int .i64 a0_2] 27 (0, 0))) := ⟨by (with_reducible repeat (first | refine blk_drewN ?_ _ | refine blk_drew ?_ | refine blk_alloc ?_ _)); refine blk_put (cs := #[.int .i64 a0_0, .slice (some ad112) l0_1.length c0_1, .int .i64 a0_2]) ?_ 1 _ rfl; (with_reducible repeat (first | refine blk_drewN ?_ _ | refine blk_drew ?_ | refine blk_alloc ?_ _)); exact BK109.out⟩
    have n4_ : Aside0 ((w20.setCell ⟨gb109, 1, none⟩ (.slice Ao21 t119.length co21)).heap[gb110]? = some (.cells #[.int .i64 0, .slice none 0 0, .int .i64 0] 27 (0, 0))) := ⟨by exact BF BK110.out NB110_109.out⟩
    have n5_ : Aside0 ((w20.setCell ⟨gb109, 1, none⟩ (.slice Ao21 t119.length co21)).heap[gb111]? = some (.cells #[.int .i64 0, .int .i64 0, .int .i64 0, .int .i64 0, .int .i64 0, .int .i64 0, .string (⟨#[]⟩ : ByteArray), .int .i64 0] 36 (0, 0))) := ⟨by exact BF BK111.out NB111_109.out⟩
    have n6_ : Aside0 ((w20.setCell ⟨gb109, 1, none⟩ (.slice Ao21 t119.length co21)).heap[gb113]? = some (.cells #[.int .i64 ((rd_T36 l0_1 0).f0), .int .i64 ((rd_T36 l0_1 0).f1.f0), .int .i64 ((rd_T36 l0_1 0).f1.f1), .int .i64 ((rd_T36 l0_1 0).f1.f2), .int .i64 ((rd_T36 l0_1 0).f1.f3), .int .i64 ((rd_T36 l0_1 0).f1.f4), .string ((rd_T36 l0_1 0).f1.f5), .int .i64 ((rd_T36 l0_1 0).f2)] 36 (0, 0))) := ⟨by exact BF BK113.out NB113_109.out⟩
    have n7_ : Aside0 (Below w.heap.size w (w20.setCell ⟨gb109, 1, none⟩ (.slice Ao21 t119.length co21))) := ⟨LG HB.out (G1 GE109.out (G1 GE110.out (G1 GE111.out (G1 GE113.out G0))))⟩
    (try clear HO0_1)
    (try clear HO118)
    (try clear HO121)
    (try clear BK109)
    (try clear BK110)
    (try clear BK111)
    (try clear BK113)
    (try clear HB)
    generalize (w20.setCell ⟨gb109, 1, none⟩ (.slice Ao21 t119.length co21)) = w23 at n0_ n1_ n2_ n3_ n4_ n5_ n6_ n7_ ⊢
    have HO0_1 := n0_
    have HO118 := n1_
    have HO121 := n2_
    have BK109 := n3_
    have BK110 := n4_
    have BK111 := n5_
    have BK113 := n6_
    have HB := n7_
    clear n0_ n1_ n2_ n3_ n4_ n5_ n6_ n7_
    have n0_ := Aside0.mk (Kd.V_drew HO0_1.out)
    have n1_ := Aside0.mk (Kd.V_drew HO118.out)
    have n2_ := Aside0.mk (Kd.R_drew HO121.out)
    have n3_ := Aside0.mk (blk_drew BK109.out)
    have n4_ := Aside0.mk (blk_drew BK110.out)
    have n5_ := Aside0.mk (blk_drew BK111.out)
    have n6_ := Aside0.mk (blk_drew BK113.out)
    have n7_ := Aside0.mk (below_drew1 HB.out)
    clear HO0_1
    clear HO118
    clear HO121
    clear BK109
    clear BK110
    clear BK111
    clear BK113
    clear HB
    have HO0_1 := n0_
    have HO118 := n1_
    have HO121 := n2_
    have BK109 := n3_
    have BK110 := n4_
    have BK111 := n5_
    have BK113 := n6_
    have HB := n7_
    clear n0_ n1_ n2_ n3_ n4_ n5_ n6_ n7_
    refine start_ (n := 5) (S := fun w' => w'.cell? ⟨gb109, 0, none⟩ = some (.int .i64 a0_0) ∧ w'.cell? ⟨gb109, 1, none⟩ = some (.slice Ao21 t119.length co21) ∧ w'.cell? ⟨gb109, 2, none⟩ = some (.int .i64 a0_2) ∧ w'.cell? ⟨gb113, 0, none⟩ = some (.int .i64 ((rd_T36 l0_1 0).f0)) ∧ w'.cell? ⟨gb113, 1, none⟩ = some (.int .i64 ((rd_T36 l0_1 0).f1.f0)) ∧ w'.cell? ⟨gb113, 2, none⟩ = some (.int .i64 ((rd_T36 l0_1 0).f1.f1)) ∧ w'.cell? ⟨gb113, 3, none⟩ = some (.int .i64 ((rd_T36 l0_1 0).f1.f2)) ∧ w'.cell? ⟨gb113, 4, none⟩ = some (.int .i64 ((rd_T36 l0_1 0).f1.f3)) ∧ w'.cell? ⟨gb113, 5, none⟩ = some (.int .i64 ((rd_T36 l0_1 0).f1.f4)) ∧ w'.cell? ⟨gb113, 6, none⟩ = some (.string ((rd_T36 l0_1 0).f1.f5)) ∧ w'.cell? ⟨gb113, 7, none⟩ = some (.int .i64 ((rd_T36 l0_1 0).f2))) (ds := []) #[false, false, false, false, false] (by kernel_rfl) rfl rfl ⟨(blk_cell BK109.out 0).trans rfl, (blk_cell BK109.out 1).trans rfl, (blk_cell BK109.out 2).trans rfl, (blk_cell BK113.out 0).trans rfl, (blk_cell BK113.out 1).trans rfl, (blk_cell BK113.out 2).trans rfl, (blk_cell BK113.out 3).trans rfl, (blk_cell BK113.out 4).trans rfl, (blk_cell BK113.out 5).trans rfl, (blk_cell BK113.out 6).trans rfl, (blk_cell BK113.out 7).trans rfl⟩ (fun hHeld => ?_)
    generalize w23.drew = w24 at HO0_1 HO118 HO121 BK109 BK110 BK111 BK113 HB hHeld ⊢
    refine take_ (i := 0) (N := some 21) (v := ?_) (a' := ?_) #[true, false, false, false, false] rfl rfl (by kernel_rfl) (fun _ _ _ h => h) (Or.inl ⟨by rfl, ?_⟩) hHeld ?_ ?_
    rotate_left
    · rintro w' ⟨s0, s1, s2, s3, s4, s5, s6, s7, s8, s9, s10⟩
      go_simp
      with_reducible rfl
    rotate_left
    · simp only [Act.put, PU, i64_w, i32_w]
      rfl
    refine take_ (i := 1) (N := some 22) (v := ?_) (a' := ?_) #[true, true, false, false, false] rfl rfl (by kernel_rfl) (fun _ _ _ h => h) (Or.inl ⟨by rfl, ?_⟩) hHeld ?_ ?_
    rotate_left
    · rintro w' ⟨s0, s1, s2, s3, s4, s5, s6, s7, s8, s9, s10⟩
      go_simp
      with_reducible rfl
    rotate_left
    · simp only [Act.put, PU, i64_w, i32_w]
      rfl
    refine one_ (i := 2) (N := none) #[true, true, true, false, false] rfl rfl (by kernel_rfl) (by decide) (fun K hK => ?_)
    have hs25 : w24.cell? ⟨gb110, 0, none⟩ = some (.int .i64 0) := (blk_cell BK110.out 0).trans rfl
    have hfs25 := blk_frozen BK110.out 0
    have hns25_0 := NB109_110.out
    have hns25_2 := NB111_110.out
    have hns25_3 := NB113_110.out
    have hms25_0 := NB110_109.out
    have hms25_2 := NB110_111.out
    have hms25_3 := NB110_113.out
    have hs26 : w24.cell? ⟨gb110, 1, none⟩ = some (.slice none 0 0) := (blk_cell BK110.out 1).trans rfl
    have hfs26 := blk_frozen BK110.out 1
    have hns26_0 := NB109_110.out
    have hns26_2 := NB111_110.out
    have hns26_3 := NB113_110.out
    have hms26_0 := NB110_109.out
    have hms26_2 := NB110_111.out
    have hms26_3 := NB110_113.out
    have hs27 : w24.cell? ⟨gb110, 2, none⟩ = some (.int .i64 0) := (blk_cell BK110.out 2).trans rfl
    have hfs27 := blk_frozen BK110.out 2
    have hns27_0 := NB109_110.out
    have hns27_2 := NB111_110.out
    have hns27_3 := NB113_110.out
    have hms27_0 := NB110_109.out
    have hms27_2 := NB110_111.out
    have hms27_3 := NB110_113.out
    refine skip_ (w1 := ?_) (by rfl) rfl ?_ ?_
    rotate_left
    · go_simp
      rfl
    refine hK.out _ _ ⟨((cell_far (p := ⟨gb110, _, none⟩) NB109_110.out _).trans (((cell_far (p := ⟨gb110, _, none⟩) NB109_110.out _).trans (((cell_far (p := ⟨gb110, _, none⟩) NB109_110.out _).trans (hHeld.1)))))), ((cell_far (p := ⟨gb110, _, none⟩) NB109_110.out _).trans (((cell_far (p := ⟨gb110, _, none⟩) NB109_110.out _).trans (((cell_far (p := ⟨gb110, _, none⟩) NB109_110.out _).trans (hHeld.2.1)))))), ((cell_far (p := ⟨gb110, _, none⟩) NB109_110.out _).trans (((cell_far (p := ⟨gb110, _, none⟩) NB109_110.out _).trans (((cell_far (p := ⟨gb110, _, none⟩) NB109_110.out _).trans (hHeld.2.2.1)))))), ((cell_far (p := ⟨gb110, _, none⟩) NB113_110.out _).trans (((cell_far (p := ⟨gb110, _, none⟩) NB113_110.out _).trans (((cell_far (p := ⟨gb110, _, none⟩) NB113_110.out _).trans (hHeld.2.2.2.1)))))), ((cell_far (p := ⟨gb110, _, none⟩) NB113_110.out _).trans (((cell_far (p := ⟨gb110, _, none⟩) NB113_110.out _).trans (((cell_far (p := ⟨gb110, _, none⟩) NB113_110.out _).trans (hHeld.2.2.2.2.1)))))), ((cell_far (p := ⟨gb110, _, none⟩) NB113_110.out _).trans (((cell_far (p := ⟨gb110, _, none⟩) NB113_110.out _).trans (((cell_far (p := ⟨gb110, _, none⟩) NB113_110.out _).trans (hHeld.2.2.2.2.2.1)))))), ((cell_far (p := ⟨gb110, _, none⟩) NB113_110.out _).trans (((cell_far (p := ⟨gb110, _, none⟩) NB113_110.out _).trans (((cell_far (p := ⟨gb110, _, none⟩) NB113_110.out _).trans (hHeld.2.2.2.2.2.2.1)))))), ((cell_far (p := ⟨gb110, _, none⟩) NB113_110.out _).trans (((cell_far (p := ⟨gb110, _, none⟩) NB113_110.out _).trans (((cell_far (p := ⟨gb110, _, none⟩) NB113_110.out _).trans (hHeld.2.2.2.2.2.2.2.1)))))), ((cell_far (p := ⟨gb110, _, none⟩) NB113_110.out _).trans (((cell_far (p := ⟨gb110, _, none⟩) NB113_110.out _).trans (((cell_far (p := ⟨gb110, _, none⟩) NB113_110.out _).trans (hHeld.2.2.2.2.2.2.2.2.1)))))), ((cell_far (p := ⟨gb110, _, none⟩) NB113_110.out _).trans (((cell_far (p := ⟨gb110, _, none⟩) NB113_110.out _).trans (((cell_far (p := ⟨gb110, _, none⟩) NB113_110.out _).trans (hHeld.2.2.2.2.2.2.2.2.2.1)))))), ((cell_far (p := ⟨gb110, _, none⟩) NB113_110.out _).trans (((cell_far (p := ⟨gb110, _, none⟩) NB113_110.out _).trans (((cell_far (p := ⟨gb110, _, none⟩) NB113_110.out _).trans (hHeld.2.2.2.2.2.2.2.2.2.2))))))⟩ (fun hHeld => ?_)
    clear hK K
    refine one_ (i := 3) (N := none) #[true, true, true, true, false] rfl rfl (by kernel_rfl) (by decide) (fun K hK => ?_)
    have hs28 : w24.cell? ⟨gb111, 0, none⟩ = some (.int .i64 0) := (blk_cell BK111.out 0).trans rfl
    have hfs28 := blk_frozen BK111.out 0
    have hns28_0 := NB109_111.out
    have hns28_1 := NB110_111.out
    have hns28_3 := NB113_111.out
    have hms28_0 := NB111_109.out
    have hms28_1 := NB111_110.out
    have hms28_3 := NB111_113.out
    have hs29 : w24.cell? ⟨gb111, 1, none⟩ = some (.int .i64 0) := (blk_cell BK111.out 1).trans rfl
    have hfs29 := blk_frozen BK111.out 1
    have hns29_0 := NB109_111.out
    have hns29_1 := NB110_111.out
    have hns29_3 := NB113_111.out
    have hms29_0 := NB111_109.out
    have hms29_1 := NB111_110.out
    have hms29_3 := NB111_113.out
    have hs30 : w24.cell? ⟨gb111, 2, none⟩ = some (.int .i64 0) := (blk_cell BK111.out 2).trans rfl
    have hfs30 := blk_frozen BK111.out 2
    have hns30_0 := NB109_111.out
    have hns30_1 := NB110_111.out
    have hns30_3 := NB113_111.out
    have hms30_0 := NB111_109.out
    have hms30_1 := NB111_110.out
    have hms30_3 := NB111_113.out
    have hs31 : w24.cell? ⟨gb111, 3, none⟩ = some (.int .i64 0) := (blk_cell BK111.out 3).trans rfl
    have hfs31 := blk_frozen BK111.out 3
    have hns31_0 := NB109_111.out
    have hns31_1 := NB110_111.out
    have hns31_3 := NB113_111.out
    have hms31_0 := NB111_109.out
    have hms31_1 := NB111_110.out
    have hms31_3 := NB111_113.out
    have hs32 : w24.cell? ⟨gb111, 4, none⟩ = some (.int .i64 0) := (blk_cell BK111.out 4).trans rfl
    have hfs32 := blk_frozen BK111.out 4
    have hns32_0 := NB109_111.out
    have hns32_1 := NB110_111.out
    have hns32_3 := NB113_111.out
    have hms32_0 := NB111_109.out
    have hms32_1 := NB111_110.out
    have hms32_3 := NB111_113.out
    have hs33 : w24.cell? ⟨gb111, 5, none⟩ = some (.int .i64 0) := (blk_cell BK111.out 5).trans rfl
    have hfs33 := blk_frozen BK111.out 5
    have hns33_0 := NB109_111.out
    have hns33_1 := NB110_111.out
    have hns33_3 := NB113_111.out
    have hms33_0 := NB111_109.out
    have hms33_1 := NB111_110.out
    have hms33_3 := NB111_113.out
    have hs34 : w24.cell? ⟨gb111, 6, none⟩ = some (.string (⟨#[]⟩ : ByteArray)) := (blk_cell BK111.out 6).trans rfl
    have hfs34 := blk_frozen BK111.out 6
    have hns34_0 := NB109_111.out
    have hns34_1 := NB110_111.out
    have hns34_3 := NB113_111.out
    have hms34_0 := NB111_109.out
    have hms34_1 := NB111_110.out
    have hms34_3 := NB111_113.out
    have hs35 : w24.cell? ⟨gb111, 7, none⟩ = some (.int .i64 0) := (blk_cell BK111.out 7).trans rfl
    have hfs35 := blk_frozen BK111.out 7
    have hns35_0 := NB109_111.out
    have hns35_1 := NB110_111.out
    have hns35_3 := NB113_111.out
    have hms35_0 := NB111_109.out
    have hms35_1 := NB111_110.out
    have hms35_3 := NB111_113.out
    refine skip_ (w1 := ?_) (by rfl) rfl ?_ ?_
    rotate_left
    · go_simp
      rfl
    refine hK.out _ _ ⟨((cell_far (p := ⟨gb111, _, none⟩) NB109_111.out _).trans (((cell_far (p := ⟨gb111, _, none⟩) NB109_111.out _).trans (((cell_far (p := ⟨gb111, _, none⟩) NB109_111.out _).trans (((cell_far (p := ⟨gb111, _, none⟩) NB109_111.out _).trans (((cell_far (p := ⟨gb111, _, none⟩) NB109_111.out _).trans (((cell_far (p := ⟨gb111, _, none⟩) NB109_111.out _).trans (((cell_far (p := ⟨gb111, _, none⟩) NB109_111.out _).trans (((cell_far (p := ⟨gb111, _, none⟩) NB109_111.out _).trans (hHeld.1)))))))))))))))), ((cell_far (p := ⟨gb111, _, none⟩) NB109_111.out _).trans (((cell_far (p := ⟨gb111, _, none⟩) NB109_111.out _).trans (((cell_far (p := ⟨gb111, _, none⟩) NB109_111.out _).trans (((cell_far (p := ⟨gb111, _, none⟩) NB109_111.out _).trans (((cell_far (p := ⟨gb111, _, none⟩) NB109_111.out _).trans (((cell_far (p := ⟨gb111, _, none⟩) NB109_111.out _).trans (((cell_far (p := ⟨gb111, _, none⟩) NB109_111.out _).trans (((cell_far (p := ⟨gb111, _, none⟩) NB109_111.out _).trans (hHeld.2.1)))))))))))))))), ((cell_far (p := ⟨gb111, _, none⟩) NB109_111.out _).trans (((cell_far (p := ⟨gb111, _, none⟩) NB109_111.out _).trans (((cell_far (p := ⟨gb111, _, none⟩) NB109_111.out _).trans (((cell_far (p := ⟨gb111, _, none⟩) NB109_111.out _).trans (((cell_far (p := ⟨gb111, _, none⟩) NB109_111.out _).trans (((cell_far (p := ⟨gb111, _, none⟩) NB109_111.out _).trans (((cell_far (p := ⟨gb111, _, none⟩) NB109_111.out _).trans (((cell_far (p := ⟨gb111, _, none⟩) NB109_111.out _).trans (hHeld.2.2.1)))))))))))))))), ((cell_far (p := ⟨gb111, _, none⟩) NB113_111.out _).trans (((cell_far (p := ⟨gb111, _, none⟩) NB113_111.out _).trans (((cell_far (p := ⟨gb111, _, none⟩) NB113_111.out _).trans (((cell_far (p := ⟨gb111, _, none⟩) NB113_111.out _).trans (((cell_far (p := ⟨gb111, _, none⟩) NB113_111.out _).trans (((cell_far (p := ⟨gb111, _, none⟩) NB113_111.out _).trans (((cell_far (p := ⟨gb111, _, none⟩) NB113_111.out _).trans (((cell_far (p := ⟨gb111, _, none⟩) NB113_111.out _).trans (hHeld.2.2.2.1)))))))))))))))), ((cell_far (p := ⟨gb111, _, none⟩) NB113_111.out _).trans (((cell_far (p := ⟨gb111, _, none⟩) NB113_111.out _).trans (((cell_far (p := ⟨gb111, _, none⟩) NB113_111.out _).trans (((cell_far (p := ⟨gb111, _, none⟩) NB113_111.out _).trans (((cell_far (p := ⟨gb111, _, none⟩) NB113_111.out _).trans (((cell_far (p := ⟨gb111, _, none⟩) NB113_111.out _).trans (((cell_far (p := ⟨gb111, _, none⟩) NB113_111.out _).trans (((cell_far (p := ⟨gb111, _, none⟩) NB113_111.out _).trans (hHeld.2.2.2.2.1)))))))))))))))), ((cell_far (p := ⟨gb111, _, none⟩) NB113_111.out _).trans (((cell_far (p := ⟨gb111, _, none⟩) NB113_111.out _).trans (((cell_far (p := ⟨gb111, _, none⟩) NB113_111.out _).trans (((cell_far (p := ⟨gb111, _, none⟩) NB113_111.out _).trans (((cell_far (p := ⟨gb111, _, none⟩) NB113_111.out _).trans (((cell_far (p := ⟨gb111, _, none⟩) NB113_111.out _).trans (((cell_far (p := ⟨gb111, _, none⟩) NB113_111.out _).trans (((cell_far (p := ⟨gb111, _, none⟩) NB113_111.out _).trans (hHeld.2.2.2.2.2.1)))))))))))))))), ((cell_far (p := ⟨gb111, _, none⟩) NB113_111.out _).trans (((cell_far (p := ⟨gb111, _, none⟩) NB113_111.out _).trans (((cell_far (p := ⟨gb111, _, none⟩) NB113_111.out _).trans (((cell_far (p := ⟨gb111, _, none⟩) NB113_111.out _).trans (((cell_far (p := ⟨gb111, _, none⟩) NB113_111.out _).trans (((cell_far (p := ⟨gb111, _, none⟩) NB113_111.out _).trans (((cell_far (p := ⟨gb111, _, none⟩) NB113_111.out _).trans (((cell_far (p := ⟨gb111, _, none⟩) NB113_111.out _).trans (hHeld.2.2.2.2.2.2.1)))))))))))))))), ((cell_far (p := ⟨gb111, _, none⟩) NB113_111.out _).trans (((cell_far (p := ⟨gb111, _, none⟩) NB113_111.out _).trans (((cell_far (p := ⟨gb111, _, none⟩) NB113_111.out _).trans (((cell_far (p := ⟨gb111, _, none⟩) NB113_111.out _).trans (((cell_far (p := ⟨gb111, _, none⟩) NB113_111.out _).trans (((cell_far (p := ⟨gb111, _, none⟩) NB113_111.out _).trans (((cell_far (p := ⟨gb111, _, none⟩) NB113_111.out _).trans (((cell_far (p := ⟨gb111, _, none⟩) NB113_111.out _).trans (hHeld.2.2.2.2.2.2.2.1)))))))))))))))), ((cell_far (p := ⟨gb111, _, none⟩) NB113_111.out _).trans (((cell_far (p := ⟨gb111, _, none⟩) NB113_111.out _).trans (((cell_far (p := ⟨gb111, _, none⟩) NB113_111.out _).trans (((cell_far (p := ⟨gb111, _, none⟩) NB113_111.out _).trans (((cell_far (p := ⟨gb111, _, none⟩) NB113_111.out _).trans (((cell_far (p := ⟨gb111, _, none⟩) NB113_111.out _).trans (((cell_far (p := ⟨gb111, _, none⟩) NB113_111.out _).trans (((cell_far (p := ⟨gb111, _, none⟩) NB113_111.out _).trans (hHeld.2.2.2.2.2.2.2.2.1)))))))))))))))), ((cell_far (p := ⟨gb111, _, none⟩) NB113_111.out _).trans (((cell_far (p := ⟨gb111, _, none⟩) NB113_111.out _).trans (((cell_far (p := ⟨gb111, _, none⟩) NB113_111.out _).trans (((cell_far (p := ⟨gb111, _, none⟩) NB113_111.out _).trans (((cell_far (p := ⟨gb111, _, none⟩) NB113_111.out _).trans (((cell_far (p := ⟨gb111, _, none⟩) NB113_111.out _).trans (((cell_far (p := ⟨gb111, _, none⟩) NB113_111.out _).trans (((cell_far (p := ⟨gb111, _, none⟩) NB113_111.out _).trans (hHeld.2.2.2.2.2.2.2.2.2.1)))))))))))))))), ((cell_far (p := ⟨gb111, _, none⟩) NB113_111.out _).trans (((cell_far (p := ⟨gb111, _, none⟩) NB113_111.out _).trans (((cell_far (p := ⟨gb111, _, none⟩) NB113_111.out _).trans (((cell_far (p := ⟨gb111, _, none⟩) NB113_111.out _).trans (((cell_far (p := ⟨gb111, _, none⟩) NB113_111.out _).trans (((cell_far (p := ⟨gb111, _, none⟩) NB113_111.out _).trans (((cell_far (p := ⟨gb111, _, none⟩) NB113_111.out _).trans (((cell_far (p := ⟨gb111, _, none⟩) NB113_111.out _).trans (hHeld.2.2.2.2.2.2.2.2.2.2))))))))))))))))⟩ (fun hHeld => ?_)
    clear hK K
    refine pure_ (i := 4) (N := some 4) (v := ?_) (a' := ?_) #[true, true, true, true, true] rfl rfl (by kernel_rfl) (fun _ _ _ h => h) (Or.inl ⟨by rfl, ?_⟩) ?_ ?_
    rotate_left
    · intro w'
      go_simp
      with_reducible rfl
    rotate_left
    · simp only [Act.put, PU, i64_w, i32_w]
      rfl
    refine done_ (by kernel_rfl) ?_
    try go_wp2
    refine bodyPost_ret (results_list (rs := [.cell 2 27, .cell 3 36, .tmp 4]) rfl (by simp) (.cell gb110 27 #[.int .i64 a0_0, .slice Ao21 t119.length co21, .int .i64 a0_2] (0, 0) _ rfl (by (with_reducible repeat (first | refine blk_drewN ?_ _ | refine blk_drew ?_ | refine blk_alloc ?_ _)); refine blk_far ?_ NB110_111.out _; (with_reducible repeat (first | refine blk_drewN ?_ _ | refine blk_drew ?_ | refine blk_alloc ?_ _)); refine blk_far ?_ NB110_111.out _; (with_reducible repeat (first | refine blk_drewN ?_ _ | refine blk_drew ?_ | refine blk_alloc ?_ _)); refine blk_far ?_ NB110_111.out _; (with_reducible repeat (first | refine blk_drewN ?_ _ | refine blk_drew ?_ | refine blk_alloc ?_ _)); refine blk_far ?_ NB110_111.out _; (with_reducible repeat (first | refine blk_drewN ?_ _ | refine blk_drew ?_ | refine blk_alloc ?_ _)); refine blk_far ?_ NB110_111.out _; (with_reducible repeat (first | refine blk_drewN ?_ _ | refine blk_drew ?_ | refine blk_alloc ?_ _)); refine blk_far ?_ NB110_111.out _; (with_reducible repeat (first | refine blk_drewN ?_ _ | refine blk_drew ?_ | refine blk_alloc ?_ _)); refine blk_far ?_ NB110_111.out _; (with_reducible repeat (first | refine blk_drewN ?_ _ | refine blk_drew ?_ | refine blk_alloc ?_ _)); refine blk_far ?_ NB110_111.out _; exact BP BK110.out (by rfl)) Try.underlying27 rfl (by kernel_rfl) (.cell gb111 36 #[.int .i64 ((rd_T36 l0_1 0).f0), .int .i64 ((rd_T36 l0_1 0).f1.f0), .int .i64 ((rd_T36 l0_1 0).f1.f1), .int .i64 ((rd_T36 l0_1 0).f1.f2), .int .i64 ((rd_T36 l0_1 0).f1.f3), .int .i64 ((rd_T36 l0_1 0).f1.f4), .string ((rd_T36 l0_1 0).f1.f5), .int .i64 ((rd_T36 l0_1 0).f2)] (0, 0) _ rfl (by (with_reducible repeat (first | refine blk_drewN ?_ _ | refine blk_drew ?_ | refine blk_alloc ?_ _)); refine blk_put (cs := #[.int .i64 ((rd_T36 l0_1 0).f0), .int .i64 ((rd_T36 l0_1 0).f1.f0), .int .i64 ((rd_T36 l0_1 0).f1.f1), .int .i64 ((rd_T36 l0_1 0).f1.f2), .int .i64 ((rd_T36 l0_1 0).f1.f3), .int .i64 ((rd_T36 l0_1 0).f1.f4), .string ((rd_T36 l0_1 0).f1.f5), .int .i64 0]) ?_ 7 _ rfl; (with_reducible repeat (first | refine blk_drewN ?_ _ | refine blk_drew ?_ | refine blk_alloc ?_ _)); refine blk_put (cs := #[.int .i64 ((rd_T36 l0_1 0).f0), .int .i64 ((rd_T36 l0_1 0).f1.f0), .int .i64 ((rd_T36 l0_1 0).f1.f1), .int .i64 ((rd_T36 l0_1 0).f1.f2), .int .i64 ((rd_T36 l0_1 0).f1.f3), .int .i64 ((rd_T36 l0_1 0).f1.f4), .string (⟨#[]⟩ : ByteArray), .int .i64 0]) ?_ 6 _ rfl; (with_reducible repeat (first | refine blk_drewN ?_ _ | refine blk_drew ?_ | refine blk_alloc ?_ _)); refine blk_put (cs := #[.int .i64 ((rd_T36 l0_1 0).f0), .int .i64 ((rd_T36 l0_1 0).f1.f0), .int .i64 ((rd_T36 l0_1 0).f1.f1), .int .i64 ((rd_T36 l0_1 0).f1.f2), .int .i64 ((rd_T36 l0_1 0).f1.f3), .int .i64 0, .string (⟨#[]⟩ : ByteArray), .int .i64 0]) ?_ 5 _ rfl; (with_reducible repeat (first | refine blk_drewN ?_ _ | refine blk_drew ?_ | refine blk_alloc ?_ _)); refine blk_put (cs := #[.int .i64 ((rd_T36 l0_1 0).f0), .int .i64 ((rd_T36 l0_1 0).f1.f0), .int .i64 ((rd_T36 l0_1 0).f1.f1), .int .i64 ((rd_T36 l0_1 0).f1.f2), .int .i64 0, .int .i64 0, .string (⟨#[]⟩ : ByteArray), .int .i64 0]) ?_ 4 _ rfl; (with_reducible repeat (first | refine blk_drewN ?_ _ | refine blk_drew ?_ | refine blk_alloc ?_ _)); refine blk_put (cs := #[.int .i64 ((rd_T36 l0_1 0).f0), .int .i64 ((rd_T36 l0_1 0).f1.f0), .int .i64 ((rd_T36 l0_1 0).f1.f1), .int .i64 0, .int .i64 0, .int .i64 0, .string (⟨#[]⟩ : ByteArray), .int .i64 0]) ?_ 3 _ rfl; (with_reducible repeat (first | refine blk_drewN ?_ _ | refine blk_drew ?_ | refine blk_alloc ?_ _)); refine blk_put (cs := #[.int .i64 ((rd_T36 l0_1 0).f0), .int .i64 ((rd_T36 l0_1 0).f1.f0), .int .i64 0, .int .i64 0, .int .i64 0, .int .i64 0, .string (⟨#[]⟩ : ByteArray), .int .i64 0]) ?_ 2 _ rfl; (with_reducible repeat (first | refine blk_drewN ?_ _ | refine blk_drew ?_ | refine blk_alloc ?_ _)); refine blk_put (cs := #[.int .i64 ((rd_T36 l0_1 0).f0), .int .i64 0, .int .i64 0, .int .i64 0, .int .i64 0, .int .i64 0, .string (⟨#[]⟩ : ByteArray), .int .i64 0]) ?_ 1 _ rfl; (with_reducible repeat (first | refine blk_drewN ?_ _ | refine blk_drew ?_ | refine blk_alloc ?_ _)); refine blk_put (cs := #[.int .i64 0, .int .i64 0, .int .i64 0, .int .i64 0, .int .i64 0, .int .i64 0, .string (⟨#[]⟩ : ByteArray), .int .i64 0]) ?_ 0 _ rfl; exact BF BK111.out NB111_110.out) Try.underlying36 rfl (by kernel_rfl) (.tmp .nil)))) rfl ?_
    exact ⟨_, by first | rfl | (simp [errW_none, errW_some] <;> rfl) | (simp [*, errW_none, errW_some] <;> rfl), Kd.V_mono (Kd.R_V (Kd.R_mono (Kd.R_ms (gs := [gb111, gb110]) (Kd.R_mono (Kd.R_types HO121.out BK110.out (by decide)) (fun k_ hk => (⟨hk, hk.1.2.1⟩ : _ ∧ k_ ≠ gb111))) (fun _ hk => N1 (hk.2) (N1 (hk.1.2) (N0)))) (fun _ hk => hk.1.1.1))) (fun k_ hk => by first | exact ⟨(.inr (hk.1)), hk.2⟩ | exact (.inr (hk))), LG HB.out (G1 GE109.out (G1 GE110.out (G1 GE111.out (G1 GE113.out G0))))⟩
  · rw [if_neg c2] at H
    have c2b0 : decide (0 < (l0_1.length : Int)) = false := decide_eq_false c2
    have c2b1 : decide (0 < l0_1.length) = false := decide_eq_false (by omega)
    clear c2
    by_cases c36 : a0_2 > 0
    · rw [if_pos c36] at H
      have c36b0 : decide (0 < a0_2) = true := decide_eq_true c36
      clear c36
      simp only [Option.some.injEq, Prod.mk.injEq] at H
      obtain ⟨rfl, rfl, rfl, rfl, rfl, rfl, rfl, rfl, rfl, rfl, rfl, rfl⟩ := H
      go_enter Try.func13, Try.ntmps13
      try go_wp2_with (first | ((with_reducible refine gate_dst (N := 1) rfl ?_); refine box_event ?hg (N := 1) ?hd (cs := #[.int .i64 a0_0, .slice A0_1 l0_1.length c0_1, .int .i64 a0_2]) (t := 27) ?hr ?_; (case hd => rfl); (case hg => rfl); (case hr => first | (go_simp; done) | (go_simp; rfl)); intro gb109 hg w37 hbox hb; replace HO0_1 := Aside0.mk (Kd.V_below (Kd.V_elderB (Kd.VA HO0_1.out) gb109 (Nat.le_of_eq hg.symm)) hb); have BK109 := Aside0.mk (hbox); have GE109 := Aside0.mk (ge1 hg (LA HB.out)); replace HB := Aside0.mk (below_step (LA HB.out) hb); clear hb hbox hg) | ((with_reducible refine gate_dst (N := 2) rfl ?_); refine box_event ?hg (N := 2) ?hd (cs := #[.int .i64 0, .slice none 0 0, .int .i64 0]) (t := 27) ?hr ?_; (case hd => rfl); (case hg => rfl); (case hr => first | (go_simp; done) | (go_simp; rfl)); intro gb110 hg w38 hbox hb; replace HO0_1 := Aside0.mk (Kd.V_below (Kd.V_elderB (Kd.VA HO0_1.out) gb110 (Nat.le_of_eq hg.symm)) hb); have BK110 := Aside0.mk (hbox); have GE110 := Aside0.mk (ge1 hg (LA HB.out)); replace HB := Aside0.mk (below_step (LA HB.out) hb); have NB109_110 := Aside0.mk ((by rw [hg]; exact Nat.ne_of_lt (blk_lt (g := gb109) (o := .cells #[.int .i64 a0_0, .slice A0_1 l0_1.length c0_1, .int .i64 a0_2] 27 (0, 0)) (BA BK109.out)) : gb109 ≠ gb110)); have NB110_109 := Aside0.mk ((by rw [hg]; exact Nat.ne_of_gt (blk_lt (g := gb109) (o := .cells #[.int .i64 a0_0, .slice A0_1 l0_1.length c0_1, .int .i64 a0_2] 27 (0, 0)) (BA BK109.out)) : gb110 ≠ gb109)); replace BK109 := Aside0.mk (blk_below (BA BK109.out) hb); clear hb hbox hg) | ((with_reducible refine gate_dst (N := 3) rfl ?_); refine box_event ?hg (N := 3) ?hd (cs := #[.int .i64 0, .int .i64 0, .int .i64 0, .int .i64 0, .int .i64 0, .int .i64 0, .string (⟨#[]⟩ : ByteArray), .int .i64 0]) (t := 36) ?hr ?_; (case hd => rfl); (case hg => rfl); (case hr => first | (go_simp; done) | (go_simp; rfl)); intro gb111 hg w39 hbox hb; replace HO0_1 := Aside0.mk (Kd.V_below (Kd.V_elderB (Kd.VA HO0_1.out) gb111 (Nat.le_of_eq hg.symm)) hb); have BK111 := Aside0.mk (hbox); have GE111 := Aside0.mk (ge1 hg (LA HB.out)); replace HB := Aside0.mk (below_step (LA HB.out) hb); have NB109_111 := Aside0.mk ((by rw [hg]; exact Nat.ne_of_lt (blk_lt (g := gb109) (o := .cells #[.int .i64 a0_0, .slice A0_1 l0_1.length c0_1, .int .i64 a0_2] 27 (0, 0)) (BA BK109.out)) : gb109 ≠ gb111)); have NB111_109 := Aside0.mk ((by rw [hg]; exact Nat.ne_of_gt (blk_lt (g := gb109) (o := .cells #[.int .i64 a0_0, .slice A0_1 l0_1.length c0_1, .int .i64 a0_2] 27 (0, 0)) (BA BK109.out)) : gb111 ≠ gb109)); replace BK109 := Aside0.mk (blk_below (BA BK109.out) hb); have NB110_111 := Aside0.mk ((by rw [hg]; exact Nat.ne_of_lt (blk_lt (g := gb110) (o := .cells #[.int .i64 0, .slice none 0 0, .int .i64 0] 27 (0, 0)) (BA BK110.out)) : gb110 ≠ gb111)); have NB111_110 := Aside0.mk ((by rw [hg]; exact Nat.ne_of_gt (blk_lt (g := gb110) (o := .cells #[.int .i64 0, .slice none 0 0, .int .i64 0] 27 (0, 0)) (BA BK110.out)) : gb111 ≠ gb110)); replace BK110 := Aside0.mk (blk_below (BA BK110.out) hb); clear hb hbox hg; have hnb40 := NB109_110.out; have hnc40 := NB110_109.out; have hnb41 := NB109_111.out; have hnc41 := NB111_109.out; obtain ⟨hcz42_0, hcz42_1, hcz42_2, hfz42_0, hfz42_1, hfz42_2⟩ := cz3 BK109.out) | ((with_reducible refine gate_dst (N := 6) rfl ?_); refine box_event ?hg (N := 6) ?hd (cs := #[.int .i64 0, .int .i64 0, .int .i64 0, .int .i64 0, .int .i64 0, .int .i64 0, .string (⟨#[]⟩ : ByteArray), .int .i64 0]) (t := 36) ?hr ?_; (case hd => rfl); (case hg => rfl); (case hr => first | (go_simp; done) | (go_simp; rfl)); intro gb122 hg w43 hbox hb; replace HO0_1 := Aside0.mk (Kd.V_below (Kd.V_elderB (Kd.VA HO0_1.out) gb122 (Nat.le_of_eq hg.symm)) hb); have BK122 := Aside0.mk (hbox); have GE122 := Aside0.mk (ge1 hg (LA HB.out)); replace HB := Aside0.mk (below_step (LA HB.out) hb); have NB109_122 := Aside0.mk ((by rw [hg]; exact Nat.ne_of_lt (blk_lt (g := gb109) (o := .cells #[.int .i64 a0_0, .slice A0_1 l0_1.length c0_1, .int .i64 a0_2] 27 (0, 0)) (BA BK109.out)) : gb109 ≠ gb122)); have NB122_109 := Aside0.mk ((by rw [hg]; exact Nat.ne_of_gt (blk_lt (g := gb109) (o := .cells #[.int .i64 a0_0, .slice A0_1 l0_1.length c0_1, .int .i64 a0_2] 27 (0, 0)) (BA BK109.out)) : gb122 ≠ gb109)); replace BK109 := Aside0.mk (blk_below (BA BK109.out) hb); have NB110_122 := Aside0.mk ((by rw [hg]; exact Nat.ne_of_lt (blk_lt (g := gb110) (o := .cells #[.int .i64 0, .slice none 0 0, .int .i64 0] 27 (0, 0)) (BA BK110.out)) : gb110 ≠ gb122)); have NB122_110 := Aside0.mk ((by rw [hg]; exact Nat.ne_of_gt (blk_lt (g := gb110) (o := .cells #[.int .i64 0, .slice none 0 0, .int .i64 0] 27 (0, 0)) (BA BK110.out)) : gb122 ≠ gb110)); replace BK110 := Aside0.mk (blk_below (BA BK110.out) hb); have NB111_122 := Aside0.mk ((by rw [hg]; exact Nat.ne_of_lt (blk_lt (g := gb111) (o := .cells #[.int .i64 0, .int .i64 0, .int .i64 0, .int .i64 0, .int .i64 0, .int .i64 0, .string (⟨#[]⟩ : ByteArray), .int .i64 0] 36 (0, 0)) (BA BK111.out)) : gb111 ≠ gb122)); have NB122_111 := Aside0.mk ((by rw [hg]; exact Nat.ne_of_gt (blk_lt (g := gb111) (o := .cells #[.int .i64 0, .int .i64 0, .int .i64 0, .int .i64 0, .int .i64 0, .int .i64 0, .string (⟨#[]⟩ : ByteArray), .int .i64 0] 36 (0, 0)) (BA BK111.out)) : gb122 ≠ gb111)); replace BK111 := Aside0.mk (blk_below (BA BK111.out) hb); clear hb hbox hg; have hnb44 := NB122_109.out; have hnc44 := NB109_122.out; have hnb45 := NB122_110.out; have hnc45 := NB110_122.out; have hnb46 := NB122_111.out; have hnc46 := NB111_122.out; obtain ⟨hcz47_0, hcz47_1, hcz47_2, hcz47_3, hcz47_4, hcz47_5, hcz47_6, hcz47_7, hfz47_0, hfz47_1, hfz47_2, hfz47_3, hfz47_4, hfz47_5, hfz47_6, hfz47_7⟩ := cz8 BK122.out; obtain ⟨hcz48_0, hcz48_1, hcz48_2, hfz48_0, hfz48_1, hfz48_2⟩ := cz3 BK109.out))
      have n0_ : Aside0 (Kd.V k36 36 (((((((((w43.setCell ⟨gb122, 0, none⟩ (.int .i64 4)).setCell ⟨gb122, 1, none⟩ (.int .i64 0)).setCell ⟨gb122, 2, none⟩ (.int .i64 0)).setCell ⟨gb122, 3, none⟩ (.int .i64 0)).setCell ⟨gb122, 4, none⟩ (.int .i64 0)).setCell ⟨gb122, 5, none⟩ (.int .i64 0)).setCell ⟨gb122, 6, none⟩ (.string (⟨#[]⟩ : ByteArray))).setCell ⟨gb122, 7, none⟩ (.int .i64 a0_2)).setCell ⟨gb109, 2, none⟩ (.int .i64 0)) w.heap.size (fun k_ => (P0_1_ k_ ∨ w.heap.size ≤ k_) ∧ k_ ≠ gb109 ∧ k_ ≠ gb110 ∧ k_ ≠ gb111 ∧ k_ ≠ gb122) (.slice A0_1 l0_1.length c0_1) l0_1) := ⟨by (with_reducible repeat (first | apply Kd.V_alloc | apply Kd.V_drewN | apply Kd.V_drew)); exact Kd.V_mono (Kd.V_ms (gs := [gb109, gb122]) (Kd.V_mono (Kd.V_mono HO0_1.out (fun k_ hk => (⟨hk, hk.2⟩ : _ ∧ k_ ≠ gb122))) (fun k_ hk => (⟨hk, hk.1.1.1.1.2⟩ : _ ∧ k_ ≠ gb109))) (fun _ hk => N1 (hk.2) (N1 (hk.1.2) (N0)))) (fun _ hk => ⟨hk.1.1.1.1.1.1, ⟨hk.1.1.1.1.1.2, ⟨hk.1.1.1.1.2, ⟨hk.1.1.1.2, hk.1.1.2⟩⟩⟩⟩)⟩
      have n1_ : Aside0 ((((((((((w43.setCell ⟨gb122, 0, none⟩ (.int .i64 4)).setCell ⟨gb122, 1, none⟩ (.int .i64 0)).setCell ⟨gb122, 2, none⟩ (.int .i64 0)).setCell ⟨gb122, 3, none⟩ (.int .i64 0)).setCell ⟨gb122, 4, none⟩ (.int .i64 0)).setCell ⟨gb122, 5, none⟩ (.int .i64 0)).setCell ⟨gb122, 6, none⟩ (.string (⟨#[]⟩ : ByteArray))).setCell ⟨gb122, 7, none⟩ (.int .i64 a0_2)).setCell ⟨gb109, 2, none⟩ (.int .i64 0)).heap[gb109]? = some (.cells #[.int .i64 a0_0, .slice A0_1 l0_1.length c0_1, .int .i64 0] 27 (0, 0))) := ⟨by (with_reducible repeat (first | refine blk_drewN ?_ _ | refine blk_drew ?_ | refine blk_alloc ?_ _)); refine blk_put (cs := #[.int .i64 a0_0, .slice A0_1 l0_1.length c0_1, .int .i64 a0_2]) ?_ 2 _ rfl; exact BF BK109.out NB109_122.out⟩
      have n2_ : Aside0 ((((((((((w43.setCell ⟨gb122, 0, none⟩ (.int .i64 4)).setCell ⟨gb122, 1, none⟩ (.int .i64 0)).setCell ⟨gb122, 2, none⟩ (.int .i64 0)).setCell ⟨gb122, 3, none⟩ (.int .i64 0)).setCell ⟨gb122, 4, none⟩ (.int .i64 0)).setCell ⟨gb122, 5, none⟩ (.int .i64 0)).setCell ⟨gb122, 6, none⟩ (.string (⟨#[]⟩ : ByteArray))).setCell ⟨gb122, 7, none⟩ (.int .i64 a0_2)).setCell ⟨gb109, 2, none⟩ (.int .i64 0)).heap[gb110]? = some (.cells #[.int .i64 0, .slice none 0 0, .int .i64 0] 27 (0, 0))) := ⟨by exact BM BK110.out (N1 NB110_122.out (N1 NB110_109.out N0))⟩
      have n3_ : Aside0 ((((((((((w43.setCell ⟨gb122, 0, none⟩ (.int .i64 4)).setCell ⟨gb122, 1, none⟩ (.int .i64 0)).setCell ⟨gb122, 2, none⟩ (.int .i64 0)).setCell ⟨gb122, 3, none⟩ (.int .i64 0)).setCell ⟨gb122, 4, none⟩ (.int .i64 0)).setCell ⟨gb122, 5, none⟩ (.int .i64 0)).setCell ⟨gb122, 6, none⟩ (.string (⟨#[]⟩ : ByteArray))).setCell ⟨gb122, 7, none⟩ (.int .i64 a0_2)).setCell ⟨gb109, 2, none⟩ (.int .i64 0)).heap[gb111]? = some (.cells #[.int .i64 0, .int .i64 0, .int .i64 0, .int .i64 0, .int .i64 0, .int .i64 0, .string (⟨#[]⟩ : ByteArray), .int .i64 0] 36 (0, 0))) := ⟨by exact BM BK111.out (N1 NB111_122.out (N1 NB111_109.out N0))⟩
      have n4_ : Aside0 ((((((((((w43.setCell ⟨gb122, 0, none⟩ (.int .i64 4)).setCell ⟨gb122, 1, none⟩ (.int .i64 0)).setCell ⟨gb122, 2, none⟩ (.int .i64 0)).setCell ⟨gb122, 3, none⟩ (.int .i64 0)).setCell ⟨gb122, 4, none⟩ (.int .i64 0)).setCell ⟨gb122, 5, none⟩ (.int .i64 0)).setCell ⟨gb122, 6, none⟩ (.string (⟨#[]⟩ : ByteArray))).setCell ⟨gb122, 7, none⟩ (.int .i64 a0_2)).setCell ⟨gb109, 2, none⟩ (.int .i64 0)).heap[gb122]? = some (.cells #[.int .i64 4, .int .i64 0, .int .i64 0, .int .i64 0, .int .i64 0, .int .i64 0, .string (⟨#[]⟩ : ByteArray), .int .i64 a0_2] 36 (0, 0))) := ⟨by (with_reducible repeat (first | refine blk_drewN ?_ _ | refine blk_drew ?_ | refine blk_alloc ?_ _)); refine blk_far ?_ NB122_109.out _; exact BP BK122.out (by rfl)⟩
      have n5_ : Aside0 (Below w.heap.size w (((((((((w43.setCell ⟨gb122, 0, none⟩ (.int .i64 4)).setCell ⟨gb122, 1, none⟩ (.int .i64 0)).setCell ⟨gb122, 2, none⟩ (.int .i64 0)).setCell ⟨gb122, 3, none⟩ (.int .i64 0)).setCell ⟨gb122, 4, none⟩ (.int .i64 0)).setCell ⟨gb122, 5, none⟩ (.int .i64 0)).setCell ⟨gb122, 6, none⟩ (.string (⟨#[]⟩ : ByteArray))).setCell ⟨gb122, 7, none⟩ (.int .i64 a0_2)).setCell ⟨gb109, 2, none⟩ (.int .i64 0))) := ⟨LG HB.out (G1 GE109.out (G1 GE110.out (G1 GE111.out (G1 GE122.out G0))))⟩
      (try clear HO0_1)
      (try clear BK109)
      (try clear BK110)
      (try clear BK111)
      (try clear BK122)
      (try clear HB)
      generalize (((((((((w43.setCell ⟨gb122, 0, none⟩ (.int .i64 4)).setCell ⟨gb122, 1, none⟩ (.int .i64 0)).setCell ⟨gb122, 2, none⟩ (.int .i64 0)).setCell ⟨gb122, 3, none⟩ (.int .i64 0)).setCell ⟨gb122, 4, none⟩ (.int .i64 0)).setCell ⟨gb122, 5, none⟩ (.int .i64 0)).setCell ⟨gb122, 6, none⟩ (.string (⟨#[]⟩ : ByteArray))).setCell ⟨gb122, 7, none⟩ (.int .i64 a0_2)).setCell ⟨gb109, 2, none⟩ (.int .i64 0)) = w49 at n0_ n1_ n2_ n3_ n4_ n5_ ⊢
      have HO0_1 := n0_
      have BK109 := n1_
      have BK110 := n2_
      have BK111 := n3_
      have BK122 := n4_
      have HB := n5_
      clear n0_ n1_ n2_ n3_ n4_ n5_
      have n0_ := Aside0.mk (Kd.V_drew HO0_1.out)
      have n1_ := Aside0.mk (blk_drew BK109.out)
      have n2_ := Aside0.mk (blk_drew BK110.out)
      have n3_ := Aside0.mk (blk_drew BK111.out)
      have n4_ := Aside0.mk (blk_drew BK122.out)
      have n5_ := Aside0.mk (below_drew1 HB.out)
      clear HO0_1
      clear BK109
      clear BK110
      clear BK111
      clear BK122
      clear HB
      have HO0_1 := n0_
      have BK109 := n1_
      have BK110 := n2_
      have BK111 := n3_
      have BK122 := n4_
      have HB := n5_
      clear n0_ n1_ n2_ n3_ n4_ n5_
      refine start_ (n := 5) (S := fun w' => w'.cell? ⟨gb109, 0, none⟩ = some (.int .i64 a0_0) ∧ w'.cell? ⟨gb109, 1, none⟩ = some (.slice A0_1 l0_1.length c0_1) ∧ w'.cell? ⟨gb109, 2, none⟩ = some (.int .i64 0) ∧ w'.cell? ⟨gb122, 0, none⟩ = some (.int .i64 4) ∧ w'.cell? ⟨gb122, 1, none⟩ = some (.int .i64 0) ∧ w'.cell? ⟨gb122, 2, none⟩ = some (.int .i64 0) ∧ w'.cell? ⟨gb122, 3, none⟩ = some (.int .i64 0) ∧ w'.cell? ⟨gb122, 4, none⟩ = some (.int .i64 0) ∧ w'.cell? ⟨gb122, 5, none⟩ = some (.int .i64 0) ∧ w'.cell? ⟨gb122, 6, none⟩ = some (.string (⟨#[]⟩ : ByteArray)) ∧ w'.cell? ⟨gb122, 7, none⟩ = some (.int .i64 a0_2)) (ds := []) #[false, false, false, false, false] (by kernel_rfl) rfl rfl ⟨(blk_cell BK109.out 0).trans rfl, (blk_cell BK109.out 1).trans rfl, (blk_cell BK109.out 2).trans rfl, (blk_cell BK122.out 0).trans rfl, (blk_cell BK122.out 1).trans rfl, (blk_cell BK122.out 2).trans rfl, (blk_cell BK122.out 3).trans rfl, (blk_cell BK122.out 4).trans rfl, (blk_cell BK122.out 5).trans rfl, (blk_cell BK122.out 6).trans rfl, (blk_cell BK122.out 7).trans rfl⟩ (fun hHeld => ?_)
      generalize w49.drew = w50 at HO0_1 BK109 BK110 BK111 BK122 HB hHeld ⊢
      refine take_ (i := 0) (N := some 31) (v := ?_) (a' := ?_) #[true, false, false, false, false] rfl rfl (by kernel_rfl) (fun _ _ _ h => h) (Or.inl ⟨by rfl, ?_⟩) hHeld ?_ ?_
      rotate_left
      · rintro w' ⟨s0, s1, s2, s3, s4, s5, s6, s7, s8, s9, s10⟩
        go_simp
        with_reducible rfl
      rotate_left
      · simp only [Act.put, PU, i64_w, i32_w]
        rfl
      refine take_ (i := 1) (N := some 32) (v := ?_) (a' := ?_) #[true, true, false, false, false] rfl rfl (by kernel_rfl) (fun _ _ _ h => h) (Or.inl ⟨by rfl, ?_⟩) hHeld ?_ ?_
      rotate_left
      · rintro w' ⟨s0, s1, s2, s3, s4, s5, s6, s7, s8, s9, s10⟩
        go_simp
        with_reducible rfl
      rotate_left
      · simp only [Act.put, PU, i64_w, i32_w]
        rfl
      refine one_ (i := 2) (N := none) #[true, true, true, false, false] rfl rfl (by kernel_rfl) (by decide) (fun K hK => ?_)
      have hs51 : w50.cell? ⟨gb110, 0, none⟩ = some (.int .i64 0) := (blk_cell BK110.out 0).trans rfl
      have hfs51 := blk_frozen BK110.out 0
      have hns51_0 := NB109_110.out
      have hns51_2 := NB111_110.out
      have hns51_3 := NB122_110.out
      have hms51_0 := NB110_109.out
      have hms51_2 := NB110_111.out
      have hms51_3 := NB110_122.out
      have hs52 : w50.cell? ⟨gb110, 1, none⟩ = some (.slice none 0 0) := (blk_cell BK110.out 1).trans rfl
      have hfs52 := blk_frozen BK110.out 1
      have hns52_0 := NB109_110.out
      have hns52_2 := NB111_110.out
      have hns52_3 := NB122_110.out
      have hms52_0 := NB110_109.out
      have hms52_2 := NB110_111.out
      have hms52_3 := NB110_122.out
      have hs53 : w50.cell? ⟨gb110, 2, none⟩ = some (.int .i64 0) := (blk_cell BK110.out 2).trans rfl
      have hfs53 := blk_frozen BK110.out 2
      have hns53_0 := NB109_110.out
      have hns53_2 := NB111_110.out
      have hns53_3 := NB122_110.out
      have hms53_0 := NB110_109.out
      have hms53_2 := NB110_111.out
      have hms53_3 := NB110_122.out
      refine skip_ (w1 := ?_) (by rfl) rfl ?_ ?_
      rotate_left
      · go_simp
        rfl
      refine hK.out _ _ ⟨((cell_far (p := ⟨gb110, _, none⟩) NB109_110.out _).trans (((cell_far (p := ⟨gb110, _, none⟩) NB109_110.out _).trans (((cell_far (p := ⟨gb110, _, none⟩) NB109_110.out _).trans (hHeld.1)))))), ((cell_far (p := ⟨gb110, _, none⟩) NB109_110.out _).trans (((cell_far (p := ⟨gb110, _, none⟩) NB109_110.out _).trans (((cell_far (p := ⟨gb110, _, none⟩) NB109_110.out _).trans (hHeld.2.1)))))), ((cell_far (p := ⟨gb110, _, none⟩) NB109_110.out _).trans (((cell_far (p := ⟨gb110, _, none⟩) NB109_110.out _).trans (((cell_far (p := ⟨gb110, _, none⟩) NB109_110.out _).trans (hHeld.2.2.1)))))), ((cell_far (p := ⟨gb110, _, none⟩) NB122_110.out _).trans (((cell_far (p := ⟨gb110, _, none⟩) NB122_110.out _).trans (((cell_far (p := ⟨gb110, _, none⟩) NB122_110.out _).trans (hHeld.2.2.2.1)))))), ((cell_far (p := ⟨gb110, _, none⟩) NB122_110.out _).trans (((cell_far (p := ⟨gb110, _, none⟩) NB122_110.out _).trans (((cell_far (p := ⟨gb110, _, none⟩) NB122_110.out _).trans (hHeld.2.2.2.2.1)))))), ((cell_far (p := ⟨gb110, _, none⟩) NB122_110.out _).trans (((cell_far (p := ⟨gb110, _, none⟩) NB122_110.out _).trans (((cell_far (p := ⟨gb110, _, none⟩) NB122_110.out _).trans (hHeld.2.2.2.2.2.1)))))), ((cell_far (p := ⟨gb110, _, none⟩) NB122_110.out _).trans (((cell_far (p := ⟨gb110, _, none⟩) NB122_110.out _).trans (((cell_far (p := ⟨gb110, _, none⟩) NB122_110.out _).trans (hHeld.2.2.2.2.2.2.1)))))), ((cell_far (p := ⟨gb110, _, none⟩) NB122_110.out _).trans (((cell_far (p := ⟨gb110, _, none⟩) NB122_110.out _).trans (((cell_far (p := ⟨gb110, _, none⟩) NB122_110.out _).trans (hHeld.2.2.2.2.2.2.2.1)))))), ((cell_far (p := ⟨gb110, _, none⟩) NB122_110.out _).trans (((cell_far (p := ⟨gb110, _, none⟩) NB122_110.out _).trans (((cell_far (p := ⟨gb110, _, none⟩) NB122_110.out _).trans (hHeld.2.2.2.2.2.2.2.2.1)))))), ((cell_far (p := ⟨gb110, _, none⟩) NB122_110.out _).trans (((cell_far (p := ⟨gb110, _, none⟩) NB122_110.out _).trans (((cell_far (p := ⟨gb110, _, none⟩) NB122_110.out _).trans (hHeld.2.2.2.2.2.2.2.2.2.1)))))), ((cell_far (p := ⟨gb110, _, none⟩) NB122_110.out _).trans (((cell_far (p := ⟨gb110, _, none⟩) NB122_110.out _).trans (((cell_far (p := ⟨gb110, _, none⟩) NB122_110.out _).trans (hHeld.2.2.2.2.2.2.2.2.2.2))))))⟩ (fun hHeld => ?_)
      clear hK K
      refine one_ (i := 3) (N := none) #[true, true, true, true, false] rfl rfl (by kernel_rfl) (by decide) (fun K hK => ?_)
      have hs54 : w50.cell? ⟨gb111, 0, none⟩ = some (.int .i64 0) := (blk_cell BK111.out 0).trans rfl
      have hfs54 := blk_frozen BK111.out 0
      have hns54_0 := NB109_111.out
      have hns54_1 := NB110_111.out
      have hns54_3 := NB122_111.out
      have hms54_0 := NB111_109.out
      have hms54_1 := NB111_110.out
      have hms54_3 := NB111_122.out
      have hs55 : w50.cell? ⟨gb111, 1, none⟩ = some (.int .i64 0) := (blk_cell BK111.out 1).trans rfl
      have hfs55 := blk_frozen BK111.out 1
      have hns55_0 := NB109_111.out
      have hns55_1 := NB110_111.out
      have hns55_3 := NB122_111.out
      have hms55_0 := NB111_109.out
      have hms55_1 := NB111_110.out
      have hms55_3 := NB111_122.out
      have hs56 : w50.cell? ⟨gb111, 2, none⟩ = some (.int .i64 0) := (blk_cell BK111.out 2).trans rfl
      have hfs56 := blk_frozen BK111.out 2
      have hns56_0 := NB109_111.out
      have hns56_1 := NB110_111.out
      have hns56_3 := NB122_111.out
      have hms56_0 := NB111_109.out
      have hms56_1 := NB111_110.out
      have hms56_3 := NB111_122.out
      have hs57 : w50.cell? ⟨gb111, 3, none⟩ = some (.int .i64 0) := (blk_cell BK111.out 3).trans rfl
      have hfs57 := blk_frozen BK111.out 3
      have hns57_0 := NB109_111.out
      have hns57_1 := NB110_111.out
      have hns57_3 := NB122_111.out
      have hms57_0 := NB111_109.out
      have hms57_1 := NB111_110.out
      have hms57_3 := NB111_122.out
      have hs58 : w50.cell? ⟨gb111, 4, none⟩ = some (.int .i64 0) := (blk_cell BK111.out 4).trans rfl
      have hfs58 := blk_frozen BK111.out 4
      have hns58_0 := NB109_111.out
      have hns58_1 := NB110_111.out
      have hns58_3 := NB122_111.out
      have hms58_0 := NB111_109.out
      have hms58_1 := NB111_110.out
      have hms58_3 := NB111_122.out
      have hs59 : w50.cell? ⟨gb111, 5, none⟩ = some (.int .i64 0) := (blk_cell BK111.out 5).trans rfl
      have hfs59 := blk_frozen BK111.out 5
      have hns59_0 := NB109_111.out
      have hns59_1 := NB110_111.out
      have hns59_3 := NB122_111.out
      have hms59_0 := NB111_109.out
      have hms59_1 := NB111_110.out
      have hms59_3 := NB111_122.out
      have hs60 : w50.cell? ⟨gb111, 6, none⟩ = some (.string (⟨#[]⟩ : ByteArray)) := (blk_cell BK111.out 6).trans rfl
      have hfs60 := blk_frozen BK111.out 6
      have hns60_0 := NB109_111.out
      have hns60_1 := NB110_111.out
      have hns60_3 := NB122_111.out
      have hms60_0 := NB111_109.out
      have hms60_1 := NB111_110.out
      have hms60_3 := NB111_122.out
      have hs61 : w50.cell? ⟨gb111, 7, none⟩ = some (.int .i64 0) := (blk_cell BK111.out 7).trans rfl
      have hfs61 := blk_frozen BK111.out 7
      have hns61_0 := NB109_111.out
      have hns61_1 := NB110_111.out
      have hns61_3 := NB122_111.out
      have hms61_0 := NB111_109.out
      have hms61_1 := NB111_110.out
      have hms61_3 := NB111_122.out
      refine skip_ (w1 := ?_) (by rfl) rfl ?_ ?_
      rotate_left
      · go_simp
        rfl
      refine hK.out _ _ ⟨((cell_far (p := ⟨gb111, _, none⟩) NB109_111.out _).trans (((cell_far (p := ⟨gb111, _, none⟩) NB109_111.out _).trans (((cell_far (p := ⟨gb111, _, none⟩) NB109_111.out _).trans (((cell_far (p := ⟨gb111, _, none⟩) NB109_111.out _).trans (((cell_far (p := ⟨gb111, _, none⟩) NB109_111.out _).trans (((cell_far (p := ⟨gb111, _, none⟩) NB109_111.out _).trans (((cell_far (p := ⟨gb111, _, none⟩) NB109_111.out _).trans (((cell_far (p := ⟨gb111, _, none⟩) NB109_111.out _).trans (hHeld.1)))))))))))))))), ((cell_far (p := ⟨gb111, _, none⟩) NB109_111.out _).trans (((cell_far (p := ⟨gb111, _, none⟩) NB109_111.out _).trans (((cell_far (p := ⟨gb111, _, none⟩) NB109_111.out _).trans (((cell_far (p := ⟨gb111, _, none⟩) NB109_111.out _).trans (((cell_far (p := ⟨gb111, _, none⟩) NB109_111.out _).trans (((cell_far (p := ⟨gb111, _, none⟩) NB109_111.out _).trans (((cell_far (p := ⟨gb111, _, none⟩) NB109_111.out _).trans (((cell_far (p := ⟨gb111, _, none⟩) NB109_111.out _).trans (hHeld.2.1)))))))))))))))), ((cell_far (p := ⟨gb111, _, none⟩) NB109_111.out _).trans (((cell_far (p := ⟨gb111, _, none⟩) NB109_111.out _).trans (((cell_far (p := ⟨gb111, _, none⟩) NB109_111.out _).trans (((cell_far (p := ⟨gb111, _, none⟩) NB109_111.out _).trans (((cell_far (p := ⟨gb111, _, none⟩) NB109_111.out _).trans (((cell_far (p := ⟨gb111, _, none⟩) NB109_111.out _).trans (((cell_far (p := ⟨gb111, _, none⟩) NB109_111.out _).trans (((cell_far (p := ⟨gb111, _, none⟩) NB109_111.out _).trans (hHeld.2.2.1)))))))))))))))), ((cell_far (p := ⟨gb111, _, none⟩) NB122_111.out _).trans (((cell_far (p := ⟨gb111, _, none⟩) NB122_111.out _).trans (((cell_far (p := ⟨gb111, _, none⟩) NB122_111.out _).trans (((cell_far (p := ⟨gb111, _, none⟩) NB122_111.out _).trans (((cell_far (p := ⟨gb111, _, none⟩) NB122_111.out _).trans (((cell_far (p := ⟨gb111, _, none⟩) NB122_111.out _).trans (((cell_far (p := ⟨gb111, _, none⟩) NB122_111.out _).trans (((cell_far (p := ⟨gb111, _, none⟩) NB122_111.out _).trans (hHeld.2.2.2.1)))))))))))))))), ((cell_far (p := ⟨gb111, _, none⟩) NB122_111.out _).trans (((cell_far (p := ⟨gb111, _, none⟩) NB122_111.out _).trans (((cell_far (p := ⟨gb111, _, none⟩) NB122_111.out _).trans (((cell_far (p := ⟨gb111, _, none⟩) NB122_111.out _).trans (((cell_far (p := ⟨gb111, _, none⟩) NB122_111.out _).trans (((cell_far (p := ⟨gb111, _, none⟩) NB122_111.out _).trans (((cell_far (p := ⟨gb111, _, none⟩) NB122_111.out _).trans (((cell_far (p := ⟨gb111, _, none⟩) NB122_111.out _).trans (hHeld.2.2.2.2.1)))))))))))))))), ((cell_far (p := ⟨gb111, _, none⟩) NB122_111.out _).trans (((cell_far (p := ⟨gb111, _, none⟩) NB122_111.out _).trans (((cell_far (p := ⟨gb111, _, none⟩) NB122_111.out _).trans (((cell_far (p := ⟨gb111, _, none⟩) NB122_111.out _).trans (((cell_far (p := ⟨gb111, _, none⟩) NB122_111.out _).trans (((cell_far (p := ⟨gb111, _, none⟩) NB122_111.out _).trans (((cell_far (p := ⟨gb111, _, none⟩) NB122_111.out _).trans (((cell_far (p := ⟨gb111, _, none⟩) NB122_111.out _).trans (hHeld.2.2.2.2.2.1)))))))))))))))), ((cell_far (p := ⟨gb111, _, none⟩) NB122_111.out _).trans (((cell_far (p := ⟨gb111, _, none⟩) NB122_111.out _).trans (((cell_far (p := ⟨gb111, _, none⟩) NB122_111.out _).trans (((cell_far (p := ⟨gb111, _, none⟩) NB122_111.out _).trans (((cell_far (p := ⟨gb111, _, none⟩) NB122_111.out _).trans (((cell_far (p := ⟨gb111, _, none⟩) NB122_111.out _).trans (((cell_far (p := ⟨gb111, _, none⟩) NB122_111.out _).trans (((cell_far (p := ⟨gb111, _, none⟩) NB122_111.out _).trans (hHeld.2.2.2.2.2.2.1)))))))))))))))), ((cell_far (p := ⟨gb111, _, none⟩) NB122_111.out _).trans (((cell_far (p := ⟨gb111, _, none⟩) NB122_111.out _).trans (((cell_far (p := ⟨gb111, _, none⟩) NB122_111.out _).trans (((cell_far (p := ⟨gb111, _, none⟩) NB122_111.out _).trans (((cell_far (p := ⟨gb111, _, none⟩) NB122_111.out _).trans (((cell_far (p := ⟨gb111, _, none⟩) NB122_111.out _).trans (((cell_far (p := ⟨gb111, _, none⟩) NB122_111.out _).trans (((cell_far (p := ⟨gb111, _, none⟩) NB122_111.out _).trans (hHeld.2.2.2.2.2.2.2.1)))))))))))))))), ((cell_far (p := ⟨gb111, _, none⟩) NB122_111.out _).trans (((cell_far (p := ⟨gb111, _, none⟩) NB122_111.out _).trans (((cell_far (p := ⟨gb111, _, none⟩) NB122_111.out _).trans (((cell_far (p := ⟨gb111, _, none⟩) NB122_111.out _).trans (((cell_far (p := ⟨gb111, _, none⟩) NB122_111.out _).trans (((cell_far (p := ⟨gb111, _, none⟩) NB122_111.out _).trans (((cell_far (p := ⟨gb111, _, none⟩) NB122_111.out _).trans (((cell_far (p := ⟨gb111, _, none⟩) NB122_111.out _).trans (hHeld.2.2.2.2.2.2.2.2.1)))))))))))))))), ((cell_far (p := ⟨gb111, _, none⟩) NB122_111.out _).trans (((cell_far (p := ⟨gb111, _, none⟩) NB122_111.out _).trans (((cell_far (p := ⟨gb111, _, none⟩) NB122_111.out _).trans (((cell_far (p := ⟨gb111, _, none⟩) NB122_111.out _).trans (((cell_far (p := ⟨gb111, _, none⟩) NB122_111.out _).trans (((cell_far (p := ⟨gb111, _, none⟩) NB122_111.out _).trans (((cell_far (p := ⟨gb111, _, none⟩) NB122_111.out _).trans (((cell_far (p := ⟨gb111, _, none⟩) NB122_111.out _).trans (hHeld.2.2.2.2.2.2.2.2.2.1)))))))))))))))), ((cell_far (p := ⟨gb111, _, none⟩) NB122_111.out _).trans (((cell_far (p := ⟨gb111, _, none⟩) NB122_111.out _).trans (((cell_far (p := ⟨gb111, _, none⟩) NB122_111.out _).trans (((cell_far (p := ⟨gb111, _, none⟩) NB122_111.out _).trans (((cell_far (p := ⟨gb111, _, none⟩) NB122_111.out _).trans (((cell_far (p := ⟨gb111, _, none⟩) NB122_111.out _).trans (((cell_far (p := ⟨gb111, _, none⟩) NB122_111.out _).trans (((cell_far (p := ⟨gb111, _, none⟩) NB122_111.out _).trans (hHeld.2.2.2.2.2.2.2.2.2.2))))))))))))))))⟩ (fun hHeld => ?_)
      clear hK K
      refine pure_ (i := 4) (N := some 4) (v := ?_) (a' := ?_) #[true, true, true, true, true] rfl rfl (by kernel_rfl) (fun _ _ _ h => h) (Or.inl ⟨by rfl, ?_⟩) ?_ ?_
      rotate_left
      · intro w'
        go_simp
        with_reducible rfl
      rotate_left
      · simp only [Act.put, PU, i64_w, i32_w]
        rfl
      refine done_ (by kernel_rfl) ?_
      try go_wp2
      refine bodyPost_ret (results_list (rs := [.cell 2 27, .cell 3 36, .tmp 4]) rfl (by simp) (.cell gb110 27 #[.int .i64 a0_0, .slice A0_1 l0_1.length c0_1, .int .i64 0] (0, 0) _ rfl (by (with_reducible repeat (first | refine blk_drewN ?_ _ | refine blk_drew ?_ | refine blk_alloc ?_ _)); refine blk_far ?_ NB110_111.out _; (with_reducible repeat (first | refine blk_drewN ?_ _ | refine blk_drew ?_ | refine blk_alloc ?_ _)); refine blk_far ?_ NB110_111.out _; (with_reducible repeat (first | refine blk_drewN ?_ _ | refine blk_drew ?_ | refine blk_alloc ?_ _)); refine blk_far ?_ NB110_111.out _; (with_reducible repeat (first | refine blk_drewN ?_ _ | refine blk_drew ?_ | refine blk_alloc ?_ _)); refine blk_far ?_ NB110_111.out _; (with_reducible repeat (first | refine blk_drewN ?_ _ | refine blk_drew ?_ | refine blk_alloc ?_ _)); refine blk_far ?_ NB110_111.out _; (with_reducible repeat (first | refine blk_drewN ?_ _ | refine blk_drew ?_ | refine blk_alloc ?_ _)); refine blk_far ?_ NB110_111.out _; (with_reducible repeat (first | refine blk_drewN ?_ _ | refine blk_drew ?_ | refine blk_alloc ?_ _)); refine blk_far ?_ NB110_111.out _; (with_reducible repeat (first | refine blk_drewN ?_ _ | refine blk_drew ?_ | refine blk_alloc ?_ _)); refine blk_far ?_ NB110_111.out _; exact BP BK110.out (by rfl)) Try.underlying27 rfl (by kernel_rfl) (.cell gb111 36 #[.int .i64 4, .int .i64 0, .int .i64 0, .int .i64 0, .int .i64 0, .int .i64 0, .string (⟨#[]⟩ : ByteArray), .int .i64 a0_2] (0, 0) _ rfl (by (with_reducible repeat (first | refine blk_drewN ?_ _ | refine blk_drew ?_ | refine blk_alloc ?_ _)); refine blk_put (cs := #[.int .i64 4, .int .i64 0, .int .i64 0, .int .i64 0, .int .i64 0, .int .i64 0, .string (⟨#[]⟩ : ByteArray), .int .i64 0]) ?_ 7 _ rfl; (with_reducible repeat (first | refine blk_drewN ?_ _ | refine blk_drew ?_ | refine blk_alloc ?_ _)); refine blk_put (cs := #[.int .i64 4, .int .i64 0, .int .i64 0, .int .i64 0, .int .i64 0, .int .i64 0, .string (⟨#[]⟩ : ByteArray), .int .i64 0]) ?_ 6 _ rfl; (with_reducible repeat (first | refine blk_drewN ?_ _ | refine blk_drew ?_ | refine blk_alloc ?_ _)); refine blk_put (cs := #[.int .i64 4, .int .i64 0, .int .i64 0, .int .i64 0, .int .i64 0, .int .i64 0, .string (⟨#[]⟩ : ByteArray), .int .i64 0]) ?_ 5 _ rfl; (with_reducible repeat (first | refine blk_drewN ?_ _ | refine blk_drew ?_ | refine blk_alloc ?_ _)); refine blk_put (cs := #[.int .i64 4, .int .i64 0, .int .i64 0, .int .i64 0, .int .i64 0, .int .i64 0, .string (⟨#[]⟩ : ByteArray), .int .i64 0]) ?_ 4 _ rfl; (with_reducible repeat (first | refine blk_drewN ?_ _ | refine blk_drew ?_ | refine blk_alloc ?_ _)); refine blk_put (cs := #[.int .i64 4, .int .i64 0, .int .i64 0, .int .i64 0, .int .i64 0, .int .i64 0, .string (⟨#[]⟩ : ByteArray), .int .i64 0]) ?_ 3 _ rfl; (with_reducible repeat (first | refine blk_drewN ?_ _ | refine blk_drew ?_ | refine blk_alloc ?_ _)); refine blk_put (cs := #[.int .i64 4, .int .i64 0, .int .i64 0, .int .i64 0, .int .i64 0, .int .i64 0, .string (⟨#[]⟩ : ByteArray), .int .i64 0]) ?_ 2 _ rfl; (with_reducible repeat (first | refine blk_drewN ?_ _ | refine blk_drew ?_ | refine blk_alloc ?_ _)); refine blk_put (cs := #[.int .i64 4, .int .i64 0, .int .i64 0, .int .i64 0, .int .i64 0, .int .i64 0, .string (⟨#[]⟩ : ByteArray), .int .i64 0]) ?_ 1 _ rfl; (with_reducible repeat (first | refine blk_drewN ?_ _ | refine blk_drew ?_ | refine blk_alloc ?_ _)); refine blk_put (cs := #[.int .i64 0, .int .i64 0, .int .i64 0, .int .i64 0, .int .i64 0, .int .i64 0, .string (⟨#[]⟩ : ByteArray), .int .i64 0]) ?_ 0 _ rfl; exact BF BK111.out NB111_110.out) Try.underlying36 rfl (by kernel_rfl) (.tmp .nil)))) rfl ?_
      exact ⟨_, by first | rfl | (simp [errW_none, errW_some] <;> rfl) | (simp [*, errW_none, errW_some] <;> rfl), by (with_reducible repeat (first | apply Kd.V_alloc | apply Kd.V_drewN | apply Kd.V_drew)); exact Kd.V_mono (Kd.V_ms (gs := [gb111, gb110]) (Kd.V_mono (Kd.V_mono HO0_1.out (fun k_ hk => (⟨hk, hk.2.2.1⟩ : _ ∧ k_ ≠ gb110))) (fun k_ hk => (⟨hk, hk.1.2.2.2.1⟩ : _ ∧ k_ ≠ gb111))) (fun _ hk => N1 (hk.2) (N1 (hk.1.2) (N0)))) (fun _ hk => hk.1.1.1), LG HB.out (G1 GE109.out (G1 GE110.out (G1 GE111.out (G1 GE122.out G0))))⟩
    · rw [if_neg c36] at H
      have c36b0 : decide (0 < a0_2) = false := decide_eq_false c36
      clear c36
      simp only [Option.some.injEq, Prod.mk.injEq] at H
      obtain ⟨rfl, rfl, rfl, rfl, rfl, rfl, rfl, rfl, rfl, rfl, rfl, rfl⟩ := H
      go_enter Try.func13, Try.ntmps13
      go_wp2_with (first | ((with_reducible refine gate_dst (N := 1) rfl ?_); refine box_event ?hg (N := 1) ?hd (cs := #[.int .i64 a0_0, .slice A0_1 l0_1.length c0_1, .int .i64 a0_2]) (t := 27) ?hr ?_; (case hd => rfl); (case hg => rfl); (case hr => first | (go_simp; done) | (go_simp; rfl)); intro gb109 hg w62 hbox hb; replace HO0_1 := Aside0.mk (Kd.V_below (Kd.V_elderB (Kd.VA HO0_1.out) gb109 (Nat.le_of_eq hg.symm)) hb); have BK109 := Aside0.mk (hbox); have GE109 := Aside0.mk (ge1 hg (LA HB.out)); replace HB := Aside0.mk (below_step (LA HB.out) hb); clear hb hbox hg) | ((with_reducible refine gate_dst (N := 2) rfl ?_); refine box_event ?hg (N := 2) ?hd (cs := #[.int .i64 0, .slice none 0 0, .int .i64 0]) (t := 27) ?hr ?_; (case hd => rfl); (case hg => rfl); (case hr => first | (go_simp; done) | (go_simp; rfl)); intro gb110 hg w63 hbox hb; replace HO0_1 := Aside0.mk (Kd.V_below (Kd.V_elderB (Kd.VA HO0_1.out) gb110 (Nat.le_of_eq hg.symm)) hb); have BK110 := Aside0.mk (hbox); have GE110 := Aside0.mk (ge1 hg (LA HB.out)); replace HB := Aside0.mk (below_step (LA HB.out) hb); have NB109_110 := Aside0.mk ((by rw [hg]; exact Nat.ne_of_lt (blk_lt (g := gb109) (o := .cells #[.int .i64 a0_0, .slice A0_1 l0_1.length c0_1, .int .i64 a0_2] 27 (0, 0)) (BA BK109.out)) : gb109 ≠ gb110)); have NB110_109 := Aside0.mk ((by rw [hg]; exact Nat.ne_of_gt (blk_lt (g := gb109) (o := .cells #[.int .i64 a0_0, .slice A0_1 l0_1.length c0_1, .int .i64 a0_2] 27 (0, 0)) (BA BK109.out)) : gb110 ≠ gb109)); replace BK109 := Aside0.mk (blk_below (BA BK109.out) hb); clear hb hbox hg) | ((with_reducible refine gate_dst (N := 3) rfl ?_); refine box_event ?hg (N := 3) ?hd (cs := #[.int .i64 0, .int .i64 0, .int .i64 0, .int .i64 0, .int .i64 0, .int .i64 0, .string (⟨#[]⟩ : ByteArray), .int .i64 0]) (t := 36) ?hr ?_; (case hd => rfl); (case hg => rfl); (case hr => first | (go_simp; done) | (go_simp; rfl)); intro gb111 hg w64 hbox hb; replace HO0_1 := Aside0.mk (Kd.V_below (Kd.V_elderB (Kd.VA HO0_1.out) gb111 (Nat.le_of_eq hg.symm)) hb); have BK111 := Aside0.mk (hbox); have GE111 := Aside0.mk (ge1 hg (LA HB.out)); replace HB := Aside0.mk (below_step (LA HB.out) hb); have NB109_111 := Aside0.mk ((by rw [hg]; exact Nat.ne_of_lt (blk_lt (g := gb109) (o := .cells #[.int .i64 a0_0, .slice A0_1 l0_1.length c0_1, .int .i64 a0_2] 27 (0, 0)) (BA BK109.out)) : gb109 ≠ gb111)); have NB111_109 := Aside0.mk ((by rw [hg]; exact Nat.ne_of_gt (blk_lt (g := gb109) (o := .cells #[.int .i64 a0_0, .slice A0_1 l0_1.length c0_1, .int .i64 a0_2] 27 (0, 0)) (BA BK109.out)) : gb111 ≠ gb109)); replace BK109 := Aside0.mk (blk_below (BA BK109.out) hb); have NB110_111 := Aside0.mk ((by rw [hg]; exact Nat.ne_of_lt (blk_lt (g := gb110) (o := .cells #[.int .i64 0, .slice none 0 0, .int .i64 0] 27 (0, 0)) (BA BK110.out)) : gb110 ≠ gb111)); have NB111_110 := Aside0.mk ((by rw [hg]; exact Nat.ne_of_gt (blk_lt (g := gb110) (o := .cells #[.int .i64 0, .slice none 0 0, .int .i64 0] 27 (0, 0)) (BA BK110.out)) : gb111 ≠ gb110)); replace BK110 := Aside0.mk (blk_below (BA BK110.out) hb); clear hb hbox hg; have hnb65 := NB109_110.out; have hnc65 := NB110_109.out; have hnb66 := NB109_111.out; have hnc66 := NB111_109.out; obtain ⟨hcz67_0, hcz67_1, hcz67_2, hfz67_0, hfz67_1, hfz67_2⟩ := cz3 BK109.out; have hnb68 := NB110_111.out; have hnc68 := NB111_110.out; obtain ⟨hcz69_0, hcz69_1, hcz69_2, hfz69_0, hfz69_1, hfz69_2⟩ := cz3 BK110.out; obtain ⟨hcz70_0, hcz70_1, hcz70_2, hcz70_3, hcz70_4, hcz70_5, hcz70_6, hcz70_7, hfz70_0, hfz70_1, hfz70_2, hfz70_3, hfz70_4, hfz70_5, hfz70_6, hfz70_7⟩ := cz8 BK111.out))
      refine bodyPost_ret (results_list (rs := [.cell 2 27, .cell 3 36, .tmp 4]) rfl (by simp) (.cell gb110 27 #[.int .i64 a0_0, .slice A0_1 l0_1.length c0_1, .int .i64 a0_2] (0, 0) _ rfl (by (with_reducible repeat (first | refine blk_drewN ?_ _ | refine blk_drew ?_ | refine blk_alloc ?_ _)); refine blk_far ?_ NB110_111.out _; (with_reducible repeat (first | refine blk_drewN ?_ _ | refine blk_drew ?_ | refine blk_alloc ?_ _)); refine blk_far ?_ NB110_111.out _; (with_reducible repeat (first | refine blk_drewN ?_ _ | refine blk_drew ?_ | refine blk_alloc ?_ _)); refine blk_far ?_ NB110_111.out _; (with_reducible repeat (first | refine blk_drewN ?_ _ | refine blk_drew ?_ | refine blk_alloc ?_ _)); refine blk_far ?_ NB110_111.out _; (with_reducible repeat (first | refine blk_drewN ?_ _ | refine blk_drew ?_ | refine blk_alloc ?_ _)); refine blk_far ?_ NB110_111.out _; (with_reducible repeat (first | refine blk_drewN ?_ _ | refine blk_drew ?_ | refine blk_alloc ?_ _)); refine blk_far ?_ NB110_111.out _; (with_reducible repeat (first | refine blk_drewN ?_ _ | refine blk_drew ?_ | refine blk_alloc ?_ _)); refine blk_far ?_ NB110_111.out _; (with_reducible repeat (first | refine blk_drewN ?_ _ | refine blk_drew ?_ | refine blk_alloc ?_ _)); refine blk_far ?_ NB110_111.out _; exact BP BK110.out (by rfl)) Try.underlying27 rfl (by kernel_rfl) (.cell gb111 36 #[.int .i64 0, .int .i64 0, .int .i64 0, .int .i64 0, .int .i64 0, .int .i64 0, .string (⟨#[]⟩ : ByteArray), .int .i64 0] (0, 0) _ rfl (by (with_reducible repeat (first | refine blk_drewN ?_ _ | refine blk_drew ?_ | refine blk_alloc ?_ _)); refine blk_put (cs := #[.int .i64 0, .int .i64 0, .int .i64 0, .int .i64 0, .int .i64 0, .int .i64 0, .string (⟨#[]⟩ : ByteArray), .int .i64 0]) ?_ 7 _ rfl; (with_reducible repeat (first | refine blk_drewN ?_ _ | refine blk_drew ?_ | refine blk_alloc ?_ _)); refine blk_put (cs := #[.int .i64 0, .int .i64 0, .int .i64 0, .int .i64 0, .int .i64 0, .int .i64 0, .string (⟨#[]⟩ : ByteArray), .int .i64 0]) ?_ 6 _ rfl; (with_reducible repeat (first | refine blk_drewN ?_ _ | refine blk_drew ?_ | refine blk_alloc ?_ _)); refine blk_put (cs := #[.int .i64 0, .int .i64 0, .int .i64 0, .int .i64 0, .int .i64 0, .int .i64 0, .string (⟨#[]⟩ : ByteArray), .int .i64 0]) ?_ 5 _ rfl; (with_reducible repeat (first | refine blk_drewN ?_ _ | refine blk_drew ?_ | refine blk_alloc ?_ _)); refine blk_put (cs := #[.int .i64 0, .int .i64 0, .int .i64 0, .int .i64 0, .int .i64 0, .int .i64 0, .string (⟨#[]⟩ : ByteArray), .int .i64 0]) ?_ 4 _ rfl; (with_reducible repeat (first | refine blk_drewN ?_ _ | refine blk_drew ?_ | refine blk_alloc ?_ _)); refine blk_put (cs := #[.int .i64 0, .int .i64 0, .int .i64 0, .int .i64 0, .int .i64 0, .int .i64 0, .string (⟨#[]⟩ : ByteArray), .int .i64 0]) ?_ 3 _ rfl; (with_reducible repeat (first | refine blk_drewN ?_ _ | refine blk_drew ?_ | refine blk_alloc ?_ _)); refine blk_put (cs := #[.int .i64 0, .int .i64 0, .int .i64 0, .int .i64 0, .int .i64 0, .int .i64 0, .string (⟨#[]⟩ : ByteArray), .int .i64 0]) ?_ 2 _ rfl; (with_reducible repeat (first | refine blk_drewN ?_ _ | refine blk_drew ?_ | refine blk_alloc ?_ _)); refine blk_put (cs := #[.int .i64 0, .int .i64 0, .int .i64 0, .int .i64 0, .int .i64 0, .int .i64 0, .string (⟨#[]⟩ : ByteArray), .int .i64 0]) ?_ 1 _ rfl; (with_reducible repeat (first | refine blk_drewN ?_ _ | refine blk_drew ?_ | refine blk_alloc ?_ _)); refine blk_put (cs := #[.int .i64 0, .int .i64 0, .int .i64 0, .int .i64 0, .int .i64 0, .int .i64 0, .string (⟨#[]⟩ : ByteArray), .int .i64 0]) ?_ 0 _ rfl; exact BF BK111.out NB111_110.out) Try.underlying36 rfl (by kernel_rfl) (.tmp .nil)))) rfl ?_
      exact ⟨_, by first | rfl | (simp [errW_none, errW_some] <;> rfl) | (simp [*, errW_none, errW_some] <;> rfl), by (with_reducible repeat (first | apply Kd.V_alloc | apply Kd.V_drewN | apply Kd.V_drew)); exact Kd.V_mono (Kd.V_ms (gs := [gb111, gb110]) (Kd.V_mono (Kd.V_mono HO0_1.out (fun k_ hk => (⟨hk, hk.1.2⟩ : _ ∧ k_ ≠ gb110))) (fun k_ hk => (⟨hk, hk.1.2⟩ : _ ∧ k_ ≠ gb111))) (fun _ hk => N1 (hk.2) (N1 (hk.1.2) (N0)))) (fun _ hk => hk.1.1.1.1.1), LG HB.out (G1 GE109.out (G1 GE110.out (G1 GE111.out G0)))⟩

end Go.Proofs.Ythmnedlaecekkaa.PFeedParts
