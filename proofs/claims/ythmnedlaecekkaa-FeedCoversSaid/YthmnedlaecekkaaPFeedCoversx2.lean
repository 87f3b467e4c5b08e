/- What the functions that the law reaches answer, each as a plain Lean function, with a proof that the call in memory comes to that answer. Written by wip/tools/given.py of this session out of the print.py of the kit, with stand-ins for some functions. -/
import Derived.Test.YthmnedlaecekkaaPFeedCoversx0
import Derived.Lib.SliceRun
import Derived.Test.YthmnedlaecekkaaGoto
namespace Go.Proofs.Ythmnedlaecekkaa.PFeedCovers
open Go.RowKit Go.Proofs.YthmnedlaecekkaaW.PrintWords Go.Proofs.YthmnedlaecekkaaW.PrintLast Go.Proofs.YthmnedlaecekkaaW.PrintMore
attribute [local go_sem] max2_int min2_int max_two min_two max_three min_three max_four min_four   -- for this text's walks alone
set_option linter.unusedVariables false
set_option linter.unusedSimpArgs false

/-! ### feed_New: function 11 -/
def feed_New.f (a0 : Int) : Option (Int × (List (S36)) × Int × Int) := if a0 < 1 then (some (0, ([] : List (S36)), 0, 1)) else (if a0 > 16 then (some (0, ([] : List (S36)), 0, 1)) else (some (a0, ([] : List (S36)), 0, 0)))
set_option maxHeartbeats 8000000 in
set_option maxRecDepth 100000 in
theorem feed_New.calls (a0 : Int) (r1 : Int) (r2 : List (S36)) (r3 : Int) (r4 : Int) (w : World) (h : feed_New.f a0 = some (r1, r2, r3, r4)) :
    Calls Try.prog 11 #[.int .i64 a0] w fun e w' => ∃ v1_ : Value, e = .returned (.tuple #[.agg #[.int .i64 r1, v1_, .int .i64 r3], .int .i64 r4]) ∧ Kd.R k36 36 w' w.heap.size (fun _ => True) v1_ r2 ∧ Below w.heap.size w w' := by
  have hu27 := Try.underlying27
  have HB := Aside0.mk (Below.refl w.heap.size w)
  have H : (if a0 < 1 then (some (0, ([] : List (S36)), 0, 1)) else (if a0 > 16 then (some (0, ([] : List (S36)), 0, 1)) else (some (a0, ([] : List (S36)), 0, 0)))) = some (r1, r2, r3, r4) := h
  clear h
  by_cases c2 : a0 < 1
  · rw [if_pos c2] at H
    have c2b0 : decide (a0 < 1) = true := decide_eq_true c2
    clear c2
    simp only [Option.some.injEq, Prod.mk.injEq] at H
    obtain ⟨rfl, rfl, rfl, rfl⟩ := H
    go_enter Try.func11, Try.ntmps11
    go_wp2_with (first | ((with_reducible refine gate_dst (N := 2) rfl ?_); refine box_event ?hg (N := 2) ?hd (cs := #[.int .i64 0, .slice none 0 0, .int .i64 0]) (t := 27) ?hr ?_; (case hd => rfl); (case hg => rfl); (case hr => first | (go_simp; done) | (go_simp; rfl)); intro gb101 hg w3 hbox hb; have BK101 := Aside0.mk (hbox); have GE101 := Aside0.mk (ge1 hg (LA HB.out)); replace HB := Aside0.mk (below_step (LA HB.out) hb); clear hb hbox hg; obtain ⟨hcz4_0, hcz4_1, hcz4_2, hfz4_0, hfz4_1, hfz4_2⟩ := cz3 BK101.out))
    refine bodyPost_ret (results_ct rfl _ _ gb101 27 #[.int .i64 0, .slice none 0 0, .int .i64 0] (0, 0) _ rfl (BP BK101.out (by rfl)) Try.underlying27 rfl (by kernel_rfl)) rfl ?_
    exact ⟨_, by first | rfl | (simp [errW_none, errW_some] <;> rfl) | (simp [*, errW_none, errW_some] <;> rfl), by first | exact Kd.R_nil _ _ _ _ _ | exact Kd.N_nil _ _ _ _ _ | exact Kd.V_nil _ _ _ _ _ | exact Kd.Q_nil _ _ _ _ _ | exact Kd.S_nil _ _ _ _ _, LG HB.out (G1 GE101.out G0)⟩
  · rw [if_neg c2] at H
    have c2b0 : decide (a0 < 1) = false := decide_eq_false c2
    clear c2
    by_cases c5 : a0 > 16
    · rw [if_pos c5] at H
      have c5b0 : decide (16 < a0) = true := decide_eq_true c5
      clear c5
      simp only [Option.some.injEq, Prod.mk.injEq] at H
      obtain ⟨rfl, rfl, rfl, rfl⟩ := H
      go_enter Try.func11, Try.ntmps11
      go_wp2_with (first | ((with_reducible refine gate_dst (N := 2) rfl ?_); refine box_event ?hg (N := 2) ?hd (cs := #[.int .i64 0, .slice none 0 0, .int .i64 0]) (t := 27) ?hr ?_; (case hd => rfl); (case hg => rfl); (case hr => first | (go_simp; done) | (go_simp; rfl)); intro gb101 hg w6 hbox hb; have BK101 := Aside0.mk (hbox); have GE101 := Aside0.mk (ge1 hg (LA HB.out)); replace HB := Aside0.mk (below_step (LA HB.out) hb); clear hb hbox hg; obtain ⟨hcz7_0, hcz7_1, hcz7_2, hfz7_0, hfz7_1, hfz7_2⟩ := cz3 BK101.out))
      refine bodyPost_ret (results_ct rfl _ _ gb101 27 #[.int .i64 0, .slice none 0 0, .int .i64 0] (0, 0) _ rfl (BP BK101.out (by rfl)) Try.underlying27 rfl (by kernel_rfl)) rfl ?_
      exact ⟨_, by first | rfl | (simp [errW_none, errW_some] <;> rfl) | (simp [*, errW_none, errW_some] <;> rfl), by first | exact Kd.R_nil _ _ _ _ _ | exact Kd.N_nil _ _ _ _ _ | exact Kd.V_nil _ _ _ _ _ | exact Kd.Q_nil _ _ _ _ _ | exact Kd.S_nil _ _ _ _ _, LG HB.out (G1 GE101.out G0)⟩
    · rw [if_neg c5] at H
      have c5b0 : decide (16 < a0) = false := decide_eq_false c5
      clear c5
      simp only [Option.some.injEq, Prod.mk.injEq] at H
      obtain ⟨rfl, rfl, rfl, rfl⟩ := H
      go_enter Try.func11, Try.ntmps11
      go_wp2_with (first | ((with_reducible refine gate_dst (N := 2) rfl ?_); refine box_event ?hg (N := 2) ?hd (cs := #[.int .i64 0, .slice none 0 0, .int .i64 0]) (t := 27) ?hr ?_; (case hd => rfl); (case hg => rfl); (case hr => first | (go_simp; done) | (go_simp; rfl)); intro gb101 hg w8 hbox hb; have BK101 := Aside0.mk (hbox); have GE101 := Aside0.mk (ge1 hg (LA HB.out)); replace HB := Aside0.mk (below_step (LA HB.out) hb); clear hb hbox hg; obtain ⟨hcz9_0, hcz9_1, hcz9_2, hfz9_0, hfz9_1, hfz9_2⟩ := cz3 BK101.out))
      refine bodyPost_ret (results_ct rfl _ _ gb101 27 #[.int .i64 a0, .slice none 0 0, .int .i64 0] (0, 0) _ rfl (BP BK101.out (by rfl)) Try.underlying27 rfl (by kernel_rfl)) rfl ?_
      exact ⟨_, by first | rfl | (simp [errW_none, errW_some] <;> rfl) | (simp [*, errW_none, errW_some] <;> rfl), by first | exact Kd.R_nil _ _ _ _ _ | exact Kd.N_nil _ _ _ _ _ | exact Kd.V_nil _ _ _ _ _ | exact Kd.Q_nil _ _ _ _ _ | exact Kd.S_nil _ _ _ _ _, LG HB.out (G1 GE101.out G0)⟩

/-! ### api_Event: function 24 -/
def api_Event.f (l0 : List (S36)) : Option ((List (S36))) := (some (([] : List (S36)) : List (S36))).bind fun y102 => (if y102.length + l0.length < 1954687338268 then (some (y102 ++ l0)) else (none))
set_option maxHeartbeats 8000000 in
set_option maxRecDepth 100000 in
theorem api_Event.calls (A0 : Option Addr) (c0 : Nat) (l0 : List (S36)) (r : List (S36)) (w : World) (hr0 : Kd.C k36 w A0 l0.length l0) (hc0 : l0.length ≤ c0) (h : api_Event.f l0 = some r) :
    Calls Try.prog 24 #[.slice A0 l0.length c0] w fun e w' => ∃ v0_ : Value, e = .returned (v0_) ∧ Kd.R k36 36 w' w.heap.size (fun _ => True) v0_ r ∧ Below w.heap.size w w' := by
  have q_nil : ∀ (w : World) (a : Option Addr) (n c n' c' : Nat), (binOp .eql 22 (.slice a n c) (.slice none n' c')).run Try.prog w = .ok (.bool a.isNone) w := fun w a n c n' c' => Lib.run_eql_slice_nil w _ _ a n c n' c' Try.underlying22
  cases A0 with
  | none =>
    have hz : l0 = [] := by
      cases l0 with
      | nil => rfl
      | cons x xs => obtain ⟨ad, e, _⟩ := hr0.2.2 (by simp); cases e
    subst hz
    have hr : r = [] := by
      unfold api_Event.f at h
      simp only [Option.bind_some, List.append_nil, List.length_nil] at h
      rw [if_pos (by decide)] at h
      exact (Option.some.inj h).symm
    subst hr
    clear h hr0 hc0
    go_enter Try.func24, Try.ntmps24
    go_wp2
    go_ret
    exact ⟨_, rfl, Kd.R_nil _ _ _ _ _, Below.refl _ _⟩
  | some ad0 =>
      have HR0 := Aside0.mk hr0
      have HC0 := Aside0.mk hc0
      clear hr0 hc0
      have HB := Aside0.mk (Below.refl w.heap.size w)
      have H : ((some (([] : List (S36)) : List (S36))).bind fun y102 => (if y102.length + l0.length < 1954687338268 then (some (y102 ++ l0)) else (none))) = some r := h
      clear h
      obtain ⟨y102, hy102⟩ : ∃ y_ : List (S36), y_ = (([] : List (S36))) := ⟨_, rfl⟩
      replace H : (if y102.length + l0.length < 1954687338268 then (some (y102 ++ l0)) else (none)) = some r := by first | (rw [hy102]; with_reducible exact H) | (have H2_ := (Option.bind_some _ _).symm.trans H; rw [hy102]; with_reducible exact H2_) | (have H2_ := (Option.bind_some _ _).symm.trans H; with_reducible exact H2_) | with_reducible exact H | (rw [hy102]; exact H) | exact H
      have Ny102 := Aside0.mk hy102
      clear hy102
      by_cases c2 : y102.length + l0.length < 1954687338268
      rotate_left
      · rw [if_neg c2] at H
        exact absurd H (by simp)
      rw [if_pos c2] at H
      have LMc2 := Aside0.mk c2
      clear c2
      obtain ⟨y105, hy105⟩ : ∃ y_ : List (S36), y_ = (y102 ++ l0) := ⟨_, rfl⟩
      replace H : (some y105) = some r := by first | (rw [hy105]; with_reducible exact H) | (have H2_ := (Option.bind_some _ _).symm.trans H; rw [hy105]; with_reducible exact H2_) | (have H2_ := (Option.bind_some _ _).symm.trans H; with_reducible exact H2_) | with_reducible exact H | (rw [hy105]; exact H) | exact H
      have Ny105 := Aside0.mk hy105
      clear hy105
      obtain rfl := Option.some.inj H
      go_enter Try.func24, Try.ntmps24
      go_wp2_with (first | ((with_reducible refine gate_dst (N := 5) rfl ?_); refine Kd.R_lit k36 _ 36 ?hg (N := 5) ?hd (xs := ([] : List (S36))) (inner := []) (ok := fun _ => True) (okp := fun _ => True) ?hr ?hp (fun _ hk => hk) trivial (Below.refl _ _) (Nat.le_refl _) (by simp) ?_; (case hd => rfl); (case hg => rfl); (case hr => first | (go_simp; done) | (go_simp; rfl)); (case hp => exact (Reps.none _ _)); intro v103 w3 ho4 hb hg_ hnew_; clear hg_ hnew_; (first | rw [← Ny102.out] at ho4 | (simp only [Int.reduceToNat] at ho4; rw [← Ny102.out] at ho4)); have HO104 := Aside0.mk (Kd.R_lower ho4 (below_size (LA HB.out))); replace HB := Aside0.mk (below_step (LA HB.out) hb); clear hb ho4) | ((with_reducible refine gate_builtin (b := .append) (xs := #[.tmp 5, .tmp 6]) rfl ?_); at_builtin; refine Kd.R_append_rows k36 (w0 := w) w.heap.size rfl (.tmp 5) (.tmp 6) 22 36 (.agg #[(.int .i64 0), (.int .i64 0), (.int .i64 0), (.int .i64 0), (.int .i64 0), (.int .i64 0), (.string ⟨#[]⟩), (.int .i64 0)]) 72 rfl Try.underlying22 info36 rfl (by decide) (by omega) v103 y102 l0 _ _ _ (fun _ => True) (fun _ => False) rfl rfl ?aO ?aR (fun _ _ h => h) (fun _ h => h.elim) ?aF ?aB ?aS ?aL ?_; (case aR => repeat (first | exact (Kd.C_below HR0.out HB.out) | (with_reducible refine Kd.C_alloc ?_ _) | (with_reducible refine Kd.C_drewN ?_ _) | (with_reducible refine Kd.C_drew ?_))); (case aB => exact (LA HB.out)); (case aF => exact (fun _ _ => trivial)); (case aO => exact (Kd.RA HO104.out)); (case aS => exact (below_size (LA HB.out))); (case aL => have := LMc2.out; omega); intro v106 w5 ho hb hg hat; rw [← Ny105.out] at ho; replace HB := Aside0.mk (hb); have HO107 := Aside0.mk (ho); clear HO104; clear ho hb hg hat))
      go_ret
      exact ⟨_, by first | rfl | (simp [errW_none, errW_some] <;> rfl) | (simp [*, errW_none, errW_some] <;> rfl), by (with_reducible repeat (first | apply Kd.R_alloc | apply Kd.R_drewN | apply Kd.R_drew)); exact HO107.out, LA HB.out⟩

-- GIVEN api_Event

/-! ### feed_Read: function 13 -/
def feed_Read.f (a0_0 : Int) (l0_1 : List (S36)) (a0_2 : Int) : Option (Int × (List (S36)) × Int × Int × Int × Int × Int × Int × Int × ByteArray × Int × Int) := if (l0_1.length : Int) > 0 then (if 0 < (l0_1.length : Int) then (if 1 ≤ (l0_1.length : Int) then ((api_Event.f (l0_1.drop 1)).bind fun t118 => (some (a0_0, t118, a0_2, (rd_T36 l0_1 0).f0, (rd_T36 l0_1 0).f1.f0, (rd_T36 l0_1 0).f1.f1, (rd_T36 l0_1 0).f1.f2, (rd_T36 l0_1 0).f1.f3, (rd_T36 l0_1 0).f1.f4, (rd_T36 l0_1 0).f1.f5, (rd_T36 l0_1 0).f2, 0))) else (none)) else (none)) else (if a0_2 > 0 then (some (a0_0, l0_1, 0, 4, 0, 0, 0, 0, 0, (⟨#[]⟩ : ByteArray), a0_2, 0)) else (some (a0_0, l0_1, a0_2, 0, 0, 0, 0, 0, 0, (⟨#[]⟩ : ByteArray), 0, 7)))
set_option maxHeartbeats 60000000 in
set_option maxRecDepth 100000 in
theorem feed_Read.calls (a0_0 : Int) (P0_1_ : Nat → Prop) (A0_1 : Option Addr) (c0_1 : Nat) (l0_1 : List (S36)) (a0_2 : Int) (r1 : Int) (r2 : List (S36)) (r3 : Int) (r4 : Int) (r5 : Int) (r6 : Int) (r7 : Int) (r8 : Int) (r9 : Int) (r10 : ByteArray) (r11 : Int) (r12 : Int) (w : World) (hs0_1 : Kd.V k36 36 w w.heap.size (fun k_ => P0_1_ k_) (.slice A0_1 l0_1.length c0_1) l0_1) (h : feed_Read.f a0_0 l0_1 a0_2 = some (r1, r2, r3, r4, r5, r6, r7, r8, r9, r10, r11, r12)) :
    Calls Try.prog 13 #[.agg #[.int .i64 a0_0, .slice A0_1 l0_1.length c0_1, .int .i64 a0_2]] w fun e w' => ∃ v1_ : Value, e = .returned (.tuple #[.agg #[.int .i64 r1, v1_, .int .i64 r3], .agg #[.int .i64 r4, .int .i64 r5, .int .i64 r6, .int .i64 r7, .int .i64 r8, .int .i64 r9, .string r10, .int .i64 r11], .int .i64 r12]) ∧ Kd.V k36 36 w' w.heap.size (fun k_ => (P0_1_ k_ ∨ w.heap.size ≤ k_)) v1_ r2 ∧ Below w.heap.size w w' := by
  have hu27 := Try.underlying27
  have hu36 := Try.underlying36
  have HO0_1 := Aside0.mk (show Kd.V k36 36 w w.heap.size (fun k_ => (P0_1_ k_ ∨ w.heap.size ≤ k_)) (.slice A0_1 l0_1.length c0_1) l0_1 from Kd.V_mono hs0_1 (fun k_ hk => .inl hk))
  have HB := Aside0.mk (Below.refl w.heap.size w)
  have H : (if (l0_1.length : Int) > 0 then (if 0 < (l0_1.length : Int) then (if 1 ≤ (l0_1.length : Int) then ((api_Event.f (l0_1.drop 1)).bind fun t118 => (some (a0_0, t118, a0_2, (rd_T36 l0_1 0).f0, (rd_T36 l0_1 0).f1.f0, (rd_T36 l0_1 0).f1.f1, (rd_T36 l0_1 0).f1.f2, (rd_T36 l0_1 0).f1.f3, (rd_T36 l0_1 0).f1.f4, (rd_T36 l0_1 0).f1.f5, (rd_T36 l0_1 0).f2, 0))) else (none)) else (none)) else (if a0_2 > 0 then (some (a0_0, l0_1, 0, 4, 0, 0, 0, 0, 0, (⟨#[]⟩ : ByteArray), a0_2, 0)) else (some (a0_0, l0_1, a0_2, 0, 0, 0, 0, 0, 0, (⟨#[]⟩ : ByteArray), 0, 7)))) = some (r1, r2, r3, r4, r5, r6, r7, r8, r9, r10, r11, r12) := h
  clear h
  by_cases c2 : (l0_1.length : Int) > 0
  · rw [if_pos c2] at H
    have c2b0 : decide (0 < (l0_1.length : Int)) = true := decide_eq_true c2
    have c2b1 : decide (0 < l0_1.length) = true := decide_eq_true (by omega)
    clear c2
    by_cases c3 : 0 < (l0_1.length : Int)
    rotate_left
    · rw [if_neg c3] at H
      exact absurd H (by simp)
    rw [if_pos c3] at H
    have c3b0 : decide (0 < (l0_1.length : Int)) = true := decide_eq_true c3
    have c3b1 : decide (0 < l0_1.length) = true := decide_eq_true (by omega)
    clear c3
    by_cases c4 : 1 ≤ (l0_1.length : Int)
    rotate_left
    · rw [if_neg c4] at H
      exact absurd H (by simp)
    rw [if_pos c4] at H
    have c4b0 := eq_true c4
    have c4b1 : decide (1 ≤ (l0_1.length : Int)) = true := decide_eq_true c4
    clear c4
    obtain ⟨y113, hy113⟩ : ∃ y_ : List (S36), y_ = (l0_1.drop 1) := ⟨_, rfl⟩
    replace H : ((api_Event.f y113).bind fun t118 => (some (a0_0, t118, a0_2, (rd_T36 l0_1 0).f0, (rd_T36 l0_1 0).f1.f0, (rd_T36 l0_1 0).f1.f1, (rd_T36 l0_1 0).f1.f2, (rd_T36 l0_1 0).f1.f3, (rd_T36 l0_1 0).f1.f4, (rd_T36 l0_1 0).f1.f5, (rd_T36 l0_1 0).f2, 0))) = some (r1, r2, r3, r4, r5, r6, r7, r8, r9, r10, r11, r12) := by first | (rw [hy113]; with_reducible exact H) | (have H2_ := (Option.bind_some _ _).symm.trans H; rw [hy113]; with_reducible exact H2_) | (have H2_ := (Option.bind_some _ _).symm.trans H; with_reducible exact H2_) | with_reducible exact H | (rw [hy113]; exact H) | exact H
    have Ny113 := Aside0.mk hy113
    clear hy113
    replace H := Option.bind_eq_some_iff.mp H
    obtain ⟨t118, A50, H⟩ := H
    replace H : (some (a0_0, t118, a0_2, (rd_T36 l0_1 0).f0, (rd_T36 l0_1 0).f1.f0, (rd_T36 l0_1 0).f1.f1, (rd_T36 l0_1 0).f1.f2, (rd_T36 l0_1 0).f1.f3, (rd_T36 l0_1 0).f1.f4, (rd_T36 l0_1 0).f1.f5, (rd_T36 l0_1 0).f2, 0)) = some (r1, r2, r3, r4, r5, r6, r7, r8, r9, r10, r11, r12) := H
    have A5 := Aside0.mk A50
    clear A50
    simp only [Option.some.injEq, Prod.mk.injEq] at H
    obtain ⟨rfl, rfl, rfl, rfl, rfl, rfl, rfl, rfl, rfl, rfl, rfl, rfl⟩ := H
    go_enter Try.func13, Try.ntmps13
    try go_wp2_with (first | ((with_reducible refine gate_dst (N := 1) rfl ?_); refine box_event ?hg (N := 1) ?hd (cs := #[.int .i64 a0_0, .slice A0_1 l0_1.length c0_1, .int .i64 a0_2]) (t := 27) ?hr ?_; (case hd => rfl); (case hg => rfl); (case hr => first | (go_simp; done) | (go_simp; rfl)); intro gb108 hg w6 hbox hb; replace HO0_1 := Aside0.mk (Kd.V_below (Kd.V_elderB (Kd.VA HO0_1.out) gb108 (Nat.le_of_eq hg.symm)) hb); have BK108 := Aside0.mk (hbox); have GE108 := Aside0.mk (ge1 hg (LA HB.out)); replace HB := Aside0.mk (below_step (LA HB.out) hb); clear hb hbox hg) | ((with_reducible refine gate_dst (N := 2) rfl ?_); refine box_event ?hg (N := 2) ?hd (cs := #[.int .i64 0, .slice none 0 0, .int .i64 0]) (t := 27) ?hr ?_; (case hd => rfl); (case hg => rfl); (case hr => first | (go_simp; done) | (go_simp; rfl)); intro gb109 hg w7 hbox hb; replace HO0_1 := Aside0.mk (Kd.V_below (Kd.V_elderB (Kd.VA HO0_1.out) gb109 (Nat.le_of_eq hg.symm)) hb); have BK109 := Aside0.mk (hbox); have GE109 := Aside0.mk (ge1 hg (LA HB.out)); replace HB := Aside0.mk (below_step (LA HB.out) hb); have NB108_109 := Aside0.mk ((by rw [hg]; exact Nat.ne_of_lt (blk_lt (g := gb108) (o := .cells #[.int .i64 a0_0, .slice A0_1 l0_1.length c0_1, .int .i64 a0_2] 27 (0, 0)) (BA BK108.out)) : gb108 ≠ gb109)); have NB109_108 := Aside0.mk ((by rw [hg]; exact Nat.ne_of_gt (blk_lt (g := gb108) (o := .cells #[.int .i64 a0_0, .slice A0_1 l0_1.length c0_1, .int .i64 a0_2] 27 (0, 0)) (BA BK108.out)) : gb109 ≠ gb108)); replace BK108 := Aside0.mk (blk_below (BA BK108.out) hb); clear hb hbox hg) | ((with_reducible refine gate_dst (N := 3) rfl ?_); refine box_event ?hg (N := 3) ?hd (cs := #[.int .i64 0, .int .i64 0, .int .i64 0, .int .i64 0, .int .i64 0, .int .i64 0, .string (⟨#[]⟩ : ByteArray), .int .i64 0]) (t := 36) ?hr ?_; (case hd => rfl); (case hg => rfl); (case hr => first | (go_simp; done) | (go_simp; rfl)); intro gb110 hg w8 hbox hb; replace HO0_1 := Aside0.mk (Kd.V_below (Kd.V_elderB (Kd.VA HO0_1.out) gb110 (Nat.le_of_eq hg.symm)) hb); have BK110 := Aside0.mk (hbox); have GE110 := Aside0.mk (ge1 hg (LA HB.out)); replace HB := Aside0.mk (below_step (LA HB.out) hb); have NB108_110 := Aside0.mk ((by rw [hg]; exact Nat.ne_of_lt (blk_lt (g := gb108) (o := .cells #[.int .i64 a0_0, .slice A0_1 l0_1.length c0_1, .int .i64 a0_2] 27 (0, 0)) (BA BK108.out)) : gb108 ≠ gb110)); have NB110_108 := Aside0.mk ((by rw [hg]; exact Nat.ne_of_gt (blk_lt (g := gb108) (o := .cells #[.int .i64 a0_0, .slice A0_1 l0_1.length c0_1, .int .i64 a0_2] 27 (0, 0)) (BA BK108.out)) : gb110 ≠ gb108)); replace BK108 := Aside0.mk (blk_below (BA BK108.out) hb); have NB109_110 := Aside0.mk ((by rw [hg]; exact Nat.ne_of_lt (blk_lt (g := gb109) (o := .cells #[.int .i64 0, .slice none 0 0, .int .i64 0] 27 (0, 0)) (BA BK109.out)) : gb109 ≠ gb110)); have NB110_109 := Aside0.mk ((by rw [hg]; exact Nat.ne_of_gt (blk_lt (g := gb109) (o := .cells #[.int .i64 0, .slice none 0 0, .int .i64 0] 27 (0, 0)) (BA BK109.out)) : gb110 ≠ gb109)); replace BK109 := Aside0.mk (blk_below (BA BK109.out) hb); clear hb hbox hg; have hnb9 := NB108_109.out; have hnc9 := NB109_108.out; have hnb10 := NB108_110.out; have hnc10 := NB110_108.out; obtain ⟨hcz11_0, hcz11_1, hcz11_2, hfz11_0, hfz11_1, hfz11_2⟩ := cz3 BK108.out; have p111 : 0 ≤ (0 : Int) := (by omega); have q111 : 0 < (l0_1.length : Int) := of_decide_eq_true (by first | (with_reducible assumption) | assumption); obtain ⟨ad111, e111, hx111_0, hx111_1, hx111_2, hx111_3, hx111_4, hx111_5, hx111_6, hx111_7⟩ := at_T36 (Kd.V_reads' HO0_1.out).2.2 0 p111 q111; cases e111; have qi111 : (0 < l0_1.length) = True := eq_true (by omega); (try rw [show ((0 : Int)).toNat = 0 from rfl] at hx111_0); (try rw [show 0 * 8 = 0 from rfl] at hx111_0); (try rw [Addr.add_zero'] at hx111_0); (try rw [show ((0 : Int)).toNat = 0 from rfl] at hx111_1); (try rw [show 0 * 8 = 0 from rfl] at hx111_1); (try rw [Addr.add_zero'] at hx111_1); (try rw [show ((0 : Int)).toNat = 0 from rfl] at hx111_2); (try rw [show 0 * 8 = 0 from rfl] at hx111_2); (try rw [Addr.add_zero'] at hx111_2); (try rw [show ((0 : Int)).toNat = 0 from rfl] at hx111_3); (try rw [show 0 * 8 = 0 from rfl] at hx111_3); (try rw [Addr.add_zero'] at hx111_3); (try rw [show ((0 : Int)).toNat = 0 from rfl] at hx111_4); (try rw [show 0 * 8 = 0 from rfl] at hx111_4); (try rw [Addr.add_zero'] at hx111_4); (try rw [show ((0 : Int)).toNat = 0 from rfl] at hx111_5); (try rw [show 0 * 8 = 0 from rfl] at hx111_5); (try rw [Addr.add_zero'] at hx111_5); (try rw [show ((0 : Int)).toNat = 0 from rfl] at hx111_6); (try rw [show 0 * 8 = 0 from rfl] at hx111_6); (try rw [Addr.add_zero'] at hx111_6); (try rw [show ((0 : Int)).toNat = 0 from rfl] at hx111_7); (try rw [show 0 * 8 = 0 from rfl] at hx111_7); (try rw [Addr.add_zero'] at hx111_7); replace p111 := eq_true p111; replace q111 := eq_true q111) | ((with_reducible refine gate_dst (N := 5) rfl ?_); refine box_event ?hg (N := 5) ?hd (cs := #[.int .i64 0, .int .i64 0, .int .i64 0, .int .i64 0, .int .i64 0, .int .i64 0, .string (⟨#[]⟩ : ByteArray), .int .i64 0]) (t := 36) ?hr ?_; (case hd => rfl); (case hg => rfl); (case hr => first | (go_simp; done) | (go_simp; rfl)); intro gb112 hg w12 hbox hb; replace HO0_1 := Aside0.mk (Kd.V_below (Kd.V_elderB (Kd.VA HO0_1.out) gb112 (Nat.le_of_eq hg.symm)) hb); have BK112 := Aside0.mk (hbox); have GE112 := Aside0.mk (ge1 hg (LA HB.out)); replace HB := Aside0.mk (below_step (LA HB.out) hb); have NB108_112 := Aside0.mk ((by rw [hg]; exact Nat.ne_of_lt (blk_lt (g := gb108) (o := .cells #[.int .i64 a0_0, .slice (some ad111) l0_1.length c0_1, .int .i64 a0_2] 27 (0, 0)) (BA BK108.out)) : gb108 ≠ gb112)); have NB112_108 := Aside0.mk ((by rw [hg]; exact Nat.ne_of_gt (blk_lt (g := gb108) (o := .cells #[.int .i64 a0_0, .slice (some ad111) l0_1.length c0_1, .int .i64 a0_2] 27 (0, 0)) (BA BK108.out)) : gb112 ≠ gb108)); replace BK108 := Aside0.mk (blk_below (BA BK108.out) hb); have NB109_112 := Aside0.mk ((by rw [hg]; exact Nat.ne_of_lt (blk_lt (g := gb109) (o := .cells #[.int .i64 0, .slice none 0 0, .int .i64 0] 27 (0, 0)) (BA BK109.out)) : gb109 ≠ gb112)); have NB112_109 := Aside0.mk ((by rw [hg]; exact Nat.ne_of_gt (blk_lt (g := gb109) (o := .cells #[.int .i64 0, .slice none 0 0, .int .i64 0] 27 (0, 0)) (BA BK109.out)) : gb112 ≠ gb109)); replace BK109 := Aside0.mk (blk_below (BA BK109.out) hb); have NB110_112 := Aside0.mk ((by rw [hg]; exact Nat.ne_of_lt (blk_lt (g := gb110) (o := .cells #[.int .i64 0, .int .i64 0, .int .i64 0, .int .i64 0, .int .i64 0, .int .i64 0, .string (⟨#[]⟩ : ByteArray), .int .i64 0] 36 (0, 0)) (BA BK110.out)) : gb110 ≠ gb112)); have NB112_110 := Aside0.mk ((by rw [hg]; exact Nat.ne_of_gt (blk_lt (g := gb110) (o := .cells #[.int .i64 0, .int .i64 0, .int .i64 0, .int .i64 0, .int .i64 0, .int .i64 0, .string (⟨#[]⟩ : ByteArray), .int .i64 0] 36 (0, 0)) (BA BK110.out)) : gb112 ≠ gb110)); replace BK110 := Aside0.mk (blk_below (BA BK110.out) hb); clear hb hbox hg; have hnb13 := NB112_108.out; have hnc13 := NB108_112.out; have hnb14 := NB112_109.out; have hnc14 := NB109_112.out; have hnb15 := NB112_110.out; have hnc15 := NB110_112.out; obtain ⟨hcz16_0, hcz16_1, hcz16_2, hcz16_3, hcz16_4, hcz16_5, hcz16_6, hcz16_7, hfz16_0, hfz16_1, hfz16_2, hfz16_3, hfz16_4, hfz16_5, hfz16_6, hfz16_7⟩ := cz8 BK112.out) | ((with_reducible refine gate_store (t := 36) (p := 5) rfl ?_); refine store_event (t := 36) (p := 5) (v := ?vo_w17) (w1 := ((((((((w12.setCell ⟨gb112, 0, none⟩ (.int .i64 ((rd_T36 l0_1 0).f0))).setCell ⟨gb112, 1, none⟩ (.int .i64 ((rd_T36 l0_1 0).f1.f0))).setCell ⟨gb112, 2, none⟩ (.int .i64 ((rd_T36 l0_1 0).f1.f1))).setCell ⟨gb112, 3, none⟩ (.int .i64 ((rd_T36 l0_1 0).f1.f2))).setCell ⟨gb112, 4, none⟩ (.int .i64 ((rd_T36 l0_1 0).f1.f3))).setCell ⟨gb112, 5, none⟩ (.int .i64 ((rd_T36 l0_1 0).f1.f4))).setCell ⟨gb112, 6, none⟩ (.string ((rd_T36 l0_1 0).f1.f5))).setCell ⟨gb112, 7, none⟩ (.int .i64 ((rd_T36 l0_1 0).f2)))) ?hg ?ho ?hn ?hr ?_; (case ho => rfl); (case hg => rfl); (case hn => rfl); (case hr => first | (go_simp; done) | (go_simp; rfl)); intro w17 hw; replace HO0_1 : Aside0 (Kd.V k36 36 w17 w.heap.size (fun k_ => (P0_1_ k_ ∨ w.heap.size ≤ k_) ∧ k_ ≠ gb108 ∧ k_ ≠ gb109 ∧ k_ ≠ gb110 ∧ k_ ≠ gb112) (.slice (some ad111) l0_1.length c0_1) l0_1) := ⟨(by rw [hw]; exact (Kd.V_mono (Kd.V_mv (g := gb112) (Kd.V_mono HO0_1.out (fun k_ hk => (⟨hk, hk.2⟩ : _ ∧ k_ ≠ gb112))) (fun _ hk => hk.2)) (fun _ hk => ⟨hk.1.1.1.1.1, ⟨hk.1.1.1.1.2, ⟨hk.1.1.1.2, ⟨hk.1.1.2, hk.1.2⟩⟩⟩⟩)))⟩; replace BK108 : Aside0 (w17.heap[gb108]? = some (.cells #[.int .i64 a0_0, .slice (some ad111) l0_1.length c0_1, .int .i64 a0_2] 27 (0, 0))) := ⟨(by rw [hw]; exact (BF BK108.out NB108_112.out))⟩; replace BK109 : Aside0 (w17.heap[gb109]? = some (.cells #[.int .i64 0, .slice none 0 0, .int .i64 0] 27 (0, 0))) := ⟨(by rw [hw]; exact (BF BK109.out NB109_112.out))⟩; replace BK110 : Aside0 (w17.heap[gb110]? = some (.cells #[.int .i64 0, .int .i64 0, .int .i64 0, .int .i64 0, .int .i64 0, .int .i64 0, .string (⟨#[]⟩ : ByteArray), .int .i64 0] 36 (0, 0))) := ⟨(by rw [hw]; exact (BF BK110.out NB110_112.out))⟩; replace BK112 : Aside0 (w17.heap[gb112]? = some (.cells #[.int .i64 ((rd_T36 l0_1 0).f0), .int .i64 ((rd_T36 l0_1 0).f1.f0), .int .i64 ((rd_T36 l0_1 0).f1.f1), .int .i64 ((rd_T36 l0_1 0).f1.f2), .int .i64 ((rd_T36 l0_1 0).f1.f3), .int .i64 ((rd_T36 l0_1 0).f1.f4), .string ((rd_T36 l0_1 0).f1.f5), .int .i64 ((rd_T36 l0_1 0).f2)] 36 (0, 0))) := ⟨(by rw [hw]; exact (BP BK112.out (by rfl)))⟩; replace HB : Aside0 (Below w.heap.size w w17) := ⟨(by rw [hw]; exact (LG HB.out (G1 GE112.out G0)))⟩; clear hw; obtain ⟨hcz18_0, hcz18_1, hcz18_2, hfz18_0, hfz18_1, hfz18_2⟩ := cz3 BK108.out; have q19 : (1 : Int) ≤ ((l0_1.length : Int) : Int) := of_decide_eq_true (by first | (with_reducible assumption) | assumption); obtain ⟨i019, hi019, _, hsz19, _⟩ := info_parts info36; have hroom19 : l0_1.length ≤ c0_1 := (Kd.V_reads' HO0_1.out).2.1; have hC19 : Kd.F k36 _ _ (some ad111) l0_1.length l0_1 := (Kd.V_at (base := w.heap.size) HO0_1.out).2.2; have hcut19 := cut_from (P := Try.prog) 22 36 .i64 Try.underlying22 hi019 8 hsz19 (some ad111) l0_1.length c0_1 1 (by omega) q19; have hr19 := Kd.F_cut (m := (1 : Int).toNat) (c := c0_1) hC19 (by omega) hroom19; obtain ⟨A19, hA19⟩ : ∃ A_, A_ = (if c0_1 = (1 : Int).toNat then (some ad111) else ((some ad111) : Option Addr).map (·.add ((1 : Int).toNat * 8))) := ⟨_, rfl⟩; obtain ⟨c19, hc19⟩ : ∃ c_, c_ = c0_1 - (1 : Int).toNat := ⟨_, rfl⟩; have hy19 : y113.length = l0_1.length - (1 : Int).toNat := (by rw [Ny113.out, List.length_drop] <;> omega); rw [show (l0_1).drop (1 : Int).toNat = y113 from Ny113.out.symm] at hr19; replace hr19 : Kd.F k36 _ _ A19 y113.length y113 := (by rw [hA19]; exact hr19); rw [← hy19, ← hA19, ← hc19] at hcut19; have HO117 := Aside0.mk (show Kd.V k36 36 _ w.heap.size _ (.slice A19 y113.length c19) y113 from Kd.V_mk (by rw [hy19, hc19]; exact Nat.sub_le_sub_right hroom19 _) hr19); have HC117 := Aside0.mk (show y113.length ≤ c19 from by rw [hy19, hc19]; exact Nat.sub_le_sub_right hroom19 _); clear hr19 hC19 hroom19 hi019 hsz19 hc19; have KY19 := Aside0.mk hy19; have KA19 := Aside0.mk hA19; clear hy19 hA19; replace q19 := eq_true q19) | ((with_reducible refine gate_callee (f := 24) rfl ?_); refine goesL_ (some 19) rfl rfl Try.func24 (by kernel_rfl) rfl #[.slice A19 y113.length c19] rfl (by (try simp only [List.map_toArray, List.map_cons, List.map_nil]); first | done | rfl | (simp only [List.length_drop, List.length_take]; rfl)) ?_; (with_reducible refine (api_Event.calls _ _ y113 t118 _ ?side1 ?side2 A5.out).mono ?_); (case side1 => exact Kd.CA (Kd.V_reads' HO117.out).2.2); (case side2 => exact (Kd.V_reads' HO117.out).2.1); rintro e w20 ⟨v119, rfl, ho0, hb⟩; refine ⟨_, rfl, ?_⟩; replace HO0_1 := Aside0.mk (Kd.V_elder' (Kd.VA HO0_1.out) (Kd.R_base ho0) hb); replace HO117 := Aside0.mk (Kd.V_elder' (Kd.VA HO117.out) (Kd.R_base ho0) hb); have HO120 := Aside0.mk (Kd.R_lower (Kd.R_newB (Kd.R_newB (Kd.R_newM (M := fun k_ => (w.heap.size ≤ k_)) ho0 (below_size (LA HB.out)) (fun k_ h_ => h_)) (g := gb110) (o := .cells #[.int .i64 0, .int .i64 0, .int .i64 0, .int .i64 0, .int .i64 0, .int .i64 0, .string (⟨#[]⟩ : ByteArray), .int .i64 0] 36 (0, 0)) (BA BK110.out)) (g := gb112) (o := .cells #[.int .i64 ((rd_T36 l0_1 0).f0), .int .i64 ((rd_T36 l0_1 0).f1.f0), .int .i64 ((rd_T36 l0_1 0).f1.f1), .int .i64 ((rd_T36 l0_1 0).f1.f2), .int .i64 ((rd_T36 l0_1 0).f1.f3), .int .i64 ((rd_T36 l0_1 0).f1.f4), .string ((rd_T36 l0_1 0).f1.f5), .int .i64 ((rd_T36 l0_1 0).f2)] 36 (0, 0)) (BA BK112.out)) (below_size (LA HB.out))); replace BK108 := Aside0.mk (blk_below (BA BK108.out) hb); replace BK109 := Aside0.mk (blk_below (BA BK109.out) hb); replace BK110 := Aside0.mk (blk_below (BA BK110.out) hb); replace BK112 := Aside0.mk (blk_below (BA BK112.out) hb); replace HB := Aside0.mk (below_step (LA HB.out) hb); (try clear hb); (try clear hb2); (try clear hk); (try clear hi); (try clear ho0); obtain ⟨Ao21, co21, eo21⟩ := Kd.R_slice HO120.out; subst eo21; obtain ⟨hcz22_0, hcz22_1, hcz22_2, hfz22_0, hfz22_1, hfz22_2⟩ := cz3 BK108.out))
    have n0_ : Aside0 (Kd.V k36 36 (w20.setCell ⟨gb108, 1, none⟩ (.slice Ao21 t118.length co21)) w.heap.size (fun k_ => (P0_1_ k_ ∨ w.heap.size ≤ k_) ∧ some k_ ≠ (.slice Ao21 t118.length co21 : Value).ownBlock ∧ k_ ≠ gb108 ∧ k_ ≠ gb109 ∧ k_ ≠ gb110 ∧ k_ ≠ gb112) (.slice (some ad111) l0_1.length c0_1) l0_1) := ⟨by (with_reducible repeat (first | apply Kd.V_alloc | apply Kd.V_drewN | apply Kd.V_drew)); exact Kd.V_mono (Kd.V_far (p := ⟨gb108, 1, none⟩) (Kd.V_mono HO0_1.out (fun k_ hk => (⟨hk, hk.1.2.1⟩ : _ ∧ k_ ≠ gb108))) (fun _ hk => hk.2) (.slice Ao21 t118.length co21)) (fun _ hk => ⟨hk.1.1.1, ⟨hk.1.2, ⟨hk.1.1.2.1, ⟨hk.1.1.2.2.1, ⟨hk.1.1.2.2.2.1, hk.1.1.2.2.2.2⟩⟩⟩⟩⟩)⟩
    have n1_ : Aside0 (Kd.V k36 36 (w20.setCell ⟨gb108, 1, none⟩ (.slice Ao21 t118.length co21)) w.heap.size (fun k_ => (P0_1_ k_ ∨ w.heap.size ≤ k_) ∧ some k_ ≠ (.slice Ao21 t118.length co21 : Value).ownBlock ∧ k_ ≠ gb108 ∧ k_ ≠ gb109 ∧ k_ ≠ gb110 ∧ k_ ≠ gb112) (.slice A19 y113.length c19) y113) := ⟨by (with_reducible repeat (first | apply Kd.V_alloc | apply Kd.V_drewN | apply Kd.V_drew)); exact Kd.V_mono (Kd.V_far (p := ⟨gb108, 1, none⟩) (Kd.V_mono HO117.out (fun k_ hk => (⟨hk, hk.1.2.1⟩ : _ ∧ k_ ≠ gb108))) (fun _ hk => hk.2) (.slice Ao21 t118.length co21)) (fun _ hk => ⟨hk.1.1.1, ⟨hk.1.2, ⟨hk.1.1.2.1, ⟨hk.1.1.2.2.1, ⟨hk.1.1.2.2.2.1, hk.1.1.2.2.2.2⟩⟩⟩⟩⟩)⟩
    have n2_ : Aside0 (Kd.R k36 36 (w20.setCell ⟨gb108, 1, none⟩ (.slice Ao21 t118.length co21)) w.heap.size (fun k_ => (w.heap.size ≤ k_) ∧ k_ ≠ gb110 ∧ k_ ≠ gb112) (.slice Ao21 t118.length co21) t118) := ⟨by (with_reducible repeat (first | apply Kd.R_alloc | apply Kd.R_drewN | apply Kd.R_drew)); exact Kd.R_mono (Kd.R_far (p := ⟨gb108, 1, none⟩) (Kd.R_types HO120.out BK108.out (by decide)) (fun _ hk => hk.2) (.slice Ao21 t118.length co21)) (fun _ hk => ⟨hk.1.1.1.1, ⟨hk.1.1.2, hk.1.2⟩⟩)⟩
    have n3_ : Aside0 ((w20.setCell ⟨gb108, 1, none⟩ (.slice Ao21 t118.length co21)).heap[gb108]? = some (.cells #[.int .i64 a0_0, .slice Ao21 t118.length co21, .int .i64 a0_2] 27 (0, 0))) := ⟨by (with_reducible repeat (first | refine blk_drewN ?_ _ | refine blk_drew ?_ | refine blk_alloc ?_ _)); refine blk_put (cs := #[.int .i64 a0_0, .slice (some ad111) l0_1.length c0_1, .int .i64 a0_2]) ?_ 1 _ rfl; (with_reducible repeat (first | refine blk_drewN ?_ _ | refine blk_drew ?_ | refine blk_alloc ?_ _)); exact BK108.out⟩
    have n4_ : Aside0 ((w20.setCell ⟨gb108, 1, none⟩ (.slice Ao21 t118.length co21)).heap[gb109]? = some (.cells #[.int .i64 0, .slice none 0 0, .int .i64 0] 27 (0, 0))) := ⟨by exact BF BK109.out NB109_108.out⟩
    have n5_ : Aside0 ((w20.setCell ⟨gb108, 1, none⟩ (.slice Ao21 t118.length co21)).heap[gb110]? = some (.cells #[.int .i64 0, .int .i64 0, .int .i64 0, .int .i64 0, .int .i64 0, .int .i64 0, .string (⟨#[]⟩ : ByteArray), .int .i64 0] 36 (0, 0))) := ⟨by exact BF BK110.out NB110_108.out⟩
    have n6_ : Aside0 ((w20.setCell ⟨gb108, 1, none⟩ (.slice Ao21 t118.length co21)).heap[gb112]? = some (.cells #[.int .i64 ((rd_T36 l0_1 0).f0), .int .i64 ((rd_T36 l0_1 0).f1.f0), .int .i64 ((rd_T36 l0_1 0).f1.f1), .int .i64 ((rd_T36 l0_1 0).f1.f2), .int .i64 ((rd_T36 l0_1 0).f1.f3), .int .i64 ((rd_T36 l0_1 0).f1.f4), .string ((rd_T36 l0_1 0).f1.f5), .int .i64 ((rd_T36 l0_1 0).f2)] 36 (0, 0))) := ⟨by exact BF BK112.out NB112_108.out⟩
    have n7_ : Aside0 (Below w.heap.size w (w20.setCell ⟨gb108, 1, none⟩ (.slice Ao21 t118.length co21))) := ⟨LG HB.out (G1 GE108.out (G1 GE109.out (G1 GE110.out (G1 GE112.out G0))))⟩
    (try clear HO0_1)
    (try clear HO117)
    (try clear HO120)
    (try clear BK108)
    (try clear BK109)
    (try clear BK110)
    (try clear BK112)
    (try clear HB)
    generalize (w20.setCell ⟨gb108, 1, none⟩ (.slice Ao21 t118.length co21)) = w23 at n0_ n1_ n2_ n3_ n4_ n5_ n6_ n7_ ⊢
    have HO0_1 := n0_
    have HO117 := n1_
    have HO120 := n2_
    have BK108 := n3_
    have BK109 := n4_
    have BK110 := n5_
    have BK112 := n6_
    have HB := n7_
    clear n0_ n1_ n2_ n3_ n4_ n5_ n6_ n7_
    have n0_ := Aside0.mk (Kd.V_drew HO0_1.out)
    have n1_ := Aside0.mk (Kd.V_drew HO117.out)
    have n2_ := Aside0.mk (Kd.R_drew HO120.out)
    have n3_ := Aside0.mk (blk_drew BK108.out)
    have n4_ := Aside0.mk (blk_drew BK109.out)
    have n5_ := Aside0.mk (blk_drew BK110.out)
    have n6_ := Aside0.mk (blk_drew BK112.out)
    have n7_ := Aside0.mk (below_drew1 HB.out)
    clear HO0_1
    clear HO117
    clear HO120
    clear BK108
    clear BK109
    clear BK110
    clear BK112
    clear HB
    have HO0_1 := n0_
    have HO117 := n1_
    have HO120 := n2_
    have BK108 := n3_
    have BK109 := n4_
    have BK110 := n5_
    have BK112 := n6_
    have HB := n7_
    clear n0_ n1_ n2_ n3_ n4_ n5_ n6_ n7_
    refine start_ (n := 5) (S := fun w' => w'.cell? ⟨gb108, 0, none⟩ = some (.int .i64 a0_0) ∧ w'.cell? ⟨gb108, 1, none⟩ = some (.slice Ao21 t118.length co21) ∧ w'.cell? ⟨gb108, 2, none⟩ = some (.int .i64 a0_2) ∧ w'.cell? ⟨gb112, 0, none⟩ = some (.int .i64 ((rd_T36 l0_1 0).f0)) ∧ w'.cell? ⟨gb112, 1, none⟩ = some (.int .i64 ((rd_T36 l0_1 0).f1.f0)) ∧ w'.cell? ⟨gb112, 2, none⟩ = some (.int .i64 ((rd_T36 l0_1 0).f1.f1)) ∧ w'.cell? ⟨gb112, 3, none⟩ = some (.int .i64 ((rd_T36 l0_1 0).f1.f2)) ∧ w'.cell? ⟨gb112, 4, none⟩ = some (.int .i64 ((rd_T36 l0_1 0).f1.f3)) ∧ w'.cell? ⟨gb112, 5, none⟩ = some (.int .i64 ((rd_T36 l0_1 0).f1.f4)) ∧ w'.cell? ⟨gb112, 6, none⟩ = some (.string ((rd_T36 l0_1 0).f1.f5)) ∧ w'.cell? ⟨gb112, 7, none⟩ = some (.int .i64 ((rd_T36 l0_1 0).f2))) (ds := []) #[false, false, false, false, false] (by kernel_rfl) rfl rfl ⟨(blk_cell BK108.out 0).trans rfl, (blk_cell BK108.out 1).trans rfl, (blk_cell BK108.out 2).trans rfl, (blk_cell BK112.out 0).trans rfl, (blk_cell BK112.out 1).trans rfl, (blk_cell BK112.out 2).trans rfl, (blk_cell BK112.out 3).trans rfl, (blk_cell BK112.out 4).trans rfl, (blk_cell BK112.out 5).trans rfl, (blk_cell BK112.out 6).trans rfl, (blk_cell BK112.out 7).trans rfl⟩ (fun hHeld => ?_)
    generalize w23.drew = w24 at HO0_1 HO117 HO120 BK108 BK109 BK110 BK112 HB hHeld ⊢
    refine take_ (i := 0) (N := some 21) (v := ?_) (a' := ?_) #[true, false, false, false, false] rfl rfl (by kernel_rfl) (fun _ _ _ h => h) (Or.inl ⟨by rfl, ?_⟩) hHeld ?_ ?_
    rotate_left
    · rintro w' ⟨s0, s1, s2, s3, s4, s5, s6, s7, s8, s9, s10⟩
      go_simp
      with_reducible rfl
    rotate_left
    · simp only [Act.put, PU, i64_w, i32_w]
      rfl
    refine take_ (i := 1) (N := some 22) (v := ?_) (a' := ?_) #[true, true, false, false, false] rfl rfl (by kernel_rfl) (fun _ _ _ h => h) (Or.inl ⟨by rfl, ?_⟩) hHeld ?_ ?_
    rotate_left
    · rintro w' ⟨s0, s1, s2, s3, s4, s5, s6, s7, s8, s9, s10⟩
      go_simp
      with_reducible rfl
    rotate_left
    · simp only [Act.put, PU, i64_w, i32_w]
      rfl
    refine one_ (i := 2) (N := none) #[true, true, true, false, false] rfl rfl (by kernel_rfl) (by decide) (fun K hK => ?_)
    have hs25 : w24.cell? ⟨gb109, 0, none⟩ = some (.int .i64 0) := (blk_cell BK109.out 0).trans rfl
    have hfs25 := blk_frozen BK109.out 0
    have hns25_0 := NB108_109.out
    have hns25_2 := NB110_109.out
    have hns25_3 := NB112_109.out
    have hms25_0 := NB109_108.out
    have hms25_2 := NB109_110.out
    have hms25_3 := NB109_112.out
    have hs26 : w24.cell? ⟨gb109, 1, none⟩ = some (.slice none 0 0) := (blk_cell BK109.out 1).trans rfl
    have hfs26 := blk_frozen BK109.out 1
    have hns26_0 := NB108_109.out
    have hns26_2 := NB110_109.out
    have hns26_3 := NB112_109.out
    have hms26_0 := NB109_108.out
    have hms26_2 := NB109_110.out
    have hms26_3 := NB109_112.out
    have hs27 : w24.cell? ⟨gb109, 2, none⟩ = some (.int .i64 0) := (blk_cell BK109.out 2).trans rfl
    have hfs27 := blk_frozen BK109.out 2
    have hns27_0 := NB108_109.out
    have hns27_2 := NB110_109.out
    have hns27_3 := NB112_109.out
    have hms27_0 := NB109_108.out
    have hms27_2 := NB109_110.out
    have hms27_3 := NB109_112.out
    refine skip_ (w1 := ?_) (by rfl) rfl ?_ ?_
    rotate_left
    · go_simp
      rfl
    refine hK.out _ _ ⟨((cell_far (p := ⟨gb109, _, none⟩) NB108_109.out _).trans (((cell_far (p := ⟨gb109, _, none⟩) NB108_109.out _).trans (((cell_far (p := ⟨gb109, _, none⟩) NB108_109.out _).trans (hHeld.1)))))), ((cell_far (p := ⟨gb109, _, none⟩) NB108_109.out _).trans (((cell_far (p := ⟨gb109, _, none⟩) NB108_109.out _).trans (((cell_far (p := ⟨gb109, _, none⟩) NB108_109.out _).trans (hHeld.2.1)))))), ((cell_far (p := ⟨gb109, _, none⟩) NB108_109.out _).trans (((cell_far (p := ⟨gb109, _, none⟩) NB108_109.out _).trans (((cell_far (p := ⟨gb109, _, none⟩) NB108_109.out _).trans (hHeld.2.2.1)))))), ((cell_far (p := ⟨gb109, _, none⟩) NB112_109.out _).trans (((cell_far (p := ⟨gb109, _, none⟩) NB112_109.out _).trans (((cell_far (p := ⟨gb109, _, none⟩) NB112_109.out _).trans (hHeld.2.2.2.1)))))), ((cell_far (p := ⟨gb109, _, none⟩) NB112_109.out _).trans (((cell_far (p := ⟨gb109, _, none⟩) NB112_109.out _).trans (((cell_far (p := ⟨gb109, _, none⟩) NB112_109.out _).trans (hHeld.2.2.2.2.1)))))), ((cell_far (p := ⟨gb109, _, none⟩) NB112_109.out _).trans (((cell_far (p := ⟨gb109, _, none⟩) NB112_109.out _).trans (((cell_far (p := ⟨gb109, _, none⟩) NB112_109.out _).trans (hHeld.2.2.2.2.2.1)))))), ((cell_far (p := ⟨gb109, _, none⟩) NB112_109.out _).trans (((cell_far (p := ⟨gb109, _, none⟩) NB112_109.out _).trans (((cell_far (p := ⟨gb109, _, none⟩) NB112_109.out _).trans (hHeld.2.2.2.2.2.2.1)))))), ((cell_far (p := ⟨gb109, _, none⟩) NB112_109.out _).trans (((cell_far (p := ⟨gb109, _, none⟩) NB112_109.out _).trans (((cell_far (p := ⟨gb109, _, none⟩) NB112_109.out _).trans (hHeld.2.2.2.2.2.2.2.1)))))), ((cell_far (p := ⟨gb109, _, none⟩) NB112_109.out _).trans (((cell_far (p := ⟨gb109, _, none⟩) NB112_109.out _).trans (((cell_far (p := ⟨gb109, _, none⟩) NB112_109.out _).trans (hHeld.2.2.2.2.2.2.2.2.1)))))), ((cell_far (p := ⟨gb109, _, none⟩) NB112_109.out _).trans (((cell_far (p := ⟨gb109, _, none⟩) NB112_109.out _).trans (((cell_far (p := ⟨gb109, _, none⟩) NB112_109.out _).trans (hHeld.2.2.2.2.2.2.2.2.2.1)))))), ((cell_far (p := ⟨gb109, _, none⟩) NB112_109.out _).trans (((cell_far (p := ⟨gb109, _, none⟩) NB112_109.out _).trans (((cell_far (p := ⟨gb109, _, none⟩) NB112_109.out _).trans (hHeld.2.2.2.2.2.2.2.2.2.2))))))⟩ (fun hHeld => ?_)
    clear hK K
    refine one_ (i := 3) (N := none) #[true, true, true, true, false] rfl rfl (by kernel_rfl) (by decide) (fun K hK => ?_)
    have hs28 : w24.cell? ⟨gb110, 0, none⟩ = some (.int .i64 0) := (blk_cell BK110.out 0).trans rfl
    have hfs28 := blk_frozen BK110.out 0
    have hns28_0 := NB108_110.out
    have hns28_1 := NB109_110.out
    have hns28_3 := NB112_110.out
    have hms28_0 := NB110_108.out
    have hms28_1 := NB110_109.out
    have hms28_3 := NB110_112.out
    have hs29 : w24.cell? ⟨gb110, 1, none⟩ = some (.int .i64 0) := (blk_cell BK110.out 1).trans rfl
    have hfs29 := blk_frozen BK110.out 1
    have hns29_0 := NB108_110.out
    have hns29_1 := NB109_110.out
    have hns29_3 := NB112_110.out
    have hms29_0 := NB110_108.out
    have hms29_1 := NB110_109.out
    have hms29_3 := NB110_112.out
    have hs30 : w24.cell? ⟨gb110, 2, none⟩ = some (.int .i64 0) := (blk_cell BK110.out 2).trans rfl
    have hfs30 := blk_frozen BK110.out 2
    have hns30_0 := NB108_110.out
    have hns30_1 := NB109_110.out
    have hns30_3 := NB112_110.out
    have hms30_0 := NB110_108.out
    have hms30_1 := NB110_109.out
    have hms30_3 := NB110_112.out
    have hs31 : w24.cell? ⟨gb110, 3, none⟩ = some (.int .i64 0) := (blk_cell BK110.out 3).trans rfl
    have hfs31 := blk_frozen BK110.out 3
    have hns31_0 := NB108_110.out
    have hns31_1 := NB109_110.out
    have hns31_3 := NB112_110.out
    have hms31_0 := NB110_108.out
    have hms31_1 := NB110_109.out
    have hms31_3 := NB110_112.out
    have hs32 : w24.cell? ⟨gb110, 4, none⟩ = some (.int .i64 0) := (blk_cell BK110.out 4).trans rfl
    have hfs32 := blk_frozen BK110.out 4
    have hns32_0 := NB108_110.out
    have hns32_1 := NB109_110.out
    have hns32_3 := NB112_110.out
    have hms32_0 := NB110_108.out
    have hms32_1 := NB110_109.out
    have hms32_3 := NB110_112.out
    have hs33 : w24.cell? ⟨gb110, 5, none⟩ = some (.int .i64 0) := (blk_cell BK110.out 5).trans rfl
    have hfs33 := blk_frozen BK110.out 5
    have hns33_0 := NB108_110.out
    have hns33_1 := NB109_110.out
    have hns33_3 := NB112_110.out
    have hms33_0 := NB110_108.out
    have hms33_1 := NB110_109.out
    have hms33_3 := NB110_112.out
    have hs34 : w24.cell? ⟨gb110, 6, none⟩ = some (.string (⟨#[]⟩ : ByteArray)) := (blk_cell BK110.out 6).trans rfl
    have hfs34 := blk_frozen BK110.out 6
    have hns34_0 := NB108_110.out
    have hns34_1 := NB109_110.out
    have hns34_3 := NB112_110.out
    have hms34_0 := NB110_108.out
    have hms34_1 := NB110_109.out
    have hms34_3 := NB110_112.out
    have hs35 : w24.cell? ⟨gb110, 7, none⟩ = some (.int .i64 0) := (blk_cell BK110.out 7).trans rfl
    have hfs35 := blk_frozen BK110.out 7
    have hns35_0 := NB108_110.out
    have hns35_1 := NB109_110.out
    have hns35_3 := NB112_110.out
    have hms35_0 := NB110_108.out
    have hms35_1 := NB110_109.out
    have hms35_3 := NB110_112.out
    refine skip_ (w1 := ?_) (by rfl) rfl ?_ ?_
    rotate_left
    · go_simp
      rfl
    refine hK.out _ _ ⟨((cell_far (p := ⟨gb110, _, none⟩) NB108_110.out _).trans (((cell_far (p := ⟨gb110, _, none⟩) NB108_110.out _).trans (((cell_far (p := ⟨gb110, _, none⟩) NB108_110.out _).trans (((cell_far (p := ⟨gb110, _, none⟩) NB108_110.out _).trans (((cell_far (p := ⟨gb110, _, none⟩) NB108_110.out _).trans (((cell_far (p := ⟨gb110, _, none⟩) NB108_110.out _).trans (((cell_far (p := ⟨gb110, _, none⟩) NB108_110.out _).trans (((cell_far (p := ⟨gb110, _, none⟩) NB108_110.out _).trans (hHeld.1)))))))))))))))), ((cell_far (p := ⟨gb110, _, none⟩) NB108_110.out _).trans (((cell_far (p := ⟨gb110, _, none⟩) NB108_110.out _).trans (((cell_far (p := ⟨gb110, _, none⟩) NB108_110.out _).trans (((cell_far (p := ⟨gb110, _, none⟩) NB108_110.out _).trans (((cell_far (p := ⟨gb110, _, none⟩) NB108_110.out _).trans (((cell_far (p := ⟨gb110, _, none⟩) NB108_110.out _).trans (((cell_far (p := ⟨gb110, _, none⟩) NB108_110.out _).trans (((cell_far (p := ⟨gb110, _, none⟩) NB108_110.out _).trans (hHeld.2.1)))))))))))))))), ((cell_far (p := ⟨gb110, _, none⟩) NB108_110.out _).trans (((cell_far (p := ⟨gb110, _, none⟩) NB108_110.out _).trans (((cell_far (p := ⟨gb110, _, none⟩) NB108_110.out _).trans (((cell_far (p := ⟨gb110, _, none⟩) NB108_110.out _).trans (((cell_far (p := ⟨gb110, _, none⟩) NB108_110.out _).trans (((cell_far (p := ⟨gb110, _, none⟩) NB108_110.out _).trans (((cell_far (p := ⟨gb110, _, none⟩) NB108_110.out _).trans (((cell_far (p := ⟨gb110, _, none⟩) NB108_110.out _).trans (hHeld.2.2.1)))))))))))))))), ((cell_far (p := ⟨gb110, _, none⟩) NB112_110.out _).trans (((cell_far (p := ⟨gb110, _, none⟩) NB112_110.out _).trans (((cell_far (p := ⟨gb110, _, none⟩) NB112_110.out _).trans (((cell_far (p := ⟨gb110, _, none⟩) NB112_110.out _).trans (((cell_far (p := ⟨gb110, _, none⟩) NB112_110.out _).trans (((cell_far (p := ⟨gb110, _, none⟩) NB112_110.out _).trans (((cell_far (p := ⟨gb110, _, none⟩) NB112_110.out _).trans (((cell_far (p := ⟨gb110, _, none⟩) NB112_110.out _).trans (hHeld.2.2.2.1)))))))))))))))), ((cell_far (p := ⟨gb110, _, none⟩) NB112_110.out _).trans (((cell_far (p := ⟨gb110, _, none⟩) NB112_110.out _).trans (((cell_far (p := ⟨gb110, _, none⟩) NB112_110.out _).trans (((cell_far (p := ⟨gb110, _, none⟩) NB112_110.out _).trans (((cell_far (p := ⟨gb110, _, none⟩) NB112_110.out _).trans (((cell_far (p := ⟨gb110, _, none⟩) NB112_110.out _).trans (((cell_far (p := ⟨gb110, _, none⟩) NB112_110.out _).trans (((cell_far (p := ⟨gb110, _, none⟩) NB112_110.out _).trans (hHeld.2.2.2.2.1)))))))))))))))), ((cell_far (p := ⟨gb110, _, none⟩) NB112_110.out _).trans (((cell_far (p := ⟨gb110, _, none⟩) NB112_110.out _).trans (((cell_far (p := ⟨gb110, _, none⟩) NB112_110.out _).trans (((cell_far (p := ⟨gb110, _, none⟩) NB112_110.out _).trans (((cell_far (p := ⟨gb110, _, none⟩) NB112_110.out _).trans (((cell_far (p := ⟨gb110, _, none⟩) NB112_110.out _).trans (((cell_far (p := ⟨gb110, _, none⟩) NB112_110.out _).trans (((cell_far (p := ⟨gb110, _, none⟩) NB112_110.out _).trans (hHeld.2.2.2.2.2.1)))))))))))))))), ((cell_far (p := ⟨gb110, _, none⟩) NB112_110.out _).trans (((cell_far (p := ⟨gb110, _, none⟩) NB112_110.out _).trans (((cell_far (p := ⟨gb110, _, none⟩) NB112_110.out _).trans (((cell_far (p := ⟨gb110, _, none⟩) NB112_110.out _).trans (((cell_far (p := ⟨gb110, _, none⟩) NB112_110.out _).trans (((cell_far (p := ⟨gb110, _, none⟩) NB112_110.out _).trans (((cell_far (p := ⟨gb110, _, none⟩) NB112_110.out _).trans (((cell_far (p := ⟨gb110, _, none⟩) NB112_110.out _).trans (hHeld.2.2.2.2.2.2.1)))))))))))))))), ((cell_far (p := ⟨gb110, _, none⟩) NB112_110.out _).trans (((cell_far (p := ⟨gb110, _, none⟩) NB112_110.out _).trans (((cell_far (p := ⟨gb110, _, none⟩) NB112_110.out _).trans (((cell_far (p := ⟨gb110, _, none⟩) NB112_110.out _).trans (((cell_far (p := ⟨gb110, _, none⟩) NB112_110.out _).trans (((cell_far (p := ⟨gb110, _, none⟩) NB112_110.out _).trans (((cell_far (p := ⟨gb110, _, none⟩) NB112_110.out _).trans (((cell_far (p := ⟨gb110, _, none⟩) NB112_110.out _).trans (hHeld.2.2.2.2.2.2.2.1)))))))))))))))), ((cell_far (p := ⟨gb110, _, none⟩) NB112_110.out _).trans (((cell_far (p := ⟨gb110, _, none⟩) NB112_110.out _).trans (((cell_far (p := ⟨gb110, _, none⟩) NB112_110.out _).trans (((cell_far (p := ⟨gb110, _, none⟩) NB112_110.out _).trans (((cell_far (p := ⟨gb110, _, none⟩) NB112_110.out _).trans (((cell_far (p := ⟨gb110, _, none⟩) NB112_110.out _).trans (((cell_far (p := ⟨gb110, _, none⟩) NB112_110.out _).trans (((cell_far (p := ⟨gb110, _, none⟩) NB112_110.out _).trans (hHeld.2.2.2.2.2.2.2.2.1)))))))))))))))), ((cell_far (p := ⟨gb110, _, none⟩) NB112_110.out _).trans (((cell_far (p := ⟨gb110, _, none⟩) NB112_110.out _).trans (((cell_far (p := ⟨gb110, _, none⟩) NB112_110.out _).trans (((cell_far (p := ⟨gb110, _, none⟩) NB112_110.out _).trans (((cell_far (p := ⟨gb110, _, none⟩) NB112_110.out _).trans (((cell_far (p := ⟨gb110, _, none⟩) NB112_110.out _).trans (((cell_far (p := ⟨gb110, _, none⟩) NB112_110.out _).trans (((cell_far (p := ⟨gb110, _, none⟩) NB112_110.out _).trans (hHeld.2.2.2.2.2.2.2.2.2.1)))))))))))))))), ((cell_far (p := ⟨gb110, _, none⟩) NB112_110.out _).trans (((cell_far (p := ⟨gb110, _, none⟩) NB112_110.out _).trans (((cell_far (p := ⟨gb110, _, none⟩) NB112_110.out _).trans (((cell_far (p := ⟨gb110, _, none⟩) NB112_110.out _).trans (((cell_far (p := ⟨gb110, _, none⟩) NB112_110.out _).trans (((cell_far (p := ⟨gb110, _, none⟩) NB112_110.out _).trans (((cell_far (p := ⟨gb110, _, none⟩) NB112_110.out _).trans (((cell_far (p := ⟨gb110, _, none⟩) NB112_110.out _).trans (hHeld.2.2.2.2.2.2.2.2.2.2))))))))))))))))⟩ (fun hHeld => ?_)
    clear hK K
    refine pure_ (i := 4) (N := some 4) (v := ?_) (a' := ?_) #[true, true, true, true, true] rfl rfl (by kernel_rfl) (fun _ _ _ h => h) (Or.inl ⟨by rfl, ?_⟩) ?_ ?_
    rotate_left
    · intro w'
      go_simp
      with_reducible rfl
    rotate_left
    · simp only [Act.put, PU, i64_w, i32_w]
      rfl
    refine done_ (by kernel_rfl) ?_
    try go_wp2
    refine bodyPost_ret (results_list (rs := [.cell 2 27, .cell 3 36, .tmp 4]) rfl (by simp) (.cell gb109 27 #[.int .i64 a0_0, .slice Ao21 t118.length co21, .int .i64 a0_2] (0, 0) _ rfl (by (with_reducible repeat (first | refine blk_drewN ?_ _ | refine blk_drew ?_ | refine blk_alloc ?_ _)); refine blk_far ?_ NB109_110.out _; (with_reducible repeat (first | refine blk_drewN ?_ _ | refine blk_drew ?_ | refine blk_alloc ?_ _)); refine blk_far ?_ NB109_110.out _; (with_reducible repeat (first | refine blk_drewN ?_ _ | refine blk_drew ?_ | refine blk_alloc ?_ _)); refine blk_far ?_ NB109_110.out _; (with_reducible repeat (first | refine blk_drewN ?_ _ | refine blk_drew ?_ | refine blk_alloc ?_ _)); refine blk_far ?_ NB109_110.out _; (with_reducible repeat (first | refine blk_drewN ?_ _ | refine blk_drew ?_ | refine blk_alloc ?_ _)); refine blk_far ?_ NB109_110.out _; (with_reducible repeat (first | refine blk_drewN ?_ _ | refine blk_drew ?_ | refine blk_alloc ?_ _)); refine blk_far ?_ NB109_110.out _; (with_reducible repeat (first | refine blk_drewN ?_ _ | refine blk_drew ?_ | refine blk_alloc ?_ _)); refine blk_far ?_ NB109_110.out _; (with_reducible repeat (first | refine blk_drewN ?_ _ | refine blk_drew ?_ | refine blk_alloc ?_ _)); refine blk_far ?_ NB109_110.out _; exact BP BK109.out (by rfl)) Try.underlying27 rfl (by kernel_rfl) (.cell gb110 36 #[.int .i64 ((rd_T36 l0_1 0).f0), .int .i64 ((rd_T36 l0_1 0).f1.f0), .int .i64 ((rd_T36 l0_1 0).f1.f1), .int .i64 ((rd_T36 l0_1 0).f1.f2), .int .i64 ((rd_T36 l0_1 0).f1.f3), .int .i64 ((rd_T36 l0_1 0).f1.f4), .string ((rd_T36 l0_1 0).f1.f5), .int .i64 ((rd_T36 l0_1 0).f2)] (0, 0) _ rfl (by (with_reducible repeat (first | refine blk_drewN ?_ _ | refine blk_drew ?_ | refine blk_alloc ?_ _)); refine blk_put (cs := #[.int .i64 ((rd_T36 l0_1 0).f0), .int .i64 ((rd_T36 l0_1 0).f1.f0), .int .i64 ((rd_T36 l0_1 0).f1.f1), .int .i64 ((rd_T36 l0_1 0).f1.f2), .int .i64 ((rd_T36 l0_1 0).f1.f3), .int .i64 ((rd_T36 l0_1 0).f1.f4), .string ((rd_T36 l0_1 0).f1.f5), .int .i64 0]) ?_ 7 _ rfl; (with_reducible repeat (first | refine blk_drewN ?_ _ | refine blk_drew ?_ | refine blk_alloc ?_ _)); refine blk_put (cs := #[.int .i64 ((rd_T36 l0_1 0).f0), .int .i64 ((rd_T36 l0_1 0).f1.f0), .int .i64 ((rd_T36 l0_1 0).f1.f1), .int .i64 ((rd_T36 l0_1 0).f1.f2), .int .i64 ((rd_T36 l0_1 0).f1.f3), .int .i64 ((rd_T36 l0_1 0).f1.f4), .string (⟨#[]⟩ : ByteArray), .int .i64 0]) ?_ 6 _ rfl; (with_reducible repeat (first | refine blk_drewN ?_ _ | refine blk_drew ?_ | refine blk_alloc ?_ _)); refine blk_put (cs := #[.int .i64 ((rd_T36 l0_1 0).f0), .int .i64 ((rd_T36 l0_1 0).f1.f0), .int .i64 ((rd_T36 l0_1 0).f1.f1), .int .i64 ((rd_T36 l0_1 0).f1.f2), .int .i64 ((rd_T36 l0_1 0).f1.f3), .int .i64 0, .string (⟨#[]⟩ : ByteArray), .int .i64 0]) ?_ 5 _ rfl; (with_reducible repeat (first | refine blk_drewN ?_ _ | refine blk_drew ?_ | refine blk_alloc ?_ _)); refine blk_put (cs := #[.int .i64 ((rd_T36 l0_1 0).f0), .int .i64 ((rd_T36 l0_1 0).f1.f0), .int .i64 ((rd_T36 l0_1 0).f1.f1), .int .i64 ((rd_T36 l0_1 0).f1.f2), .int .i64 0, .int .i64 0, .string (⟨#[]⟩ : ByteArray), .int .i64 0]) ?_ 4 _ rfl; (with_reducible repeat (first | refine blk_drewN ?_ _ | refine blk_drew ?_ | refine blk_alloc ?_ _)); refine blk_put (cs := #[.int .i64 ((rd_T36 l0_1 0).f0), .int .i64 ((rd_T36 l0_1 0).f1.f0), .int .i64 ((rd_T36 l0_1 0).f1.f1), .int .i64 0, .int .i64 0, .int .i64 0, .string (⟨#[]⟩ : ByteArray), .int .i64 0]) ?_ 3 _ rfl; (with_reducible repeat (first | refine blk_drewN ?_ _ | refine blk_drew ?_ | refine blk_alloc ?_ _)); refine blk_put (cs := #[.int .i64 ((rd_T36 l0_1 0).f0), .int .i64 ((rd_T36 l0_1 0).f1.f0), .int .i64 0, .int .i64 0, .int .i64 0, .int .i64 0, .string (⟨#[]⟩ : ByteArray), .int .i64 0]) ?_ 2 _ rfl; (with_reducible repeat (first | refine blk_drewN ?_ _ | refine blk_drew ?_ | refine blk_alloc ?_ _)); refine blk_put (cs := #[.int .i64 ((rd_T36 l0_1 0).f0), .int .i64 0, .int .i64 0, .int .i64 0, .int .i64 0, .int .i64 0, .string (⟨#[]⟩ : ByteArray), .int .i64 0]) ?_ 1 _ rfl; (with_reducible repeat (first | refine blk_drewN ?_ _ | refine blk_drew ?_ | refine blk_alloc ?_ _)); refine blk_put (cs := #[.int .i64 0, .int .i64 0, .int .i64 0, .int .i64 0, .int .i64 0, .int .i64 0, .string (⟨#[]⟩ : ByteArray), .int .i64 0]) ?_ 0 _ rfl; exact BF BK110.out NB110_109.out) Try.underlying36 rfl (by kernel_rfl) (.tmp .nil)))) rfl ?_
    exact ⟨_, by first | rfl | (simp [errW_none, errW_some] <;> rfl) | (simp [*, errW_none, errW_some] <;> rfl), Kd.V_mono (Kd.R_V (Kd.R_mono (Kd.R_ms (gs := [gb110, gb109]) (Kd.R_mono (Kd.R_types HO120.out BK109.out (by decide)) (fun k_ hk => (⟨hk, hk.1.2.1⟩ : _ ∧ k_ ≠ gb110))) (fun _ hk => N1 (hk.2) (N1 (hk.1.2) (N0)))) (fun _ hk => hk.1.1.1))) (fun k_ hk => by first | exact ⟨(.inr (hk.1)), hk.2⟩ | exact (.inr (hk))), LG HB.out (G1 GE108.out (G1 GE109.out (G1 GE110.out (G1 GE112.out G0))))⟩
  · rw [if_neg c2] at H
    have c2b0 : decide (0 < (l0_1.length : Int)) = false := decide_eq_false c2
    have c2b1 : decide (0 < l0_1.length) = false := decide_eq_false (by omega)
    clear c2
    by_cases c36 : a0_2 > 0
    · rw [if_pos c36] at H
      have c36b0 : decide (0 < a0_2) = true := decide_eq_true c36
      clear c36
      simp only [Option.some.injEq, Prod.mk.injEq] at H
      obtain ⟨rfl, rfl, rfl, rfl, rfl, rfl, rfl, rfl, rfl, rfl, rfl, rfl⟩ := H
      go_enter Try.func13, Try.ntmps13
      try go_wp2_with (first | ((with_reducible refine gate_dst (N := 1) rfl ?_); refine box_event ?hg (N := 1) ?hd (cs := #[.int .i64 a0_0, .slice A0_1 l0_1.length c0_1, .int .i64 a0_2]) (t := 27) ?hr ?_; (case hd => rfl); (case hg => rfl); (case hr => first | (go_simp; done) | (go_simp; rfl)); intro gb108 hg w37 hbox hb; replace HO0_1 := Aside0.mk (Kd.V_below (Kd.V_elderB (Kd.VA HO0_1.out) gb108 (Nat.le_of_eq hg.symm)) hb); have BK108 := Aside0.mk (hbox); have GE108 := Aside0.mk (ge1 hg (LA HB.out)); replace HB := Aside0.mk (below_step (LA HB.out) hb); clear hb hbox hg) | ((with_reducible refine gate_dst (N := 2) rfl ?_); refine box_event ?hg (N := 2) ?hd (cs := #[.int .i64 0, .slice none 0 0, .int .i64 0]) (t := 27) ?hr ?_; (case hd => rfl); (case hg => rfl); (case hr => first | (go_simp; done) | (go_simp; rfl)); intro gb109 hg w38 hbox hb; replace HO0_1 := Aside0.mk (Kd.V_below (Kd.V_elderB (Kd.VA HO0_1.out) gb109 (Nat.le_of_eq hg.symm)) hb); have BK109 := Aside0.mk (hbox); have GE109 := Aside0.mk (ge1 hg (LA HB.out)); replace HB := Aside0.mk (below_step (LA HB.out) hb); have NB108_109 := Aside0.mk ((by rw [hg]; exact Nat.ne_of_lt (blk_lt (g := gb108) (o := .cells #[.int .i64 a0_0, .slice A0_1 l0_1.length c0_1, .int .i64 a0_2] 27 (0, 0)) (BA BK108.out)) : gb108 ≠ gb109)); have NB109_108 := Aside0.mk ((by rw [hg]; exact Nat.ne_of_gt (blk_lt (g := gb108) (o := .cells #[.int .i64 a0_0, .slice A0_1 l0_1.length c0_1, .int .i64 a0_2] 27 (0, 0)) (BA BK108.out)) : gb109 ≠ gb108)); replace BK108 := Aside0.mk (blk_below (BA BK108.out) hb); clear hb hbox hg) | ((with_reducible refine gate_dst (N := 3) rfl ?_); refine box_event ?hg (N := 3) ?hd (cs := #[.int .i64 0, .int .i64 0, .int .i64 0, .int .i64 0, .int .i64 0, .int .i64 0, .string (⟨#[]⟩ : ByteArray), .int .i64 0]) (t := 36) ?hr ?_; (case hd => rfl); (case hg => rfl); (case hr => first | (go_simp; done) | (go_simp; rfl)); intro gb110 hg w39 hbox hb; replace HO0_1 := Aside0.mk (Kd.V_below (Kd.V_elderB (Kd.VA HO0_1.out) gb110 (Nat.le_of_eq hg.symm)) hb); have BK110 := Aside0.mk (hbox); have GE110 := Aside0.mk (ge1 hg (LA HB.out)); replace HB := Aside0.mk (below_step (LA HB.out) hb); have NB108_110 := Aside0.mk ((by rw [hg]; exact Nat.ne_of_lt (blk_lt (g := gb108) (o := .cells #[.int .i64 a0_0, .slice A0_1 l0_1.length c0_1, .int .i64 a0_2] 27 (0, 0)) (BA BK108.out)) : gb108 ≠ gb110)); have NB110_108 := Aside0.mk ((by rw [hg]; exact Nat.ne_of_gt (blk_lt (g := gb108) (o := .cells #[.int .i64 a0_0, .slice A0_1 l0_1.length c0_1, .int .i64 a0_2] 27 (0, 0)) (BA BK108.out)) : gb110 ≠ gb108)); replace BK108 := Aside0.mk (blk_below (BA BK108.out) hb); have NB109_110 := Aside0.mk ((by rw [hg]; exact Nat.ne_of_lt (blk_lt (g := gb109) (o := .cells #[.int .i64 0, .slice none 0 0, .int .i64 0] 27 (0, 0)) (BA BK109.out)) : gb109 ≠ gb110)); have NB110_109 := Aside0.mk ((by rw [hg]; exact Nat.ne_of_gt (blk_lt (g := gb109) (o := .cells #[.int .i64 0, .slice none 0 0, .int .i64 0] 27 (0, 0)) (BA BK109.out)) : gb110 ≠ gb109)); replace BK109 := Aside0.mk (blk_below (BA BK109.out) hb); clear hb hbox hg; have hnb40 := NB108_109.out; have hnc40 := NB109_108.out; have hnb41 := NB108_110.out; have hnc41 := NB110_108.out; obtain ⟨hcz42_0, hcz42_1, hcz42_2, hfz42_0, hfz42_1, hfz42_2⟩ := cz3 BK108.out) | ((with_reducible refine gate_dst (N := 6) rfl ?_); refine box_event ?hg (N := 6) ?hd (cs := #[.int .i64 0, .int .i64 0, .int .i64 0, .int .i64 0, .int .i64 0, .int .i64 0, .string (⟨#[]⟩ : ByteArray), .int .i64 0]) (t := 36) ?hr ?_; (case hd => rfl); (case hg => rfl); (case hr => first | (go_simp; done) | (go_simp; rfl)); intro gb121 hg w43 hbox hb; replace HO0_1 := Aside0.mk (Kd.V_below (Kd.V_elderB (Kd.VA HO0_1.out) gb121 (Nat.le_of_eq hg.symm)) hb); have BK121 := Aside0.mk (hbox); have GE121 := Aside0.mk (ge1 hg (LA HB.out)); replace HB := Aside0.mk (below_step (LA HB.out) hb); have NB108_121 := Aside0.mk ((by rw [hg]; exact Nat.ne_of_lt (blk_lt (g := gb108) (o := .cells #[.int .i64 a0_0, .slice A0_1 l0_1.length c0_1, .int .i64 a0_2] 27 (0, 0)) (BA BK108.out)) : gb108 ≠ gb121)); have NB121_108 := Aside0.mk ((by rw [hg]; exact Nat.ne_of_gt (blk_lt (g := gb108) (o := .cells #[.int .i64 a0_0, .slice A0_1 l0_1.length c0_1, .int .i64 a0_2] 27 (0, 0)) (BA BK108.out)) : gb121 ≠ gb108)); replace BK108 := Aside0.mk (blk_below (BA BK108.out) hb); have NB109_121 := Aside0.mk ((by rw [hg]; exact Nat.ne_of_lt (blk_lt (g := gb109) (o := .cells #[.int .i64 0, .slice none 0 0, .int .i64 0] 27 (0, 0)) (BA BK109.out)) : gb109 ≠ gb121)); have NB121_109 := Aside0.mk ((by rw [hg]; exact Nat.ne_of_gt (blk_lt (g := gb109) (o := .cells #[.int .i64 0, .slice none 0 0, .int .i64 0] 27 (0, 0)) (BA BK109.out)) : gb121 ≠ gb109)); replace BK109 := Aside0.mk (blk_below (BA BK109.out) hb); have NB110_121 := Aside0.mk ((by rw [hg]; exact Nat.ne_of_lt (blk_lt (g := gb110) (o := .cells #[.int .i64 0, .int .i64 0, .int .i64 0, .int .i64 0, .int .i64 0, .int .i64 0, .string (⟨#[]⟩ : ByteArray), .int .i64 0] 36 (0, 0)) (BA BK110.out)) : gb110 ≠ gb121)); have NB121_110 := Aside0.mk ((by rw [hg]; exact Nat.ne_of_gt (blk_lt (g := gb110) (o := .cells #[.int .i64 0, .int .i64 0, .int .i64 0, .int .i64 0, .int .i64 0, .int .i64 0, .string (⟨#[]⟩ : ByteArray), .int .i64 0] 36 (0, 0)) (BA BK110.out)) : gb121 ≠ gb110)); replace BK110 := Aside0.mk (blk_below (BA BK110.out) hb); clear hb hbox hg; have hnb44 := NB121_108.out; have hnc44 := NB108_121.out; have hnb45 := NB121_109.out; have hnc45 := NB109_121.out; have hnb46 := NB121_110.out; have hnc46 := NB110_121.out; obtain ⟨hcz47_0, hcz47_1, hcz47_2, hcz47_3, hcz47_4, hcz47_5, hcz47_6, hcz47_7, hfz47_0, hfz47_1, hfz47_2, hfz47_3, hfz47_4, hfz47_5, hfz47_6, hfz47_7⟩ := cz8 BK121.out; obtain ⟨hcz48_0, hcz48_1, hcz48_2, hfz48_0, hfz48_1, hfz48_2⟩ := cz3 BK108.out))
      have n0_ : Aside0 (Kd.V k36 36 (((((((((w43.setCell ⟨gb121, 0, none⟩ (.int .i64 4)).setCell ⟨gb121, 1, none⟩ (.int .i64 0)).setCell ⟨gb121, 2, none⟩ (.int .i64 0)).setCell ⟨gb121, 3, none⟩ (.int .i64 0)).setCell ⟨gb121, 4, none⟩ (.int .i64 0)).setCell ⟨gb121, 5, none⟩ (.int .i64 0)).setCell ⟨gb121, 6, none⟩ (.string (⟨#[]⟩ : ByteArray))).setCell ⟨gb121, 7, none⟩ (.int .i64 a0_2)).setCell ⟨gb108, 2, none⟩ (.int .i64 0)) w.heap.size (fun k_ => (P0_1_ k_ ∨ w.heap.size ≤ k_) ∧ k_ ≠ gb108 ∧ k_ ≠ gb109 ∧ k_ ≠ gb110 ∧ k_ ≠ gb121) (.slice A0_1 l0_1.length c0_1) l0_1) := ⟨by (with_reducible repeat (first | apply Kd.V_alloc | apply Kd.V_drewN | apply Kd.V_drew)); exact Kd.V_mono (Kd.V_ms (gs := [gb108, gb121]) (Kd.V_mono (Kd.V_mono HO0_1.out (fun k_ hk => (⟨hk, hk.2⟩ : _ ∧ k_ ≠ gb121))) (fun k_ hk => (⟨hk, hk.1.1.1.1.2⟩ : _ ∧ k_ ≠ gb108))) (fun _ hk => N1 (hk.2) (N1 (hk.1.2) (N0)))) (fun _ hk => ⟨hk.1.1.1.1.1.1, ⟨hk.1.1.1.1.1.2, ⟨hk.1.1.1.1.2, ⟨hk.1.1.1.2, hk.1.1.2⟩⟩⟩⟩)⟩
      have n1_ : Aside0 ((((((((((w43.setCell ⟨gb121, 0, none⟩ (.int .i64 4)).setCell ⟨gb121, 1, none⟩ (.int .i64 0)).setCell ⟨gb121, 2, none⟩ (.int .i64 0)).setCell ⟨gb121, 3, none⟩ (.int .i64 0)).setCell ⟨gb121, 4, none⟩ (.int .i64 0)).setCell ⟨gb121, 5, none⟩ (.int .i64 0)).setCell ⟨gb121, 6, none⟩ (.string (⟨#[]⟩ : ByteArray))).setCell ⟨gb121, 7, none⟩ (.int .i64 a0_2)).setCell ⟨gb108, 2, none⟩ (.int .i64 0)).heap[gb108]? = some (.cells #[.int .i64 a0_0, .slice A0_1 l0_1.length c0_1, .int .i64 0] 27 (0, 0))) := ⟨by (with_reducible repeat (first | refine blk_drewN ?_ _ | refine blk_drew ?_ | refine blk_alloc ?_ _)); refine blk_put (cs := #[.int .i64 a0_0, .slice A0_1 l0_1.length c0_1, .int .i64 a0_2]) ?_ 2 _ rfl; exact BF BK108.out NB108_121.out⟩
      have n2_ : Aside0 ((((((((((w43.setCell ⟨gb121, 0, none⟩ (.int .i64 4)).setCell ⟨gb121, 1, none⟩ (.int .i64 0)).setCell ⟨gb121, 2, none⟩ (.int .i64 0)).setCell ⟨gb121, 3, none⟩ (.int .i64 0)).setCell ⟨gb121, 4, none⟩ (.int .i64 0)).setCell ⟨gb121, 5, none⟩ (.int .i64 0)).setCell ⟨gb121, 6, none⟩ (.string (⟨#[]⟩ : ByteArray))).setCell ⟨gb121, 7, none⟩ (.int .i64 a0_2)).setCell ⟨gb108, 2, none⟩ (.int .i64 0)).heap[gb109]? = some (.cells #[.int .i64 0, .slice none 0 0, .int .i64 0] 27 (0, 0))) := ⟨by exact BM BK109.out (N1 NB109_121.out (N1 NB109_108.out N0))⟩
      have n3_ : Aside0 ((((((((((w43.setCell ⟨gb121, 0, none⟩ (.int .i64 4)).setCell ⟨gb121, 1, none⟩ (.int .i64 0)).setCell ⟨gb121, 2, none⟩ (.int .i64 0)).setCell ⟨gb121, 3, none⟩ (.int .i64 0)).setCell ⟨gb121, 4, none⟩ (.int .i64 0)).setCell ⟨gb121, 5, none⟩ (.int .i64 0)).setCell ⟨gb121, 6, none⟩ (.string (⟨#[]⟩ : ByteArray))).setCell ⟨gb121, 7, none⟩ (.int .i64 a0_2)).setCell ⟨gb108, 2, none⟩ (.int .i64 0)).heap[gb110]? = some (.cells #[.int .i64 0, .int .i64 0, .int .i64 0, .int .i64 0, .int .i64 0, .int .i64 0, .string (⟨#[]⟩ : ByteArray), .int .i64 0] 36 (0, 0))) := ⟨by exact BM BK110.out (N1 NB110_121.out (N1 NB110_108.out N0))⟩
      have n4_ : Aside0 ((((((((((w43.setCell ⟨gb121, 0, none⟩ (.int .i64 4)).setCell ⟨gb121, 1, none⟩ (.int .i64 0)).setCell ⟨gb121, 2, none⟩ (.int .i64 0)).setCell ⟨gb121, 3, none⟩ (.int .i64 0)).setCell ⟨gb121, 4, none⟩ (.int .i64 0)).setCell ⟨gb121, 5, none⟩ (.int .i64 0)).setCell ⟨gb121, 6, none⟩ (.string (⟨#[]⟩ : ByteArray))).setCell ⟨gb121, 7, none⟩ (.int .i64 a0_2)).setCell ⟨gb108, 2, none⟩ (.int .i64 0)).heap[gb121]? = some (.cells #[.int .i64 4, .int .i64 0, .int .i64 0, .int .i64 0, .int .i64 0, .int .i64 0, .string (⟨#[]⟩ : ByteArray), .int .i64 a0_2] 36 (0, 0))) := ⟨by (with_reducible repeat (first | refine blk_drewN ?_ _ | refine blk_drew ?_ | refine blk_alloc ?_ _)); refine blk_far ?_ NB121_108.out _; exact BP BK121.out (by rfl)⟩
      have n5_ : Aside0 (Below w.heap.size w (((((((((w43.setCell ⟨gb121, 0, none⟩ (.int .i64 4)).setCell ⟨gb121, 1, none⟩ (.int .i64 0)).setCell ⟨gb121, 2, none⟩ (.int .i64 0)).setCell ⟨gb121, 3, none⟩ (.int .i64 0)).setCell ⟨gb121, 4, none⟩ (.int .i64 0)).setCell ⟨gb121, 5, none⟩ (.int .i64 0)).setCell ⟨gb121, 6, none⟩ (.string (⟨#[]⟩ : ByteArray))).setCell ⟨gb121, 7, none⟩ (.int .i64 a0_2)).setCell ⟨gb108, 2, none⟩ (.int .i64 0))) := ⟨LG HB.out (G1 GE108.out (G1 GE109.out (G1 GE110.out (G1 GE121.out G0))))⟩
      (try clear HO0_1)
      (try clear BK108)
      (try clear BK109)
      (try clear BK110)
      (try clear BK121)
      (try clear HB)
      generalize (((((((((w43.setCell ⟨gb121, 0, none⟩ (.int .i64 4)).setCell ⟨gb121, 1, none⟩ (.int .i64 0)).setCell ⟨gb121, 2, none⟩ (.int .i64 0)).setCell ⟨gb121, 3, none⟩ (.int .i64 0)).setCell ⟨gb121, 4, none⟩ (.int .i64 0)).setCell ⟨gb121, 5, none⟩ (.int .i64 0)).setCell ⟨gb121, 6, none⟩ (.string (⟨#[]⟩ : ByteArray))).setCell ⟨gb121, 7, none⟩ (.int .i64 a0_2)).setCell ⟨gb108, 2, none⟩ (.int .i64 0)) = w49 at n0_ n1_ n2_ n3_ n4_ n5_ ⊢
      have HO0_1 := n0_
      have BK108 := n1_
      have BK109 := n2_
      have BK110 := n3_
      have BK121 := n4_
      have HB := n5_
      clear n0_ n1_ n2_ n3_ n4_ n5_
      have n0_ := Aside0.mk (Kd.V_drew HO0_1.out)
      have n1_ := Aside0.mk (blk_drew BK108.out)
      have n2_ := Aside0.mk (blk_drew BK109.out)
      have n3_ := Aside0.mk (blk_drew BK110.out)
      have n4_ := Aside0.mk (blk_drew BK121.out)
      have n5_ := Aside0.mk (below_drew1 HB.out)
      clear HO0_1
      clear BK108
      clear BK109
      clear BK110
      clear BK121
      clear HB
      have HO0_1 := n0_
      have BK108 := n1_
      have BK109 := n2_
      have BK110 := n3_
      have BK121 := n4_
      have HB := n5_
      clear n0_ n1_ n2_ n3_ n4_ n5_
      refine start_ (n := 5) (S := fun w' => w'.cell? ⟨gb108, 0, none⟩ = some (.int .i64 a0_0) ∧ w'.cell? ⟨gb108, 1, none⟩ = some (.slice A0_1 l0_1.length c0_1) ∧ w'.cell? ⟨gb108, 2, none⟩ = some (.int .i64 0) ∧ w'.cell? ⟨gb121, 0, none⟩ = some (.int .i64 4) ∧ w'.cell? ⟨gb121, 1, none⟩ = some (.int .i64 0) ∧ w'.cell? ⟨gb121, 2, none⟩ = some (.int .i64 0) ∧ w'.cell? ⟨gb121, 3, none⟩ = some (.int .i64 0) ∧ w'.cell? ⟨gb121, 4, none⟩ = some (.int .i64 0) ∧ w'.cell? ⟨gb121, 5, none⟩ = some (.int .i64 0) ∧ w'.cell? ⟨gb121, 6, none⟩ = some (.string (⟨#[]⟩ : ByteArray)) ∧ w'.cell? ⟨gb121, 7, none⟩ = some (.int .i64 a0_2)) (ds := []) #[false, false, false, false, false] (by kernel_rfl) rfl rfl ⟨(blk_cell BK108.out 0).trans rfl, (blk_cell BK108.out 1).trans rfl, (blk_cell BK108.out 2).trans rfl, (blk_cell BK121.out 0).trans rfl, (blk_cell BK121.out 1).trans rfl, (blk_cell BK121.out 2).trans rfl, (blk_cell BK121.out 3).trans rfl, (blk_cell BK121.out 4).trans rfl, (blk_cell BK121.out 5).trans rfl, (blk_cell BK121.out 6).trans rfl, (blk_cell BK121.out 7).trans rfl⟩ (fun hHeld => ?_)
      generalize w49.drew = w50 at HO0_1 BK108 BK109 BK110 BK121 HB hHeld ⊢
      refine take_ (i := 0) (N := some 31) (v := ?_) (a' := ?_) #[true, false, false, false, false] rfl rfl (by kernel_rfl) (fun _ _ _ h => h) (Or.inl ⟨by rfl, ?_⟩) hHeld ?_ ?_
      rotate_left
      · rintro w' ⟨s0, s1, s2, s3, s4, s5, s6, s7, s8, s9, s10⟩
        go_simp
        with_reducible rfl
      rotate_left
      · simp only [Act.put, PU, i64_w, i32_w]
        rfl
      refine take_ (i := 1) (N := some 32) (v := ?_) (a' := ?_) #[true, true, false, false, false] rfl rfl (by kernel_rfl) (fun _ _ _ h => h) (Or.inl ⟨by rfl, ?_⟩) hHeld ?_ ?_
      rotate_left
      · rintro w' ⟨s0, s1, s2, s3, s4, s5, s6, s7, s8, s9, s10⟩
        go_simp
        with_reducible rfl
      rotate_left
      · simp only [Act.put, PU, i64_w, i32_w]
        rfl
      refine one_ (i := 2) (N := none) #[true, true, true, false, false] rfl rfl (by kernel_rfl) (by decide) (fun K hK => ?_)
      have hs51 : w50.cell? ⟨gb109, 0, none⟩ = some (.int .i64 0) := (blk_cell BK109.out 0).trans rfl
      have hfs51 := blk_frozen BK109.out 0
      have hns51_0 := NB108_109.out
      have hns51_2 := NB110_109.out
      have hns51_3 := NB121_109.out
      have hms51_0 := NB109_108.out
      have hms51_2 := NB109_110.out
      have hms51_3 := NB109_121.out
      have hs52 : w50.cell? ⟨gb109, 1, none⟩ = some (.slice none 0 0) := (blk_cell BK109.out 1).trans rfl
      have hfs52 := blk_frozen BK109.out 1
      have hns52_0 := NB108_109.out
      have hns52_2 := NB110_109.out
      have hns52_3 := NB121_109.out
      have hms52_0 := NB109_108.out
      have hms52_2 := NB109_110.out
      have hms52_3 := NB109_121.out
      have hs53 : w50.cell? ⟨gb109, 2, none⟩ = some (.int .i64 0) := (blk_cell BK109.out 2).trans rfl
      have hfs53 := blk_frozen BK109.out 2
      have hns53_0 := NB108_109.out
      have hns53_2 := NB110_109.out
      have hns53_3 := NB121_109.out
      have hms53_0 := NB109_108.out
      have hms53_2 := NB109_110.out
      have hms53_3 := NB109_121.out
      refine skip_ (w1 := ?_) (by rfl) rfl ?_ ?_
      rotate_left
      · go_simp
        rfl
      refine hK.out _ _ ⟨((cell_far (p := ⟨gb109, _, none⟩) NB108_109.out _).trans (((cell_far (p := ⟨gb109, _, none⟩) NB108_109.out _).trans (((cell_far (p := ⟨gb109, _, none⟩) NB108_109.out _).trans (hHeld.1)))))), ((cell_far (p := ⟨gb109, _, none⟩) NB108_109.out _).trans (((cell_far (p := ⟨gb109, _, none⟩) NB108_109.out _).trans (((cell_far (p := ⟨gb109, _, none⟩) NB108_109.out _).trans (hHeld.2.1)))))), ((cell_far (p := ⟨gb109, _, none⟩) NB108_109.out _).trans (((cell_far (p := ⟨gb109, _, none⟩) NB108_109.out _).trans (((cell_far (p := ⟨gb109, _, none⟩) NB108_109.out _).trans (hHeld.2.2.1)))))), ((cell_far (p := ⟨gb109, _, none⟩) NB121_109.out _).trans (((cell_far (p := ⟨gb109, _, none⟩) NB121_109.out _).trans (((cell_far (p := ⟨gb109, _, none⟩) NB121_109.out _).trans (hHeld.2.2.2.1)))))), ((cell_far (p := ⟨gb109, _, none⟩) NB121_109.out _).trans (((cell_far (p := ⟨gb109, _, none⟩) NB121_109.out _).trans (((cell_far (p := ⟨gb109, _, none⟩) NB121_109.out _).trans (hHeld.2.2.2.2.1)))))), ((cell_far (p := ⟨gb109, _, none⟩) NB121_109.out _).trans (((cell_far (p := ⟨gb109, _, none⟩) NB121_109.out _).trans (((cell_far (p := ⟨gb109, _, none⟩) NB121_109.out _).trans (hHeld.2.2.2.2.2.1)))))), ((cell_far (p := ⟨gb109, _, none⟩) NB121_109.out _).trans (((cell_far (p := ⟨gb109, _, none⟩) NB121_109.out _).trans (((cell_far (p := ⟨gb109, _, none⟩) NB121_109.out _).trans (hHeld.2.2.2.2.2.2.1)))))), ((cell_far (p := ⟨gb109, _, none⟩) NB121_109.out _).trans (((cell_far (p := ⟨gb109, _, none⟩) NB121_109.out _).trans (((cell_far (p := ⟨gb109, _, none⟩) NB121_109.out _).trans (hHeld.2.2.2.2.2.2.2.1)))))), ((cell_far (p := ⟨gb109, _, none⟩) NB121_109.out _).trans (((cell_far (p := ⟨gb109, _, none⟩) NB121_109.out _).trans (((cell_far (p := ⟨gb109, _, none⟩) NB121_109.out _).trans (hHeld.2.2.2.2.2.2.2.2.1)))))), ((cell_far (p := ⟨gb109, _, none⟩) NB121_109.out _).trans (((cell_far (p := ⟨gb109, _, none⟩) NB121_109.out _).trans (((cell_far (p := ⟨gb109, _, none⟩) NB121_109.out _).trans (hHeld.2.2.2.2.2.2.2.2.2.1)))))), ((cell_far (p := ⟨gb109, _, none⟩) NB121_109.out _).trans (((cell_far (p := ⟨gb109, _, none⟩) NB121_109.out _).trans (((cell_far (p := ⟨gb109, _, none⟩) NB121_109.out _).trans (hHeld.2.2.2.2.2.2.2.2.2.2))))))⟩ (fun hHeld => ?_)
      clear hK K
      refine one_ (i := 3) (N := none) #[true, true, true, true, false] rfl rfl (by kernel_rfl) (by decide) (fun K hK => ?_)
      have hs54 : w50.cell? ⟨gb110, 0, none⟩ = some (.int .i64 0) := (blk_cell BK110.out 0).trans rfl
      have hfs54 := blk_frozen BK110.out 0
      have hns54_0 := NB108_110.out
      have hns54_1 := NB109_110.out
      have hns54_3 := NB121_110.out
      have hms54_0 := NB110_108.out
      have hms54_1 := NB110_109.out
      have hms54_3 := NB110_121.out
      have hs55 : w50.cell? ⟨gb110, 1, none⟩ = some (.int .i64 0) := (blk_cell BK110.out 1).trans rfl
      have hfs55 := blk_frozen BK110.out 1
      have hns55_0 := NB108_110.out
      have hns55_1 := NB109_110.out
      have hns55_3 := NB121_110.out
      have hms55_0 := NB110_108.out
      have hms55_1 := NB110_109.out
      have hms55_3 := NB110_121.out
      have hs56 : w50.cell? ⟨gb110, 2, none⟩ = some (.int .i64 0) := (blk_cell BK110.out 2).trans rfl
      have hfs56 := blk_frozen BK110.out 2
      have hns56_0 := NB108_110.out
      have hns56_1 := NB109_110.out
      have hns56_3 := NB121_110.out
      have hms56_0 := NB110_108.out
      have hms56_1 := NB110_109.out
      have hms56_3 := NB110_121.out
      have hs57 : w50.cell? ⟨gb110, 3, none⟩ = some (.int .i64 0) := (blk_cell BK110.out 3).trans rfl
      have hfs57 := blk_frozen BK110.out 3
      have hns57_0 := NB108_110.out
      have hns57_1 := NB109_110.out
      have hns57_3 := NB121_110.out
      have hms57_0 := NB110_108.out
      have hms57_1 := NB110_109.out
      have hms57_3 := NB110_121.out
      have hs58 : w50.cell? ⟨gb110, 4, none⟩ = some (.int .i64 0) := (blk_cell BK110.out 4).trans rfl
      have hfs58 := blk_frozen BK110.out 4
      have hns58_0 := NB108_110.out
      have hns58_1 := NB109_110.out
      have hns58_3 := NB121_110.out
      have hms58_0 := NB110_108.out
      have hms58_1 := NB110_109.out
      have hms58_3 := NB110_121.out
      have hs59 : w50.cell? ⟨gb110, 5, none⟩ = some (.int .i64 0) := (blk_cell BK110.out 5).trans rfl
      have hfs59 := blk_frozen BK110.out 5
      have hns59_0 := NB108_110.out
      have hns59_1 := NB109_110.out
      have hns59_3 := NB121_110.out
      have hms59_0 := NB110_108.out
      have hms59_1 := NB110_109.out
      have hms59_3 := NB110_121.out
      have hs60 : w50.cell? ⟨gb110, 6, none⟩ = some (.string (⟨#[]⟩ : ByteArray)) := (blk_cell BK110.out 6).trans rfl
      have hfs60 := blk_frozen BK110.out 6
      have hns60_0 := NB108_110.out
      have hns60_1 := NB109_110.out
      have hns60_3 := NB121_110.out
      have hms60_0 := NB110_108.out
      have hms60_1 := NB110_109.out
      have hms60_3 := NB110_121.out
      have hs61 : w50.cell? ⟨gb110, 7, none⟩ = some (.int .i64 0) := (blk_cell BK110.out 7).trans rfl
      have hfs61 := blk_frozen BK110.out 7
      have hns61_0 := NB108_110.out
      have hns61_1 := NB109_110.out
      have hns61_3 := NB121_110.out
      have hms61_0 := NB110_108.out
      have hms61_1 := NB110_109.out
      have hms61_3 := NB110_121.out
      refine skip_ (w1 := ?_) (by rfl) rfl ?_ ?_
      rotate_left
      · go_simp
        rfl
      refine hK.out _ _ ⟨((cell_far (p := ⟨gb110, _, none⟩) NB108_110.out _).trans (((cell_far (p := ⟨gb110, _, none⟩) NB108_110.out _).trans (((cell_far (p := ⟨gb110, _, none⟩) NB108_110.out _).trans (((cell_far (p := ⟨gb110, _, none⟩) NB108_110.out _).trans (((cell_far (p := ⟨gb110, _, none⟩) NB108_110.out _).trans (((cell_far (p := ⟨gb110, _, none⟩) NB108_110.out _).trans (((cell_far (p := ⟨gb110, _, none⟩) NB108_110.out _).trans (((cell_far (p := ⟨gb110, _, none⟩) NB108_110.out _).trans (hHeld.1)))))))))))))))), ((cell_far (p := ⟨gb110, _, none⟩) NB108_110.out _).trans (((cell_far (p := ⟨gb110, _, none⟩) NB108_110.out _).trans (((cell_far (p := ⟨gb110, _, none⟩) NB108_110.out _).trans (((cell_far (p := ⟨gb110, _, none⟩) NB108_110.out _).trans (((cell_far (p := ⟨gb110, _, none⟩) NB108_110.out _).trans (((cell_far (p := ⟨gb110, _, none⟩) NB108_110.out _).trans (((cell_far (p := ⟨gb110, _, none⟩) NB108_110.out _).trans (((cell_far (p := ⟨gb110, _, none⟩) NB108_110.out _).trans (hHeld.2.1)))))))))))))))), ((cell_far (p := ⟨gb110, _, none⟩) NB108_110.out _).trans (((cell_far (p := ⟨gb110, _, none⟩) NB108_110.out _).trans (((cell_far (p := ⟨gb110, _, none⟩) NB108_110.out _).trans (((cell_far (p := ⟨gb110, _, none⟩) NB108_110.out _).trans (((cell_far (p := ⟨gb110, _, none⟩) NB108_110.out _).trans (((cell_far (p := ⟨gb110, _, none⟩) NB108_110.out _).trans (((cell_far (p := ⟨gb110, _, none⟩) NB108_110.out _).trans (((cell_far (p := ⟨gb110, _, none⟩) NB108_110.out _).trans (hHeld.2.2.1)))))))))))))))), ((cell_far (p := ⟨gb110, _, none⟩) NB121_110.out _).trans (((cell_far (p := ⟨gb110, _, none⟩) NB121_110.out _).trans (((cell_far (p := ⟨gb110, _, none⟩) NB121_110.out _).trans (((cell_far (p := ⟨gb110, _, none⟩) NB121_110.out _).trans (((cell_far (p := ⟨gb110, _, none⟩) NB121_110.out _).trans (((cell_far (p := ⟨gb110, _, none⟩) NB121_110.out _).trans (((cell_far (p := ⟨gb110, _, none⟩) NB121_110.out _).trans (((cell_far (p := ⟨gb110, _, none⟩) NB121_110.out _).trans (hHeld.2.2.2.1)))))))))))))))), ((cell_far (p := ⟨gb110, _, none⟩) NB121_110.out _).trans (((cell_far (p := ⟨gb110, _, none⟩) NB121_110.out _).trans (((cell_far (p := ⟨gb110, _, none⟩) NB121_110.out _).trans (((cell_far (p := ⟨gb110, _, none⟩) NB121_110.out _).trans (((cell_far (p := ⟨gb110, _, none⟩) NB121_110.out _).trans (((cell_far (p := ⟨gb110, _, none⟩) NB121_110.out _).trans (((cell_far (p := ⟨gb110, _, none⟩) NB121_110.out _).trans (((cell_far (p := ⟨gb110, _, none⟩) NB121_110.out _).trans (hHeld.2.2.2.2.1)))))))))))))))), ((cell_far (p := ⟨gb110, _, none⟩) NB121_110.out _).trans (((cell_far (p := ⟨gb110, _, none⟩) NB121_110.out _).trans (((cell_far (p := ⟨gb110, _, none⟩) NB121_110.out _).trans (((cell_far (p := ⟨gb110, _, none⟩) NB121_110.out _).trans (((cell_far (p := ⟨gb110, _, none⟩) NB121_110.out _).trans (((cell_far (p := ⟨gb110, _, none⟩) NB121_110.out _).trans (((cell_far (p := ⟨gb110, _, none⟩) NB121_110.out _).trans (((cell_far (p := ⟨gb110, _, none⟩) NB121_110.out _).trans (hHeld.2.2.2.2.2.1)))))))))))))))), ((cell_far (p := ⟨gb110, _, none⟩) NB121_110.out _).trans (((cell_far (p := ⟨gb110, _, none⟩) NB121_110.out _).trans (((cell_far (p := ⟨gb110, _, none⟩) NB121_110.out _).trans (((cell_far (p := ⟨gb110, _, none⟩) NB121_110.out _).trans (((cell_far (p := ⟨gb110, _, none⟩) NB121_110.out _).trans (((cell_far (p := ⟨gb110, _, none⟩) NB121_110.out _).trans (((cell_far (p := ⟨gb110, _, none⟩) NB121_110.out _).trans (((cell_far (p := ⟨gb110, _, none⟩) NB121_110.out _).trans (hHeld.2.2.2.2.2.2.1)))))))))))))))), ((cell_far (p := ⟨gb110, _, none⟩) NB121_110.out _).trans (((cell_far (p := ⟨gb110, _, none⟩) NB121_110.out _).trans (((cell_far (p := ⟨gb110, _, none⟩) NB121_110.out _).trans (((cell_far (p := ⟨gb110, _, none⟩) NB121_110.out _).trans (((cell_far (p := ⟨gb110, _, none⟩) NB121_110.out _).trans (((cell_far (p := ⟨gb110, _, none⟩) NB121_110.out _).trans (((cell_far (p := ⟨gb110, _, none⟩) NB121_110.out _).trans (((cell_far (p := ⟨gb110, _, none⟩) NB121_110.out _).trans (hHeld.2.2.2.2.2.2.2.1)))))))))))))))), ((cell_far (p := ⟨gb110, _, none⟩) NB121_110.out _).trans (((cell_far (p := ⟨gb110, _, none⟩) NB121_110.out _).trans (((cell_far (p := ⟨gb110, _, none⟩) NB121_110.out _).trans (((cell_far (p := ⟨gb110, _, none⟩) NB121_110.out _).trans (((cell_far (p := ⟨gb110, _, none⟩) NB121_110.out _).trans (((cell_far (p := ⟨gb110, _, none⟩) NB121_110.out _).trans (((cell_far (p := ⟨gb110, _, none⟩) NB121_110.out _).trans (((cell_far (p := ⟨gb110, _, none⟩) NB121_110.out _).trans (hHeld.2.2.2.2.2.2.2.2.1)))))))))))))))), ((cell_far (p := ⟨gb110, _, none⟩) NB121_110.out _).trans (((cell_far (p := ⟨gb110, _, none⟩) NB121_110.out _).trans (((cell_far (p := ⟨gb110, _, none⟩) NB121_110.out _).trans (((cell_far (p := ⟨gb110, _, none⟩) NB121_110.out _).trans (((cell_far (p := ⟨gb110, _, none⟩) NB121_110.out _).trans (((cell_far (p := ⟨gb110, _, none⟩) NB121_110.out _).trans (((cell_far (p := ⟨gb110, _, none⟩) NB121_110.out _).trans (((cell_far (p := ⟨gb110, _, none⟩) NB121_110.out _).trans (hHeld.2.2.2.2.2.2.2.2.2.1)))))))))))))))), ((cell_far (p := ⟨gb110, _, none⟩) NB121_110.out _).trans (((cell_far (p := ⟨gb110, _, none⟩) NB121_110.out _).trans (((cell_far (p := ⟨gb110, _, none⟩) NB121_110.out _).trans (((cell_far (p := ⟨gb110, _, none⟩) NB121_110.out _).trans (((cell_far (p := ⟨gb110, _, none⟩) NB121_110.out _).trans (((cell_far (p := ⟨gb110, _, none⟩) NB121_110.out _).trans (((cell_far (p := ⟨gb110, _, none⟩) NB121_110.out _).trans (((cell_far (p := ⟨gb110, _, none⟩) NB121_110.out _).trans (hHeld.2.2.2.2.2.2.2.2.2.2))))))))))))))))⟩ (fun hHeld => ?_)
      clear hK K
      refine pure_ (i := 4) (N := some 4) (v := ?_) (a' := ?_) #[true, true, true, true, true] rfl rfl (by kernel_rfl) (fun _ _ _ h => h) (Or.inl ⟨by rfl, ?_⟩) ?_ ?_
      rotate_left
      · intro w'
        go_simp
        with_reducible rfl
      rotate_left
      · simp only [Act.put, PU, i64_w, i32_w]
        rfl
      refine done_ (by kernel_rfl) ?_
      try go_wp2
      refine bodyPost_ret (results_list (rs := [.cell 2 27, .cell 3 36, .tmp 4]) rfl (by simp) (.cell gb109 27 #[.int .i64 a0_0, .slice A0_1 l0_1.length c0_1, .int .i64 0] (0, 0) _ rfl (by (with_reducible repeat (first | refine blk_drewN ?_ _ | refine blk_drew ?_ | refine blk_alloc ?_ _)); refine blk_far ?_ NB109_110.out _; (with_reducible repeat (first | refine blk_drewN ?_ _ | refine blk_drew ?_ | refine blk_alloc ?_ _)); refine blk_far ?_ NB109_110.out _; (with_reducible repeat (first | refine blk_drewN ?_ _ | refine blk_drew ?_ | refine blk_alloc ?_ _)); refine blk_far ?_ NB109_110.out _; (with_reducible repeat (first | refine blk_drewN ?_ _ | refine blk_drew ?_ | refine blk_alloc ?_ _)); refine blk_far ?_ NB109_110.out _; (with_reducible repeat (first | refine blk_drewN ?_ _ | refine blk_drew ?_ | refine blk_alloc ?_ _)); refine blk_far ?_ NB109_110.out _; (with_reducible repeat (first | refine blk_drewN ?_ _ | refine blk_drew ?_ | refine blk_alloc ?_ _)); refine blk_far ?_ NB109_110.out _; (with_reducible repeat (first | refine blk_drewN ?_ _ | refine blk_drew ?_ | refine blk_alloc ?_ _)); refine blk_far ?_ NB109_110.out _; (with_reducible repeat (first | refine blk_drewN ?_ _ | refine blk_drew ?_ | refine blk_alloc ?_ _)); refine blk_far ?_ NB109_110.out _; exact BP BK109.out (by rfl)) Try.underlying27 rfl (by kernel_rfl) (.cell gb110 36 #[.int .i64 4, .int .i64 0, .int .i64 0, .int .i64 0, .int .i64 0, .int .i64 0, .string (⟨#[]⟩ : ByteArray), .int .i64 a0_2] (0, 0) _ rfl (by (with_reducible repeat (first | refine blk_drewN ?_ _ | refine blk_drew ?_ | refine blk_alloc ?_ _)); refine blk_put (cs := #[.int .i64 4, .int .i64 0, .int .i64 0, .int .i64 0, .int .i64 0, .int .i64 0, .string (⟨#[]⟩ : ByteArray), .int .i64 0]) ?_ 7 _ rfl; (with_reducible repeat (first | refine blk_drewN ?_ _ | refine blk_drew ?_ | refine blk_alloc ?_ _)); refine blk_put (cs := #[.int .i64 4, .int .i64 0, .int .i64 0, .int .i64 0, .int .i64 0, .int .i64 0, .string (⟨#[]⟩ : ByteArray), .int .i64 0]) ?_ 6 _ rfl; (with_reducible repeat (first | refine blk_drewN ?_ _ | refine blk_drew ?_ | refine blk_alloc ?_ _)); refine blk_put (cs := #[.int .i64 4, .int .i64 0, .int .i64 0, .int .i64 0, .int .i64 0, .int .i64 0, .string (⟨#[]⟩ : ByteArray), .int .i64 0]) ?_ 5 _ rfl; (with_reducible repeat (first | refine blk_drewN ?_ _ | refine blk_drew ?_ | refine blk_alloc ?_ _)); refine blk_put (cs := #[.int .i64 4, .int .i64 0, .int .i64 0, .int .i64 0, .int .i64 0, .int .i64 0, .string (⟨#[]⟩ : ByteArray), .int .i64 0]) ?_ 4 _ rfl; (with_reducible repeat (first | refine blk_drewN ?_ _ | refine blk_drew ?_ | refine blk_alloc ?_ _)); refine blk_put (cs := #[.int .i64 4, .int .i64 0, .int .i64 0, .int .i64 0, .int .i64 0, .int .i64 0, .string (⟨#[]⟩ : ByteArray), .int .i64 0]) ?_ 3 _ rfl; (with_reducible repeat (first | refine blk_drewN ?_ _ | refine blk_drew ?_ | refine blk_alloc ?_ _)); refine blk_put (cs := #[.int .i64 4, .int .i64 0, .int .i64 0, .int .i64 0, .int .i64 0, .int .i64 0, .string (⟨#[]⟩ : ByteArray), .int .i64 0]) ?_ 2 _ rfl; (with_reducible repeat (first | refine blk_drewN ?_ _ | refine blk_drew ?_ | refine blk_alloc ?_ _)); refine blk_put (cs := #[.int .i64 4, .int .i64 0, .int .i64 0, .int .i64 0, .int .i64 0, .int .i64 0, .string (⟨#[]⟩ : ByteArray), .int .i64 0]) ?_ 1 _ rfl; (with_reducible repeat (first | refine blk_drewN ?_ _ | refine blk_drew ?_ | refine blk_alloc ?_ _)); refine blk_put (cs := #[.int .i64 0, .int .i64 0, .int .i64 0, .int .i64 0, .int .i64 0, .int .i64 0, .string (⟨#[]⟩ : ByteArray), .int .i64 0]) ?_ 0 _ rfl; exact BF BK110.out NB110_109.out) Try.underlying36 rfl (by kernel_rfl) (.tmp .nil)))) rfl ?_
      exact ⟨_, by first | rfl | (simp [errW_none, errW_some] <;> rfl) | (simp [*, errW_none, errW_some] <;> rfl), by (with_reducible repeat (first | apply Kd.V_alloc | apply Kd.V_drewN | apply Kd.V_drew)); exact Kd.V_mono (Kd.V_ms (gs := [gb110, gb109]) (Kd.V_mono (Kd.V_mono HO0_1.out (fun k_ hk => (⟨hk, hk.2.2.1⟩ : _ ∧ k_ ≠ gb109))) (fun k_ hk => (⟨hk, hk.1.2.2.2.1⟩ : _ ∧ k_ ≠ gb110))) (fun _ hk => N1 (hk.2) (N1 (hk.1.2) (N0)))) (fun _ hk => hk.1.1.1), LG HB.out (G1 GE108.out (G1 GE109.out (G1 GE110.out (G1 GE121.out G0))))⟩
    · rw [if_neg c36] at H
      have c36b0 : decide (0 < a0_2) = false := decide_eq_false c36
      clear c36
      simp only [Option.some.injEq, Prod.mk.injEq] at H
      obtain ⟨rfl, rfl, rfl, rfl, rfl, rfl, rfl, rfl, rfl, rfl, rfl, rfl⟩ := H
      go_enter Try.func13, Try.ntmps13
      go_wp2_with (first | ((with_reducible refine gate_dst (N := 1) rfl ?_); refine box_event ?hg (N := 1) ?hd (cs := #[.int .i64 a0_0, .slice A0_1 l0_1.length c0_1, .int .i64 a0_2]) (t := 27) ?hr ?_; (case hd => rfl); (case hg => rfl); (case hr => first | (go_simp; done) | (go_simp; rfl)); intro gb108 hg w62 hbox hb; replace HO0_1 := Aside0.mk (Kd.V_below (Kd.V_elderB (Kd.VA HO0_1.out) gb108 (Nat.le_of_eq hg.symm)) hb); have BK108 := Aside0.mk (hbox); have GE108 := Aside0.mk (ge1 hg (LA HB.out)); replace HB := Aside0.mk (below_step (LA HB.out) hb); clear hb hbox hg) | ((with_reducible refine gate_dst (N := 2) rfl ?_); refine box_event ?hg (N := 2) ?hd (cs := #[.int .i64 0, .slice none 0 0, .int .i64 0]) (t := 27) ?hr ?_; (case hd => rfl); (case hg => rfl); (case hr => first | (go_simp; done) | (go_simp; rfl)); intro gb109 hg w63 hbox hb; replace HO0_1 := Aside0.mk (Kd.V_below (Kd.V_elderB (Kd.VA HO0_1.out) gb109 (Nat.le_of_eq hg.symm)) hb); have BK109 := Aside0.mk (hbox); have GE109 := Aside0.mk (ge1 hg (LA HB.out)); replace HB := Aside0.mk (below_step (LA HB.out) hb); have NB108_109 := Aside0.mk ((by rw [hg]; exact Nat.ne_of_lt (blk_lt (g := gb108) (o := .cells #[.int .i64 a0_0, .slice A0_1 l0_1.length c0_1, .int .i64 a0_2] 27 (0, 0)) (BA BK108.out)) : gb108 ≠ gb109)); have NB109_108 := Aside0.mk ((by rw [hg]; exact Nat.ne_of_gt (blk_lt (g := gb108) (o := .cells #[.int .i64 a0_0, .slice A0_1 l0_1.length c0_1, .int .i64 a0_2] 27 (0, 0)) (BA BK108.out)) : gb109 ≠ gb108)); replace BK108 := Aside0.mk (blk_below (BA BK108.out) hb); clear hb hbox hg) | ((with_reducible refine gate_dst (N := 3) rfl ?_); refine box_event ?hg (N := 3) ?hd (cs := #[.int .i64 0, .int .i64 0, .int .i64 0, .int .i64 0, .int .i64 0, .int .i64 0, .string (⟨#[]⟩ : ByteArray), .int .i64 0]) (t := 36) ?hr ?_; (case hd => rfl); (case hg => rfl); (case hr => first | (go_simp; done) | (go_simp; rfl)); intro gb110 hg w64 hbox hb; replace HO0_1 := Aside0.mk (Kd.V_below (Kd.V_elderB (Kd.VA HO0_1.out) gb110 (Nat.le_of_eq hg.symm)) hb); have BK110 := Aside0.mk (hbox); have GE110 := Aside0.mk (ge1 hg (LA HB.out)); replace HB := Aside0.mk (below_step (LA HB.out) hb); have NB108_110 := Aside0.mk ((by rw [hg]; exact Nat.ne_of_lt (blk_lt (g := gb108) (o := .cells #[.int .i64 a0_0, .slice A0_1 l0_1.length c0_1, .int .i64 a0_2] 27 (0, 0)) (BA BK108.out)) : gb108 ≠ gb110)); have NB110_108 := Aside0.mk ((by rw [hg]; exact Nat.ne_of_gt (blk_lt (g := gb108) (o := .cells #[.int .i64 a0_0, .slice A0_1 l0_1.length c0_1, .int .i64 a0_2] 27 (0, 0)) (BA BK108.out)) : gb110 ≠ gb108)); replace BK108 := Aside0.mk (blk_below (BA BK108.out) hb); have NB109_110 := Aside0.mk ((by rw [hg]; exact Nat.ne_of_lt (blk_lt (g := gb109) (o := .cells #[.int .i64 0, .slice none 0 0, .int .i64 0] 27 (0, 0)) (BA BK109.out)) : gb109 ≠ gb110)); have NB110_109 := Aside0.mk ((by rw [hg]; exact Nat.ne_of_gt (blk_lt (g := gb109) (o := .cells #[.int .i64 0, .slice none 0 0, .int .i64 0] 27 (0, 0)) (BA BK109.out)) : gb110 ≠ gb109)); replace BK109 := Aside0.mk (blk_below (BA BK109.out) hb); clear hb hbox hg; have hnb65 := NB108_109.out; have hnc65 := NB109_108.out; have hnb66 := NB108_110.out; have hnc66 := NB110_108.out; obtain ⟨hcz67_0, hcz67_1, hcz67_2, hfz67_0, hfz67_1, hfz67_2⟩ := cz3 BK108.out; have hnb68 := NB109_110.out; have hnc68 := NB110_109.out; obtain ⟨hcz69_0, hcz69_1, hcz69_2, hfz69_0, hfz69_1, hfz69_2⟩ := cz3 BK109.out; obtain ⟨hcz70_0, hcz70_1, hcz70_2, hcz70_3, hcz70_4, hcz70_5, hcz70_6, hcz70_7, hfz70_0, hfz70_1, hfz70_2, hfz70_3, hfz70_4, hfz70_5, hfz70_6, hfz70_7⟩ := cz8 BK110.out))
      refine bodyPost_ret (results_list (rs := [.cell 2 27, .cell 3 36, .tmp 4]) rfl (by simp) (.cell gb109 27 #[.int .i64 a0_0, .slice A0_1 l0_1.length c0_1, .int .i64 a0_2] (0, 0) _ rfl (by (with_reducible repeat (first | refine blk_drewN ?_ _ | refine blk_drew ?_ | refine blk_alloc ?_ _)); refine blk_far ?_ NB109_110.out _; (with_reducible repeat (first | refine blk_drewN ?_ _ | refine blk_drew ?_ | refine blk_alloc ?_ _)); refine blk_far ?_ NB109_110.out _; (with_reducible repeat (first | refine blk_drewN ?_ _ | refine blk_drew ?_ | refine blk_alloc ?_ _)); refine blk_far ?_ NB109_110.out _; (with_reducible repeat (first | refine blk_drewN ?_ _ | refine blk_drew ?_ | refine blk_alloc ?_ _)); refine blk_far ?_ NB109_110.out _; (with_reducible repeat (first | refine blk_drewN ?_ _ | refine blk_drew ?_ | refine blk_alloc ?_ _)); refine blk_far ?_ NB109_110.out _; (with_reducible repeat (first | refine blk_drewN ?_ _ | refine blk_drew ?_ | refine blk_alloc ?_ _)); refine blk_far ?_ NB109_110.out _; (with_reducible repeat (first | refine blk_drewN ?_ _ | refine blk_drew ?_ | refine blk_alloc ?_ _)); refine blk_far ?_ NB109_110.out _; (with_reducible repeat (first | refine blk_drewN ?_ _ | refine blk_drew ?_ | refine blk_alloc ?_ _)); refine blk_far ?_ NB109_110.out _; exact BP BK109.out (by rfl)) Try.underlying27 rfl (by kernel_rfl) (.cell gb110 36 #[.int .i64 0, .int .i64 0, .int .i64 0, .int .i64 0, .int .i64 0, .int .i64 0, .string (⟨#[]⟩ : ByteArray), .int .i64 0] (0, 0) _ rfl (by (with_reducible repeat (first | refine blk_drewN ?_ _ | refine blk_drew ?_ | refine blk_alloc ?_ _)); refine blk_put (cs := #[.int .i64 0, .int .i64 0, .int .i64 0, .int .i64 0, .int .i64 0, .int .i64 0, .string (⟨#[]⟩ : ByteArray), .int .i64 0]) ?_ 7 _ rfl; (with_reducible repeat (first | refine blk_drewN ?_ _ | refine blk_drew ?_ | refine blk_alloc ?_ _)); refine blk_put (cs := #[.int .i64 0, .int .i64 0, .int .i64 0, .int .i64 0, .int .i64 0, .int .i64 0, .string (⟨#[]⟩ : ByteArray), .int .i64 0]) ?_ 6 _ rfl; (with_reducible repeat (first | refine blk_drewN ?_ _ | refine blk_drew ?_ | refine blk_alloc ?_ _)); refine blk_put (cs := #[.int .i64 0, .int .i64 0, .int .i64 0, .int .i64 0, .int .i64 0, .int .i64 0, .string (⟨#[]⟩ : ByteArray), .int .i64 0]) ?_ 5 _ rfl; (with_reducible repeat (first | refine blk_drewN ?_ _ | refine blk_drew ?_ | refine blk_alloc ?_ _)); refine blk_put (cs := #[.int .i64 0, .int .i64 0, .int .i64 0, .int .i64 0, .int .i64 0, .int .i64 0, .string (⟨#[]⟩ : ByteArray), .int .i64 0]) ?_ 4 _ rfl; (with_reducible repeat (first | refine blk_drewN ?_ _ | refine blk_drew ?_ | refine blk_alloc ?_ _)); refine blk_put (cs := #[.int .i64 0, .int .i64 0, .int .i64 0, .int .i64 0, .int .i64 0, .int .i64 0, .string (⟨#[]⟩ : ByteArray), .int .i64 0]) ?_ 3 _ rfl; (with_reducible repeat (first | refine blk_drewN ?_ _ | refine blk_drew ?_ | refine blk_alloc ?_ _)); refine blk_put (cs := #[.int .i64 0, .int .i64 0, .int .i64 0, .int .i64 0, .int .i64 0, .int .i64 0, .string (⟨#[]⟩ : ByteArray), .int .i64 0]) ?_ 2 _ rfl; (with_reducible repeat (first | refine blk_drewN ?_ _ | refine blk_drew ?_ | refine blk_alloc ?_ _)); refine blk_put (cs := #[.int .i64 0, .int .i64 0, .int .i64 0, .int .i64 0, .int .i64 0, .int .i64 0, .string (⟨#[]⟩ : ByteArray), .int .i64 0]) ?_ 1 _ rfl; (with_reducible repeat (first | refine blk_drewN ?_ _ | refine blk_drew ?_ | refine blk_alloc ?_ _)); refine blk_put (cs := #[.int .i64 0, .int .i64 0, .int .i64 0, .int .i64 0, .int .i64 0, .int .i64 0, .string (⟨#[]⟩ : ByteArray), .int .i64 0]) ?_ 0 _ rfl; exact BF BK110.out NB110_109.out) Try.underlying36 rfl (by kernel_rfl) (.tmp .nil)))) rfl ?_
      exact ⟨_, by first | rfl | (simp [errW_none, errW_some] <;> rfl) | (simp [*, errW_none, errW_some] <;> rfl), by (with_reducible repeat (first | apply Kd.V_alloc | apply Kd.V_drewN | apply Kd.V_drew)); exact Kd.V_mono (Kd.V_ms (gs := [gb110, gb109]) (Kd.V_mono (Kd.V_mono HO0_1.out (fun k_ hk => (⟨hk, hk.1.2⟩ : _ ∧ k_ ≠ gb109))) (fun k_ hk => (⟨hk, hk.1.2⟩ : _ ∧ k_ ≠ gb110))) (fun _ hk => N1 (hk.2) (N1 (hk.1.2) (N0)))) (fun _ hk => hk.1.1.1.1.1), LG HB.out (G1 GE108.out (G1 GE109.out (G1 GE110.out G0)))⟩

/-! ### feed_All: function 15 -/
def feed_All.l0 : Nat → List (S36) → Int → List (S36) → Int → Option (Int × (List (S36)) × Int × (List (S36)))
  | 0, _, _, _, _ => none
  | k + 1, x4, x123000, x123001, x123002 => (feed_Read.f x123000 x123001 x123002).bind fun bt124 => (if bt124.2.2.2.2.2.2.2.2.2.2.2 = 0 then (if x4.length < 1954687338268 then (feed_All.l0 k (x4 ++ [(⟨bt124.2.2.2.1, (⟨bt124.2.2.2.2.1, bt124.2.2.2.2.2.1, bt124.2.2.2.2.2.2.1, bt124.2.2.2.2.2.2.2.1, bt124.2.2.2.2.2.2.2.2.1, bt124.2.2.2.2.2.2.2.2.2.1⟩ : S34), bt124.2.2.2.2.2.2.2.2.2.2.1⟩ : S36)]) bt124.1 bt124.2.1 bt124.2.2.1) else (none)) else (some (x123000, x123001, x123002, x4)))
def feed_All.f (k : Nat) (a0_0 : Int) (l0_1 : List (S36)) (a0_2 : Int) : Option (Int × (List (S36)) × Int × (List (S36))) := feed_All.l0 k ([] : List (S36)) a0_0 l0_1 a0_2
theorem feed_All.mono_l : ∀ k, (∀ y0 y1 y2 y3, LeO (feed_All.l0 k y0 y1 y2 y3) (feed_All.l0 (k + 1) y0 y1 y2 y3))
  | 0 => fun _ _ _ _ r h => by simp [feed_All.l0] at h
  | k + 1 => by
    have ih0 := feed_All.mono_l k
    · intro y0 y1 y2 y3
      unfold feed_All.l0
      repeat' first
      | (with_reducible exact ih0 _ _ _ _)
      | (with_reducible exact LeO.refl _)
      | (with_reducible exact LeO.none _)
      | (with_reducible refine LeO.ite ?_ ?_)
      | (with_reducible refine LeO.bind ?_ (fun _ => ?_))
      | exact ih0 _ _ _ _
      | exact LeO.none _
      | refine LeO.ite ?_ ?_
      | refine LeO.bind ?_ (fun _ => ?_)
theorem feed_All.mono : ∀ a0 a1 a2 k, LeO (feed_All.f k a0 a1 a2) (feed_All.f (k + 1) a0 a1 a2) := by
  intro a0 a1 a2 k
  have ih0 := feed_All.mono_l k
  unfold feed_All.f
  repeat' first
      | (with_reducible exact ih0 _ _ _ _)
      | (with_reducible exact LeO.refl _)
      | (with_reducible exact LeO.none _)
      | (with_reducible refine LeO.ite ?_ ?_)
      | (with_reducible refine LeO.bind ?_ (fun _ => ?_))
      | exact ih0 _ _ _ _
      | exact LeO.none _
      | refine LeO.ite ?_ ?_
      | refine LeO.bind ?_ (fun _ => ?_)
attribute [local go_sem] jump_ret
set_option maxHeartbeats 8000000 in
set_option maxRecDepth 100000 in
theorem feed_All.calls (k : Nat) (a0_0 : Int) (P0_1_ : Nat → Prop) (A0_1 : Option Addr) (c0_1 : Nat) (l0_1 : List (S36)) (a0_2 : Int) (r1 : Int) (r2 : List (S36)) (r3 : Int) (r4 : List (S36)) (w : World) (hs0_1 : Kd.V k36 36 w w.heap.size (fun k_ => P0_1_ k_) (.slice A0_1 l0_1.length c0_1) l0_1) (h : feed_All.f k a0_0 l0_1 a0_2 = some (r1, r2, r3, r4)) :
    Calls Try.prog 15 #[.agg #[.int .i64 a0_0, .slice A0_1 l0_1.length c0_1, .int .i64 a0_2]] w fun e w' => ∃ v1_ v3_ : Value, e = .returned (.tuple #[.agg #[.int .i64 r1, v1_, .int .i64 r3], v3_]) ∧ Kd.V k36 36 w' w.heap.size (fun k_ => (P0_1_ k_ ∨ w.heap.size ≤ k_) ∧ some k_ ≠ (v3_ : Value).ownBlock) v1_ r2 ∧ Kd.R k36 36 w' w.heap.size (fun k_ => (w.heap.size ≤ k_)) v3_ r4 ∧ Below w.heap.size w w' := by
  have hu27 := Try.underlying27
  have hu36 := Try.underlying36
  have HO0_1 := Aside0.mk (show Kd.V k36 36 w w.heap.size (fun k_ => (P0_1_ k_ ∨ w.heap.size ≤ k_)) (.slice A0_1 l0_1.length c0_1) l0_1 from Kd.V_mono hs0_1 (fun k_ hk => .inl hk))
  have HB := Aside0.mk (Below.refl w.heap.size w)
  have H : (feed_All.l0 k ([] : List (S36)) a0_0 l0_1 a0_2) = some (r1, r2, r3, r4) := h
  clear h
  have H' := Aside0.mk H
  clear H
  go_enter Try.func15, Try.ntmps15
  go_wp2_with (first | ((with_reducible refine gate_dst (N := 1) rfl ?_); refine box_event ?hg (N := 1) ?hd (cs := #[.int .i64 a0_0, .slice A0_1 l0_1.length c0_1, .int .i64 a0_2]) (t := 27) ?hr ?_; (case hd => rfl); (case hg => rfl); (case hr => first | (go_simp; done) | (go_simp; rfl)); intro gb122 hg w2 hbox hb; replace HO0_1 := Aside0.mk (Kd.V_below (Kd.V_elderB (Kd.VA HO0_1.out) gb122 (Nat.le_of_eq hg.symm)) hb); have BK122 := Aside0.mk (hbox); have GE122 := Aside0.mk (ge1 hg (LA HB.out)); replace HB := Aside0.mk (below_step (LA HB.out) hb); clear hb hbox hg) | ((with_reducible refine gate_dst (N := 2) rfl ?_); refine box_event ?hg (N := 2) ?hd (cs := #[.int .i64 0, .slice none 0 0, .int .i64 0]) (t := 27) ?hr ?_; (case hd => rfl); (case hg => rfl); (case hr => first | (go_simp; done) | (go_simp; rfl)); intro gb123 hg w3 hbox hb; replace HO0_1 := Aside0.mk (Kd.V_below (Kd.V_elderB (Kd.VA HO0_1.out) gb123 (Nat.le_of_eq hg.symm)) hb); have BK123 := Aside0.mk (hbox); have GE123 := Aside0.mk (ge1 hg (LA HB.out)); replace HB := Aside0.mk (below_step (LA HB.out) hb); have NB122_123 := Aside0.mk ((by rw [hg]; exact Nat.ne_of_lt (blk_lt (g := gb122) (o := .cells #[.int .i64 a0_0, .slice A0_1 l0_1.length c0_1, .int .i64 a0_2] 27 (0, 0)) (BA BK122.out)) : gb122 ≠ gb123)); have NB123_122 := Aside0.mk ((by rw [hg]; exact Nat.ne_of_gt (blk_lt (g := gb122) (o := .cells #[.int .i64 a0_0, .slice A0_1 l0_1.length c0_1, .int .i64 a0_2] 27 (0, 0)) (BA BK122.out)) : gb123 ≠ gb122)); replace BK122 := Aside0.mk (blk_below (BA BK122.out) hb); clear hb hbox hg))
  refine wp_scope_goto 0 (by rfl) ?_
  refine wp_seq_k fun K9_ hK9_ => ?_
  suffices hend_ : K9_ (⟨#[.agg #[.int .i64 a0_0, .slice A0_1 l0_1.length c0_1, .int .i64 a0_2], .pointer (some ⟨gb122, 0, none⟩), .pointer (some ⟨gb123, 0, none⟩), .slice none 0 0, .slice none 0 0, undef, undef, undef, undef, undef, undef, undef, undef, undef, undef, undef, undef, undef, undef, undef, undef, undef, undef], []⟩ : Act) w3 by
    clear hK9_
    go_wp2
    all_goals exact hend_
  refine hK9_ _ _ (wp_seq (wp_label ?_))
  show Code.wp _ _ _ _ _
  refine wp_label_ghost_k (fun kq a' w' => ∃ u3 u4 u5 u6 u7 u8 u9 u10 u11 u12 u13 u14 u15 u16 u17 u18 u19 u20 u21 u22 : Value, (fun kq v4 w' => ∃ (x4_1 : List (S36)) (x123000_1 : Int) (x123001_1 : List (S36)) (x123002_1 : Int) (x124000_1 : Int) (x124002_1 : Int) (u123001 : Value), Aside0 (feed_All.l0 kq x4_1 x123000_1 x123001_1 x123002_1 = some (r1, r2, r3, r4)) ∧ Aside0 (kq ≤ k) ∧ Aside0 (Kd.R k36 36 w' w.heap.size (fun k_ => (w.heap.size ≤ k_)) v4 x4_1) ∧ Aside0 (Kd.V k36 36 w' w.heap.size (fun k_ => (P0_1_ k_ ∨ w.heap.size ≤ k_) ∧ some k_ ≠ (v4 : Value).ownBlock ∧ k_ ≠ gb122 ∧ k_ ≠ gb123) u123001 x123001_1) ∧ Aside0 (w'.heap[gb122]? = some (.cells #[.int .i64 x123000_1, u123001, .int .i64 x123002_1] 27 (0, 0))) ∧ Aside0 (w'.heap[gb123]? = some (.cells #[.int .i64 x124000_1, (.slice none 0 0), .int .i64 x124002_1] 27 (0, 0))) ∧ Aside0 (Below w.heap.size w w')) kq u4 w' ∧ a' = (⟨#[.agg #[.int .i64 a0_0, .slice A0_1 l0_1.length c0_1, .int .i64 a0_2], .pointer (some ⟨gb122, 0, none⟩), .pointer (some ⟨gb123, 0, none⟩), u3, u4, u5, u6, u7, u8, u9, u10, u11, u12, u13, u14, u15, u16, u17, u18, u19, u20, u21, u22], []⟩ : Act)) k ?atStart ?round
  case atStart => (repeat apply Exists.intro); refine ⟨?_, rfl⟩; exact ⟨(([] : List (S36))), (a0_0), (l0_1), (a0_2), (0), (0), (.slice A0_1 l0_1.length c0_1), H', ⟨Nat.le_refl _⟩, ⟨by first | exact Kd.R_nil _ _ _ _ _ | exact Kd.N_nil _ _ _ _ _ | exact Kd.V_nil _ _ _ _ _ | exact Kd.Q_nil _ _ _ _ _ | exact Kd.S_nil _ _ _ _ _⟩, ⟨by (with_reducible repeat (first | apply Kd.V_alloc | apply Kd.V_drewN | apply Kd.V_drew)); exact Kd.V_mono HO0_1.out (fun _ hk => ⟨hk.1.1, ⟨(by simp [Value.ownBlock]), ⟨hk.1.2, hk.2⟩⟩⟩)⟩, ⟨by (with_reducible repeat (first | refine blk_drewN ?_ _ | refine blk_drew ?_ | refine blk_alloc ?_ _)); exact BK122.out⟩, ⟨by (with_reducible repeat (first | refine blk_drewN ?_ _ | refine blk_drew ?_ | refine blk_alloc ?_ _)); exact BK123.out⟩, ⟨LG HB.out (G1 GE122.out (G1 GE123.out G0))⟩⟩
  case round =>
    intro gk _ wr hinv
    obtain ⟨u3, u4, u5, u6, u7, u8, u9, u10, u11, u12, u13, u14, u15, u16, u17, u18, u19, u20, u21, u22, hrel, ha_⟩ := hinv
    subst ha_
    try dsimp only
    intro J9_ L9_ hJ9_ hL9_
    clear H'
    try clear c1
    try clear p2
    obtain ⟨x4_1, x123000_1, x123001_1, x123002_1, x124000_1, x124002_1, u123001, HA, HK1, HO_4, HO_123001, BK122, BK123, HB⟩ := hrel
    cases gk with
    | zero => exact absurd HA.out (by simp [feed_All.l0])
    | succ k1 =>
      have H := HA.out
      clear HA
      simp only [feed_All.l0] at H
      replace H := Option.bind_eq_some_iff.mp H
      obtain ⟨⟨t124, t125, t128, t129, t130, t131, t132, t133, t134, t135, t136, t137⟩, A40, H⟩ := H
      replace H : (if t137 = 0 then (if x4_1.length < 1954687338268 then (feed_All.l0 k1 (x4_1 ++ [(⟨t129, (⟨t130, t131, t132, t133, t134, t135⟩ : S34), t136⟩ : S36)]) t124 t125 t128) else (none)) else (some (x123000_1, x123001_1, x123002_1, x4_1))) = some (r1, r2, r3, r4) := H
      have A4 := Aside0.mk A40
      clear A40
      by_cases c5 : t137 = 0
      · rw [if_pos c5] at H
        have c5b0 : (t137 == 0) = true := beq_iff_eq.mpr c5
        have c5b1 : (t137 != 0) = false := bne_eq_false_iff_eq.mpr c5
        clear c5
        by_cases c6 : x4_1.length < 1954687338268
        rotate_left
        · rw [if_neg c6] at H
          exact absurd H (by simp)
        rw [if_pos c6] at H
        have LMc6 := Aside0.mk c6
        clear c6
        obtain ⟨y140, hy140⟩ : ∃ y_ : List (S36), y_ = (x4_1 ++ [(⟨t129, (⟨t130, t131, t132, t133, t134, t135⟩ : S34), t136⟩ : S36)]) := ⟨_, rfl⟩
        replace H : (feed_All.l0 k1 y140 t124 t125 t128) = some (r1, r2, r3, r4) := by first | (rw [hy140]; with_reducible exact H) | (have H2_ := (Option.bind_some _ _).symm.trans H; rw [hy140]; with_reducible exact H2_) | (have H2_ := (Option.bind_some _ _).symm.trans H; with_reducible exact H2_) | with_reducible exact H | (rw [hy140]; exact H) | exact H
        have Ny140 := Aside0.mk hy140
        clear hy140
        have H' := Aside0.mk H
        clear H
        have hnb7 := NB122_123.out
        have hnc7 := NB123_122.out
        have hcz8_0 : wr.cell? ⟨gb122, 0, none⟩ = some (.int .i64 x123000_1) := (blk_cell BK122.out 0).trans rfl
        have hcz8_1 : wr.cell? ⟨gb122, 1, none⟩ = some (u123001) := (blk_cell BK122.out 1).trans rfl
        have hcz8_2 : wr.cell? ⟨gb122, 2, none⟩ = some (.int .i64 x123002_1) := (blk_cell BK122.out 2).trans rfl
        have hfz8_0 := blk_frozen BK122.out 0
        have hfz8_1 := blk_frozen BK122.out 1
        have hfz8_2 := blk_frozen BK122.out 2
        obtain ⟨Ao9, co9, eo9⟩ := Kd.V_slice HO_123001.out
        subst eo9
        try go_wp2_with (first | ((with_reducible refine gate_callee (f := 13) rfl ?_); refine goesL_ (some 10) rfl rfl Try.func13 (by kernel_rfl) rfl #[.agg #[.int .i64 x123000_1, .slice Ao9 x123001_1.length co9, .int .i64 x123002_1]] rfl (by (try simp only [List.map_toArray, List.map_cons, List.map_nil]); first | done | rfl | (simp only [List.length_drop, List.length_take]; rfl)) ?_; (with_reducible refine (feed_Read.calls x123000_1 (fun k_ => ((P0_1_ k_ ∨ w.heap.size ≤ k_) ∧ (some k_ ≠ (u4 : Value).ownBlock ∧ (k_ ≠ gb122 ∧ k_ ≠ gb123)))) _ _ x123001_1 x123002_1 t124 t125 t128 t129 t130 t131 t132 t133 t134 t135 t136 t137 _ ?side1 A4.out).mono ?_); (case side1 => exact HO_123001.out); rintro e w10 ⟨v126, rfl, ho0, hb⟩; refine ⟨_, rfl, ?_⟩; replace HO_123001 := Aside0.mk (Kd.V_below (Kd.VA HO_123001.out) hb); have HO127 := Aside0.mk (Kd.V_lower (Kd.V_mono (ok' := fun k_ => (P0_1_ k_ ∨ w.heap.size ≤ k_) ∧ some k_ ≠ (u4 : Value).ownBlock ∧ k_ ≠ gb122 ∧ k_ ≠ gb123) ho0 (fun k_ hk_ => ⟨Or.elim hk_ (fun hs_ => hs_.1) (fun hn_ => (.inr (Nat.le_trans (below_size (LA HB.out)) hn_))), Or.elim hk_ (fun hs_ => hs_.2.1) (fun hn_ => (Kd.fresh' (Kd.R_lt (Kd.RA HO_4.out)) k_ hn_)), Or.elim hk_ (fun hs_ => hs_.2.2.1) (fun hn_ => (Kd.freshB (g := gb122) (o := .cells #[.int .i64 x123000_1, .slice Ao9 x123001_1.length co9, .int .i64 x123002_1] 27 (0, 0)) (BA BK122.out) k_ hn_)), Or.elim hk_ (fun hs_ => hs_.2.2.2) (fun hn_ => (Kd.freshB (g := gb123) (o := .cells #[.int .i64 x124000_1, .slice none 0 0, .int .i64 x124002_1] 27 (0, 0)) (BA BK123.out) k_ hn_))⟩)) (below_size (LA HB.out))); replace HO_4 := Aside0.mk (Kd.R_below (Kd.RA HO_4.out) hb); replace BK122 := Aside0.mk (blk_below (BA BK122.out) hb); replace BK123 := Aside0.mk (blk_below (BA BK123.out) hb); replace HB := Aside0.mk (below_step (LA HB.out) hb); (try clear hb); (try clear hb2); (try clear hk); (try clear hi); (try clear ho0)) | ((with_reducible refine gate_dst (N := 5) rfl ?_); refine box_event ?hg (N := 5) ?hd (cs := #[.int .i64 0, .slice none 0 0, .int .i64 0]) (t := 27) ?hr ?_; (case hd => rfl); (case hg => rfl); (case hr => first | (go_simp; done) | (go_simp; rfl)); intro gb138 hg w11 hbox hb; replace HO_4 := Aside0.mk (Kd.R_below (Kd.RA HO_4.out) hb); replace HO_123001 := Aside0.mk (Kd.V_below (Kd.V_elderB (Kd.VA HO_123001.out) gb138 (Nat.le_of_eq hg.symm)) hb); replace HO127 := Aside0.mk (Kd.V_below (Kd.V_elderB (Kd.VA HO127.out) gb138 (Nat.le_of_eq hg.symm)) hb); have BK138 := Aside0.mk (hbox); have GE138 := Aside0.mk (ge1 hg (LA HB.out)); replace HB := Aside0.mk (below_step (LA HB.out) hb); have NB122_138 := Aside0.mk ((by rw [hg]; exact Nat.ne_of_lt (blk_lt (g := gb122) (o := .cells #[.int .i64 x123000_1, .slice Ao9 x123001_1.length co9, .int .i64 x123002_1] 27 (0, 0)) (BA BK122.out)) : gb122 ≠ gb138)); have NB138_122 := Aside0.mk ((by rw [hg]; exact Nat.ne_of_gt (blk_lt (g := gb122) (o := .cells #[.int .i64 x123000_1, .slice Ao9 x123001_1.length co9, .int .i64 x123002_1] 27 (0, 0)) (BA BK122.out)) : gb138 ≠ gb122)); replace BK122 := Aside0.mk (blk_below (BA BK122.out) hb); have NB123_138 := Aside0.mk ((by rw [hg]; exact Nat.ne_of_lt (blk_lt (g := gb123) (o := .cells #[.int .i64 x124000_1, .slice none 0 0, .int .i64 x124002_1] 27 (0, 0)) (BA BK123.out)) : gb123 ≠ gb138)); have NB138_123 := Aside0.mk ((by rw [hg]; exact Nat.ne_of_gt (blk_lt (g := gb123) (o := .cells #[.int .i64 x124000_1, .slice none 0 0, .int .i64 x124002_1] 27 (0, 0)) (BA BK123.out)) : gb138 ≠ gb123)); replace BK123 := Aside0.mk (blk_below (BA BK123.out) hb); clear hb hbox hg) | ((with_reducible refine gate_dst (N := 6) rfl ?_); refine box_event ?hg (N := 6) ?hd (cs := #[.int .i64 0, .int .i64 0, .int .i64 0, .int .i64 0, .int .i64 0, .int .i64 0, .string (⟨#[]⟩ : ByteArray), .int .i64 0]) (t := 36) ?hr ?_; (case hd => rfl); (case hg => rfl); (case hr => first | (go_simp; done) | (go_simp; rfl)); intro gb139 hg w12 hbox hb; replace HO_4 := Aside0.mk (Kd.R_below (Kd.R_elderB (Kd.RA HO_4.out) gb139 (Nat.le_of_eq hg.symm)) hb); replace HO_123001 := Aside0.mk (Kd.V_below (Kd.V_elderB (Kd.VA HO_123001.out) gb139 (Nat.le_of_eq hg.symm)) hb); replace HO127 := Aside0.mk (Kd.V_below (Kd.V_elderB (Kd.VA HO127.out) gb139 (Nat.le_of_eq hg.symm)) hb); have BK139 := Aside0.mk (hbox); have GE139 := Aside0.mk (ge1 hg (LA HB.out)); replace HB := Aside0.mk (below_step (LA HB.out) hb); have NB122_139 := Aside0.mk ((by rw [hg]; exact Nat.ne_of_lt (blk_lt (g := gb122) (o := .cells #[.int .i64 x123000_1, .slice Ao9 x123001_1.length co9, .int .i64 x123002_1] 27 (0, 0)) (BA BK122.out)) : gb122 ≠ gb139)); have NB139_122 := Aside0.mk ((by rw [hg]; exact Nat.ne_of_gt (blk_lt (g := gb122) (o := .cells #[.int .i64 x123000_1, .slice Ao9 x123001_1.length co9, .int .i64 x123002_1] 27 (0, 0)) (BA BK122.out)) : gb139 ≠ gb122)); replace BK122 := Aside0.mk (blk_below (BA BK122.out) hb); have NB123_139 := Aside0.mk ((by rw [hg]; exact Nat.ne_of_lt (blk_lt (g := gb123) (o := .cells #[.int .i64 x124000_1, .slice none 0 0, .int .i64 x124002_1] 27 (0, 0)) (BA BK123.out)) : gb123 ≠ gb139)); have NB139_123 := Aside0.mk ((by rw [hg]; exact Nat.ne_of_gt (blk_lt (g := gb123) (o := .cells #[.int .i64 x124000_1, .slice none 0 0, .int .i64 x124002_1] 27 (0, 0)) (BA BK123.out)) : gb139 ≠ gb123)); replace BK123 := Aside0.mk (blk_below (BA BK123.out) hb); have NB138_139 := Aside0.mk ((by rw [hg]; exact Nat.ne_of_lt (blk_lt (g := gb138) (o := .cells #[.int .i64 0, .slice none 0 0, .int .i64 0] 27 (0, 0)) (BA BK138.out)) : gb138 ≠ gb139)); have NB139_138 := Aside0.mk ((by rw [hg]; exact Nat.ne_of_gt (blk_lt (g := gb138) (o := .cells #[.int .i64 0, .slice none 0 0, .int .i64 0] 27 (0, 0)) (BA BK138.out)) : gb139 ≠ gb138)); replace BK138 := Aside0.mk (blk_below (BA BK138.out) hb); clear hb hbox hg; have hnb13 := NB138_122.out; have hnc13 := NB122_138.out; have hnb14 := NB138_123.out; have hnc14 := NB123_138.out; have hnb15 := NB138_139.out; have hnc15 := NB139_138.out; obtain ⟨hcz16_0, hcz16_1, hcz16_2, hfz16_0, hfz16_1, hfz16_2⟩ := cz3 BK138.out; obtain ⟨Ao17, co17, eo17⟩ := Kd.V_slice HO127.out; subst eo17; have hnb18 := NB139_122.out; have hnc18 := NB122_139.out; have hnb19 := NB139_123.out; have hnc19 := NB123_139.out; obtain ⟨hcz20_0, hcz20_1, hcz20_2, hcz20_3, hcz20_4, hcz20_5, hcz20_6, hcz20_7, hfz20_0, hfz20_1, hfz20_2, hfz20_3, hfz20_4, hfz20_5, hfz20_6, hfz20_7⟩ := cz8 BK139.out))
        have n0_ : Aside0 (Kd.R k36 36 (((((((((((w12.setCell ⟨gb138, 0, none⟩ (.int .i64 t124)).setCell ⟨gb138, 1, none⟩ (.slice Ao17 t125.length co17)).setCell ⟨gb138, 2, none⟩ (.int .i64 t128)).setCell ⟨gb139, 0, none⟩ (.int .i64 t129)).setCell ⟨gb139, 1, none⟩ (.int .i64 t130)).setCell ⟨gb139, 2, none⟩ (.int .i64 t131)).setCell ⟨gb139, 3, none⟩ (.int .i64 t132)).setCell ⟨gb139, 4, none⟩ (.int .i64 t133)).setCell ⟨gb139, 5, none⟩ (.int .i64 t134)).setCell ⟨gb139, 6, none⟩ (.string t135)).setCell ⟨gb139, 7, none⟩ (.int .i64 t136)) w.heap.size (fun k_ => (w.heap.size ≤ k_) ∧ k_ ≠ gb139) u4 x4_1) := ⟨by (with_reducible repeat (first | apply Kd.R_alloc | apply Kd.R_drewN | apply Kd.R_drew)); exact Kd.R_mono (Kd.R_ms (gs := [gb139, gb138]) (Kd.R_mono (Kd.R_types HO_4.out BK138.out (by decide)) (fun k_ hk => (⟨hk, hk.1.2⟩ : _ ∧ k_ ≠ gb139))) (fun _ hk => N1 (hk.2) (N1 (hk.1.2) (N0)))) (fun _ hk => ⟨hk.1.1.1, hk.1.1.2⟩)⟩
        have n1_ : Aside0 (Kd.V k36 36 (((((((((((w12.setCell ⟨gb138, 0, none⟩ (.int .i64 t124)).setCell ⟨gb138, 1, none⟩ (.slice Ao17 t125.length co17)).setCell ⟨gb138, 2, none⟩ (.int .i64 t128)).setCell ⟨gb139, 0, none⟩ (.int .i64 t129)).setCell ⟨gb139, 1, none⟩ (.int .i64 t130)).setCell ⟨gb139, 2, none⟩ (.int .i64 t131)).setCell ⟨gb139, 3, none⟩ (.int .i64 t132)).setCell ⟨gb139, 4, none⟩ (.int .i64 t133)).setCell ⟨gb139, 5, none⟩ (.int .i64 t134)).setCell ⟨gb139, 6, none⟩ (.string t135)).setCell ⟨gb139, 7, none⟩ (.int .i64 t136)) w.heap.size (fun k_ => (P0_1_ k_ ∨ w.heap.size ≤ k_) ∧ some k_ ≠ (u4 : Value).ownBlock ∧ k_ ≠ gb122 ∧ k_ ≠ gb123 ∧ k_ ≠ gb138 ∧ k_ ≠ gb139) (.slice Ao9 x123001_1.length co9) x123001_1) := ⟨by (with_reducible repeat (first | apply Kd.V_alloc | apply Kd.V_drewN | apply Kd.V_drew)); exact Kd.V_mono (Kd.V_ms (gs := [gb139, gb138]) (Kd.V_mono (Kd.V_mono HO_123001.out (fun k_ hk => (⟨hk, hk.1.2⟩ : _ ∧ k_ ≠ gb138))) (fun k_ hk => (⟨hk, hk.1.2⟩ : _ ∧ k_ ≠ gb139))) (fun _ hk => N1 (hk.2) (N1 (hk.1.2) (N0)))) (fun _ hk => ⟨hk.1.1.1.1.1, ⟨hk.1.1.1.1.2.1, ⟨hk.1.1.1.1.2.2.1, ⟨hk.1.1.1.1.2.2.2, ⟨hk.1.1.1.2, hk.1.1.2⟩⟩⟩⟩⟩)⟩
        have n2_ : Aside0 (Kd.V k36 36 (((((((((((w12.setCell ⟨gb138, 0, none⟩ (.int .i64 t124)).setCell ⟨gb138, 1, none⟩ (.slice Ao17 t125.length co17)).setCell ⟨gb138, 2, none⟩ (.int .i64 t128)).setCell ⟨gb139, 0, none⟩ (.int .i64 t129)).setCell ⟨gb139, 1, none⟩ (.int .i64 t130)).setCell ⟨gb139, 2, none⟩ (.int .i64 t131)).setCell ⟨gb139, 3, none⟩ (.int .i64 t132)).setCell ⟨gb139, 4, none⟩ (.int .i64 t133)).setCell ⟨gb139, 5, none⟩ (.int .i64 t134)).setCell ⟨gb139, 6, none⟩ (.string t135)).setCell ⟨gb139, 7, none⟩ (.int .i64 t136)) w.heap.size (fun k_ => (P0_1_ k_ ∨ w.heap.size ≤ k_) ∧ some k_ ≠ (u4 : Value).ownBlock ∧ k_ ≠ gb122 ∧ k_ ≠ gb123 ∧ k_ ≠ gb138 ∧ k_ ≠ gb139) (.slice Ao17 t125.length co17) t125) := ⟨by (with_reducible repeat (first | apply Kd.V_alloc | apply Kd.V_drewN | apply Kd.V_drew)); exact Kd.V_mono (Kd.V_ms (gs := [gb139, gb138]) (Kd.V_mono (Kd.V_mono HO127.out (fun k_ hk => (⟨hk, hk.1.2⟩ : _ ∧ k_ ≠ gb138))) (fun k_ hk => (⟨hk, hk.1.2⟩ : _ ∧ k_ ≠ gb139))) (fun _ hk => N1 (hk.2) (N1 (hk.1.2) (N0)))) (fun _ hk => ⟨hk.1.1.1.1.1, ⟨hk.1.1.1.1.2.1, ⟨hk.1.1.1.1.2.2.1, ⟨hk.1.1.1.1.2.2.2, ⟨hk.1.1.1.2, hk.1.1.2⟩⟩⟩⟩⟩)⟩
        have n3_ : Aside0 ((((((((((((w12.setCell ⟨gb138, 0, none⟩ (.int .i64 t124)).setCell ⟨gb138, 1, none⟩ (.slice Ao17 t125.length co17)).setCell ⟨gb138, 2, none⟩ (.int .i64 t128)).setCell ⟨gb139, 0, none⟩ (.int .i64 t129)).setCell ⟨gb139, 1, none⟩ (.int .i64 t130)).setCell ⟨gb139, 2, none⟩ (.int .i64 t131)).setCell ⟨gb139, 3, none⟩ (.int .i64 t132)).setCell ⟨gb139, 4, none⟩ (.int .i64 t133)).setCell ⟨gb139, 5, none⟩ (.int .i64 t134)).setCell ⟨gb139, 6, none⟩ (.string t135)).setCell ⟨gb139, 7, none⟩ (.int .i64 t136)).heap[gb122]? = some (.cells #[.int .i64 x123000_1, .slice Ao9 x123001_1.length co9, .int .i64 x123002_1] 27 (0, 0))) := ⟨by exact BM BK122.out (N1 NB122_139.out (N1 NB122_138.out N0))⟩
        have n4_ : Aside0 ((((((((((((w12.setCell ⟨gb138, 0, none⟩ (.int .i64 t124)).setCell ⟨gb138, 1, none⟩ (.slice Ao17 t125.length co17)).setCell ⟨gb138, 2, none⟩ (.int .i64 t128)).setCell ⟨gb139, 0, none⟩ (.int .i64 t129)).setCell ⟨gb139, 1, none⟩ (.int .i64 t130)).setCell ⟨gb139, 2, none⟩ (.int .i64 t131)).setCell ⟨gb139, 3, none⟩ (.int .i64 t132)).setCell ⟨gb139, 4, none⟩ (.int .i64 t133)).setCell ⟨gb139, 5, none⟩ (.int .i64 t134)).setCell ⟨gb139, 6, none⟩ (.string t135)).setCell ⟨gb139, 7, none⟩ (.int .i64 t136)).heap[gb123]? = some (.cells #[.int .i64 x124000_1, .slice none 0 0, .int .i64 x124002_1] 27 (0, 0))) := ⟨by exact BM BK123.out (N1 NB123_139.out (N1 NB123_138.out N0))⟩
        have n5_ : Aside0 ((((((((((((w12.setCell ⟨gb138, 0, none⟩ (.int .i64 t124)).setCell ⟨gb138, 1, none⟩ (.slice Ao17 t125.length co17)).setCell ⟨gb138, 2, none⟩ (.int .i64 t128)).setCell ⟨gb139, 0, none⟩ (.int .i64 t129)).setCell ⟨gb139, 1, none⟩ (.int .i64 t130)).setCell ⟨gb139, 2, none⟩ (.int .i64 t131)).setCell ⟨gb139, 3, none⟩ (.int .i64 t132)).setCell ⟨gb139, 4, none⟩ (.int .i64 t133)).setCell ⟨gb139, 5, none⟩ (.int .i64 t134)).setCell ⟨gb139, 6, none⟩ (.string t135)).setCell ⟨gb139, 7, none⟩ (.int .i64 t136)).heap[gb138]? = some (.cells #[.int .i64 t124, .slice Ao17 t125.length co17, .int .i64 t128] 27 (0, 0))) := ⟨by (with_reducible repeat (first | refine blk_drewN ?_ _ | refine blk_drew ?_ | refine blk_alloc ?_ _)); refine blk_far ?_ NB138_139.out _; (with_reducible repeat (first | refine blk_drewN ?_ _ | refine blk_drew ?_ | refine blk_alloc ?_ _)); refine blk_far ?_ NB138_139.out _; (with_reducible repeat (first | refine blk_drewN ?_ _ | refine blk_drew ?_ | refine blk_alloc ?_ _)); refine blk_far ?_ NB138_139.out _; (with_reducible repeat (first | refine blk_drewN ?_ _ | refine blk_drew ?_ | refine blk_alloc ?_ _)); refine blk_far ?_ NB138_139.out _; (with_reducible repeat (first | refine blk_drewN ?_ _ | refine blk_drew ?_ | refine blk_alloc ?_ _)); refine blk_far ?_ NB138_139.out _; (with_reducible repeat (first | refine blk_drewN ?_ _ | refine blk_drew ?_ | refine blk_alloc ?_ _)); refine blk_far ?_ NB138_139.out _; (with_reducible repeat (first | refine blk_drewN ?_ _ | refine blk_drew ?_ | refine blk_alloc ?_ _)); refine blk_far ?_ NB138_139.out _; (with_reducible repeat (first | refine blk_drewN ?_ _ | refine blk_drew ?_ | refine blk_alloc ?_ _)); refine blk_far ?_ NB138_139.out _; exact BP BK138.out (by rfl)⟩
        have n6_ : Aside0 ((((((((((((w12.setCell ⟨gb138, 0, none⟩ (.int .i64 t124)).setCell ⟨gb138, 1, none⟩ (.slice Ao17 t125.length co17)).setCell ⟨gb138, 2, none⟩ (.int .i64 t128)).setCell ⟨gb139, 0, none⟩ (.int .i64 t129)).setCell ⟨gb139, 1, none⟩ (.int .i64 t130)).setCell ⟨gb139, 2, none⟩ (.int .i64 t131)).setCell ⟨gb139, 3, none⟩ (.int .i64 t132)).setCell ⟨gb139, 4, none⟩ (.int .i64 t133)).setCell ⟨gb139, 5, none⟩ (.int .i64 t134)).setCell ⟨gb139, 6, none⟩ (.string t135)).setCell ⟨gb139, 7, none⟩ (.int .i64 t136)).heap[gb139]? = some (.cells #[.int .i64 t129, .int .i64 t130, .int .i64 t131, .int .i64 t132, .int .i64 t133, .int .i64 t134, .string t135, .int .i64 t136] 36 (0, 0))) := ⟨by (with_reducible repeat (first | refine blk_drewN ?_ _ | refine blk_drew ?_ | refine blk_alloc ?_ _)); refine blk_put (cs := #[.int .i64 t129, .int .i64 t130, .int .i64 t131, .int .i64 t132, .int .i64 t133, .int .i64 t134, .string t135, .int .i64 0]) ?_ 7 _ rfl; (with_reducible repeat (first | refine blk_drewN ?_ _ | refine blk_drew ?_ | refine blk_alloc ?_ _)); refine blk_put (cs := #[.int .i64 t129, .int .i64 t130, .int .i64 t131, .int .i64 t132, .int .i64 t133, .int .i64 t134, .string (⟨#[]⟩ : ByteArray), .int .i64 0]) ?_ 6 _ rfl; (with_reducible repeat (first | refine blk_drewN ?_ _ | refine blk_drew ?_ | refine blk_alloc ?_ _)); refine blk_put (cs := #[.int .i64 t129, .int .i64 t130, .int .i64 t131, .int .i64 t132, .int .i64 t133, .int .i64 0, .string (⟨#[]⟩ : ByteArray), .int .i64 0]) ?_ 5 _ rfl; (with_reducible repeat (first | refine blk_drewN ?_ _ | refine blk_drew ?_ | refine blk_alloc ?_ _)); refine blk_put (cs := #[.int .i64 t129, .int .i64 t130, .int .i64 t131, .int .i64 t132, .int .i64 0, .int .i64 0, .string (⟨#[]⟩ : ByteArray), .int .i64 0]) ?_ 4 _ rfl; (with_reducible repeat (first | refine blk_drewN ?_ _ | refine blk_drew ?_ | refine blk_alloc ?_ _)); refine blk_put (cs := #[.int .i64 t129, .int .i64 t130, .int .i64 t131, .int .i64 0, .int .i64 0, .int .i64 0, .string (⟨#[]⟩ : ByteArray), .int .i64 0]) ?_ 3 _ rfl; (with_reducible repeat (first | refine blk_drewN ?_ _ | refine blk_drew ?_ | refine blk_alloc ?_ _)); refine blk_put (cs := #[.int .i64 t129, .int .i64 t130, .int .i64 0, .int .i64 0, .int .i64 0, .int .i64 0, .string (⟨#[]⟩ : ByteArray), .int .i64 0]) ?_ 2 _ rfl; (with_reducible repeat (first | refine blk_drewN ?_ _ | refine blk_drew ?_ | refine blk_alloc ?_ _)); refine blk_put (cs := #[.int .i64 t129, .int .i64 0, .int .i64 0, .int .i64 0, .int .i64 0, .int .i64 0, .string (⟨#[]⟩ : ByteArray), .int .i64 0]) ?_ 1 _ rfl; (with_reducible repeat (first | refine blk_drewN ?_ _ | refine blk_drew ?_ | refine blk_alloc ?_ _)); refine blk_put (cs := #[.int .i64 0, .int .i64 0, .int .i64 0, .int .i64 0, .int .i64 0, .int .i64 0, .string (⟨#[]⟩ : ByteArray), .int .i64 0]) ?_ 0 _ rfl; exact BF BK139.out NB139_138.out⟩
        have n7_ : Aside0 (Below w.heap.size w (((((((((((w12.setCell ⟨gb138, 0, none⟩ (.int .i64 t124)).setCell ⟨gb138, 1, none⟩ (.slice Ao17 t125.length co17)).setCell ⟨gb138, 2, none⟩ (.int .i64 t128)).setCell ⟨gb139, 0, none⟩ (.int .i64 t129)).setCell ⟨gb139, 1, none⟩ (.int .i64 t130)).setCell ⟨gb139, 2, none⟩ (.int .i64 t131)).setCell ⟨gb139, 3, none⟩ (.int .i64 t132)).setCell ⟨gb139, 4, none⟩ (.int .i64 t133)).setCell ⟨gb139, 5, none⟩ (.int .i64 t134)).setCell ⟨gb139, 6, none⟩ (.string t135)).setCell ⟨gb139, 7, none⟩ (.int .i64 t136))) := ⟨LG HB.out (G1 GE122.out (G1 GE123.out (G1 GE138.out (G1 GE139.out G0))))⟩
        (try clear HO_4)
        (try clear HO_123001)
        (try clear HO127)
        (try clear BK122)
        (try clear BK123)
        (try clear BK138)
        (try clear BK139)
        (try clear HB)
        generalize (((((((((((w12.setCell ⟨gb138, 0, none⟩ (.int .i64 t124)).setCell ⟨gb138, 1, none⟩ (.slice Ao17 t125.length co17)).setCell ⟨gb138, 2, none⟩ (.int .i64 t128)).setCell ⟨gb139, 0, none⟩ (.int .i64 t129)).setCell ⟨gb139, 1, none⟩ (.int .i64 t130)).setCell ⟨gb139, 2, none⟩ (.int .i64 t131)).setCell ⟨gb139, 3, none⟩ (.int .i64 t132)).setCell ⟨gb139, 4, none⟩ (.int .i64 t133)).setCell ⟨gb139, 5, none⟩ (.int .i64 t134)).setCell ⟨gb139, 6, none⟩ (.string t135)).setCell ⟨gb139, 7, none⟩ (.int .i64 t136)) = w21 at n0_ n1_ n2_ n3_ n4_ n5_ n6_ n7_ ⊢
        have HO_4 := n0_
        have HO_123001 := n1_
        have HO127 := n2_
        have BK122 := n3_
        have BK123 := n4_
        have BK138 := n5_
        have BK139 := n6_
        have HB := n7_
        clear n0_ n1_ n2_ n3_ n4_ n5_ n6_ n7_
        have n0_ := Aside0.mk (Kd.R_drew HO_4.out)
        have n1_ := Aside0.mk (Kd.V_drew HO_123001.out)
        have n2_ := Aside0.mk (Kd.V_drew HO127.out)
        have n3_ := Aside0.mk (blk_drew BK122.out)
        have n4_ := Aside0.mk (blk_drew BK123.out)
        have n5_ := Aside0.mk (blk_drew BK138.out)
        have n6_ := Aside0.mk (blk_drew BK139.out)
        have n7_ := Aside0.mk (below_drew1 HB.out)
        clear HO_4
        clear HO_123001
        clear HO127
        clear BK122
        clear BK123
        clear BK138
        clear BK139
        clear HB
        have HO_4 := n0_
        have HO_123001 := n1_
        have HO127 := n2_
        have BK122 := n3_
        have BK123 := n4_
        have BK138 := n5_
        have BK139 := n6_
        have HB := n7_
        clear n0_ n1_ n2_ n3_ n4_ n5_ n6_ n7_
        refine start_ (n := 7) (S := fun w' => w'.cell? ⟨gb138, 0, none⟩ = some (.int .i64 t124) ∧ w'.cell? ⟨gb138, 1, none⟩ = some (.slice Ao17 t125.length co17) ∧ w'.cell? ⟨gb138, 2, none⟩ = some (.int .i64 t128) ∧ w'.cell? ⟨gb139, 0, none⟩ = some (.int .i64 t129) ∧ w'.cell? ⟨gb139, 1, none⟩ = some (.int .i64 t130) ∧ w'.cell? ⟨gb139, 2, none⟩ = some (.int .i64 t131) ∧ w'.cell? ⟨gb139, 3, none⟩ = some (.int .i64 t132) ∧ w'.cell? ⟨gb139, 4, none⟩ = some (.int .i64 t133) ∧ w'.cell? ⟨gb139, 5, none⟩ = some (.int .i64 t134) ∧ w'.cell? ⟨gb139, 6, none⟩ = some (.string t135) ∧ w'.cell? ⟨gb139, 7, none⟩ = some (.int .i64 t136)) (ds := []) #[false, false, false, false, false, false, false] (by kernel_rfl) rfl rfl ⟨(blk_cell BK138.out 0).trans rfl, (blk_cell BK138.out 1).trans rfl, (blk_cell BK138.out 2).trans rfl, (blk_cell BK139.out 0).trans rfl, (blk_cell BK139.out 1).trans rfl, (blk_cell BK139.out 2).trans rfl, (blk_cell BK139.out 3).trans rfl, (blk_cell BK139.out 4).trans rfl, (blk_cell BK139.out 5).trans rfl, (blk_cell BK139.out 6).trans rfl, (blk_cell BK139.out 7).trans rfl⟩ (fun hHeld => ?_)
        generalize w21.drew = w22 at HO_4 HO_123001 HO127 BK122 BK123 BK138 BK139 HB hHeld ⊢
        refine pure_ (i := 1) (N := some 19) (v := ?_) (a' := ?_) #[false, true, false, false, false, false, false] rfl rfl (by kernel_rfl) (fun _ _ _ h => h) (Or.inl ⟨by rfl, ?_⟩) ?_ ?_
        rotate_left
        · intro w'
          go_simp
          with_reducible rfl
        rotate_left
        · simp only [Act.put, PU, i64_w, i32_w]
          rfl
        refine take_ (i := 0) (N := some 18) (v := ?_) (a' := ?_) #[true, true, false, false, false, false, false] rfl rfl (by kernel_rfl) (fun _ _ _ h => h) (Or.inl ⟨by rfl, ?_⟩) hHeld ?_ ?_
        rotate_left
        · rintro w' ⟨s0, s1, s2, s3, s4, s5, s6, s7, s8, s9, s10⟩
          go_simp
          with_reducible rfl
        rotate_left
        · simp only [Act.put, PU, i64_w, i32_w]
          rfl
        refine take_ (i := 2) (N := some 20) (v := ?_) (a' := ?_) #[true, true, true, false, false, false, false] rfl rfl (by kernel_rfl) (fun _ _ _ h => h) (Or.inl ⟨by rfl, ?_⟩) hHeld ?_ ?_
        rotate_left
        · rintro w' ⟨s0, s1, s2, s3, s4, s5, s6, s7, s8, s9, s10⟩
          go_simp
          with_reducible rfl
        rotate_left
        · simp only [Act.put, PU, i64_w, i32_w]
          rfl
        refine one_ (i := 3) (N := some 21) #[true, true, true, true, false, false, false] rfl rfl (by kernel_rfl) (by decide) (fun K hK => ?_)
        refine value_ (w1 := ?_) (v := ?_) (by rfl) rfl ?_ ?_
        rotate_left 2
        · go_simp
          constructor
          · rfl
          · rfl
        refine hK.out _ _ ⟨(blk_cell (blk_alloc BK138.out _) 0).trans rfl, (blk_cell (blk_alloc BK138.out _) 1).trans rfl, (blk_cell (blk_alloc BK138.out _) 2).trans rfl, (blk_cell (blk_alloc BK139.out _) 0).trans rfl, (blk_cell (blk_alloc BK139.out _) 1).trans rfl, (blk_cell (blk_alloc BK139.out _) 2).trans rfl, (blk_cell (blk_alloc BK139.out _) 3).trans rfl, (blk_cell (blk_alloc BK139.out _) 4).trans rfl, (blk_cell (blk_alloc BK139.out _) 5).trans rfl, (blk_cell (blk_alloc BK139.out _) 6).trans rfl, (blk_cell (blk_alloc BK139.out _) 7).trans rfl⟩ (fun hHeld => ?_)
        clear hK K
        refine norm_ (a' := ?_) ?_ ?_
        rotate_left
        · show Act.put _ (some 21) _ = _
          simp only [Act.put, PU, i64_w, i32_w]
          rfl
        refine one_ (i := 4) (N := some 22) #[true, true, true, true, true, false, false] rfl rfl (by kernel_rfl) (by decide) (fun K hK => ?_)
        refine Kd.R_append_step k36 (w0 := w) w.heap.size (by rfl) (.tmp 19) (.tmp 21) 22 36 (.agg #[(.int .i64 0), (.int .i64 0), (.int .i64 0), (.int .i64 0), (.int .i64 0), (.int .i64 0), (.string ⟨#[]⟩), (.int .i64 0)]) 72 rfl Try.underlying22 info36 rfl (by decide) (by omega) u4 x4_1 (⟨t129, (⟨t130, t131, t132, t133, t134, t135⟩ : S34), t136⟩ : S36) [.int .i64 t129, .int .i64 t130, .int .i64 t131, .int .i64 t132, .int .i64 t133, .int .i64 t134, .string t135, .int .i64 t136] (fun k_ => (w.heap.size ≤ k_) ∧ k_ ≠ gb139) (fun _ => False) rfl rfl ?aP (fun _ hk => hk.elim) ?aF ?aO ?aB ?aS ?aL ?_
        (case aP => exact k36_mkM _ _ _ (⟨t129, (⟨t130, t131, t132, t133, t134, t135⟩ : S34), t136⟩ : S36))
        (case aB => exact (LG HB.out (G1 GE122.out (G1 GE123.out (G1 GE138.out (G1 GE139.out G0))))))
        (case aF => exact (fun k_ hk => ⟨(Nat.le_trans (below_size (LG HB.out (G1 GE122.out (G1 GE123.out (G1 GE138.out (G1 GE139.out G0)))))) hk), Kd.freshB (g := gb139) (o := .cells #[.int .i64 t129, .int .i64 t130, .int .i64 t131, .int .i64 t132, .int .i64 t133, .int .i64 t134, .string t135, .int .i64 t136] 36 (0, 0)) (BA BK139.out) k_ hk⟩))
        (case aO => exact (Kd.RA HO_4.out))
        (case aS => exact (below_size (LG HB.out (G1 GE122.out (G1 GE123.out (G1 GE138.out (G1 GE139.out G0)))))))
        (case aL => have := LMc6.out; omega)
        intro v141 w23 ho hb hg hat
        rw [← Ny140.out] at ho
        have n0_ := Aside0.mk (Kd.V_afterv (ok := (fun k_ => (P0_1_ k_ ∨ w.heap.size ≤ k_) ∧ k_ ≠ gb122 ∧ k_ ≠ gb123 ∧ k_ ≠ gb138 ∧ k_ ≠ gb139)) (Kd.VA (Kd.V_mono HO_123001.out (fun _ hk => ⟨⟨hk.1, ⟨hk.2.2.1, ⟨hk.2.2.2.1, ⟨hk.2.2.2.2.1, hk.2.2.2.2.2⟩⟩⟩⟩, hk.2.1⟩))) hg hat)
        have n1_ := Aside0.mk (blk_grown (g := gb122) (o := .cells #[.int .i64 x123000_1, .slice Ao9 x123001_1.length co9, .int .i64 x123002_1] 27 (0, 0)) (BA BK122.out) hg (Kd.R_ne HO_4.out BK122.out (by decide)))
        have n2_ := Aside0.mk (blk_grown (g := gb123) (o := .cells #[.int .i64 x124000_1, .slice none 0 0, .int .i64 x124002_1] 27 (0, 0)) (BA BK123.out) hg (Kd.R_ne HO_4.out BK123.out (by decide)))
        have n3_ := Aside0.mk (Kd.V_afterv (ok := (fun k_ => (P0_1_ k_ ∨ w.heap.size ≤ k_) ∧ k_ ≠ gb122 ∧ k_ ≠ gb123 ∧ k_ ≠ gb138 ∧ k_ ≠ gb139)) (Kd.VA (Kd.V_mono HO127.out (fun _ hk => ⟨⟨hk.1, ⟨hk.2.2.1, ⟨hk.2.2.2.1, ⟨hk.2.2.2.2.1, hk.2.2.2.2.2⟩⟩⟩⟩, hk.2.1⟩))) hg hat)
        have n4_ := Aside0.mk (blk_grown (g := gb138) (o := .cells #[.int .i64 t124, .slice Ao17 t125.length co17, .int .i64 t128] 27 (0, 0)) (BA BK138.out) hg (Kd.R_ne HO_4.out BK138.out (by decide)))
        have n5_ := Aside0.mk (blk_grown (g := gb139) (o := .cells #[.int .i64 t129, .int .i64 t130, .int .i64 t131, .int .i64 t132, .int .i64 t133, .int .i64 t134, .string t135, .int .i64 t136] 36 (0, 0)) (BA BK139.out) hg (Kd.R_away HO_4.out (fun _ hk => hk.2)))
        have n6_ := Aside0.mk (hb)
        have n7_ := Aside0.mk (ho)
        clear HO_123001
        clear BK122
        clear BK123
        clear HO127
        clear BK138
        clear BK139
        clear HB
        clear HO_4
        have HO_123001 := n0_
        have BK122 := n1_
        have BK123 := n2_
        have HO127 := n3_
        have BK138 := n4_
        have BK139 := n5_
        have HB := n6_
        have HO142 := n7_
        clear n0_ n1_ n2_ n3_ n4_ n5_ n6_ n7_
        clear ho hb hg hat
        refine hK.out _ _ ⟨(blk_cell BK138.out 0).trans rfl, (blk_cell BK138.out 1).trans rfl, (blk_cell BK138.out 2).trans rfl, (blk_cell BK139.out 0).trans rfl, (blk_cell BK139.out 1).trans rfl, (blk_cell BK139.out 2).trans rfl, (blk_cell BK139.out 3).trans rfl, (blk_cell BK139.out 4).trans rfl, (blk_cell BK139.out 5).trans rfl, (blk_cell BK139.out 6).trans rfl, (blk_cell BK139.out 7).trans rfl⟩ (fun hHeld => ?_)
        clear hK K
        refine norm_ (a' := ?_) ?_ ?_
        rotate_left
        · show Act.put _ (some 22) _ = _
          simp only [Act.put, PU, i64_w, i32_w]
          rfl
        refine one_ (i := 5) (N := none) #[true, true, true, true, true, true, false] rfl rfl (by kernel_rfl) (by decide) (fun K hK => ?_)
        have hs24 : w23.cell? ⟨gb122, 0, none⟩ = some (.int .i64 x123000_1) := (blk_cell BK122.out 0).trans rfl
        have hfs24 := blk_frozen BK122.out 0
        have hns24_1 := NB123_122.out
        have hns24_2 := NB138_122.out
        have hns24_3 := NB139_122.out
        have hms24_1 := NB122_123.out
        have hms24_2 := NB122_138.out
        have hms24_3 := NB122_139.out
        have hs25 : w23.cell? ⟨gb122, 1, none⟩ = some (.slice Ao9 x123001_1.length co9) := (blk_cell BK122.out 1).trans rfl
        have hfs25 := blk_frozen BK122.out 1
        have hns25_1 := NB123_122.out
        have hns25_2 := NB138_122.out
        have hns25_3 := NB139_122.out
        have hms25_1 := NB122_123.out
        have hms25_2 := NB122_138.out
        have hms25_3 := NB122_139.out
        have hs26 : w23.cell? ⟨gb122, 2, none⟩ = some (.int .i64 x123002_1) := (blk_cell BK122.out 2).trans rfl
        have hfs26 := blk_frozen BK122.out 2
        have hns26_1 := NB123_122.out
        have hns26_2 := NB138_122.out
        have hns26_3 := NB139_122.out
        have hms26_1 := NB122_123.out
        have hms26_2 := NB122_138.out
        have hms26_3 := NB122_139.out
        refine skip_ (w1 := ?_) (by rfl) rfl ?_ ?_
        rotate_left
        · go_simp
          rfl
        refine hK.out _ _ ⟨((cell_far (p := ⟨gb122, _, none⟩) NB138_122.out _).trans (((cell_far (p := ⟨gb122, _, none⟩) NB138_122.out _).trans (((cell_far (p := ⟨gb122, _, none⟩) NB138_122.out _).trans (hHeld.1)))))), ((cell_far (p := ⟨gb122, _, none⟩) NB138_122.out _).trans (((cell_far (p := ⟨gb122, _, none⟩) NB138_122.out _).trans (((cell_far (p := ⟨gb122, _, none⟩) NB138_122.out _).trans (hHeld.2.1)))))), ((cell_far (p := ⟨gb122, _, none⟩) NB138_122.out _).trans (((cell_far (p := ⟨gb122, _, none⟩) NB138_122.out _).trans (((cell_far (p := ⟨gb122, _, none⟩) NB138_122.out _).trans (hHeld.2.2.1)))))), ((cell_far (p := ⟨gb122, _, none⟩) NB139_122.out _).trans (((cell_far (p := ⟨gb122, _, none⟩) NB139_122.out _).trans (((cell_far (p := ⟨gb122, _, none⟩) NB139_122.out _).trans (hHeld.2.2.2.1)))))), ((cell_far (p := ⟨gb122, _, none⟩) NB139_122.out _).trans (((cell_far (p := ⟨gb122, _, none⟩) NB139_122.out _).trans (((cell_far (p := ⟨gb122, _, none⟩) NB139_122.out _).trans (hHeld.2.2.2.2.1)))))), ((cell_far (p := ⟨gb122, _, none⟩) NB139_122.out _).trans (((cell_far (p := ⟨gb122, _, none⟩) NB139_122.out _).trans (((cell_far (p := ⟨gb122, _, none⟩) NB139_122.out _).trans (hHeld.2.2.2.2.2.1)))))), ((cell_far (p := ⟨gb122, _, none⟩) NB139_122.out _).trans (((cell_far (p := ⟨gb122, _, none⟩) NB139_122.out _).trans (((cell_far (p := ⟨gb122, _, none⟩) NB139_122.out _).trans (hHeld.2.2.2.2.2.2.1)))))), ((cell_far (p := ⟨gb122, _, none⟩) NB139_122.out _).trans (((cell_far (p := ⟨gb122, _, none⟩) NB139_122.out _).trans (((cell_far (p := ⟨gb122, _, none⟩) NB139_122.out _).trans (hHeld.2.2.2.2.2.2.2.1)))))), ((cell_far (p := ⟨gb122, _, none⟩) NB139_122.out _).trans (((cell_far (p := ⟨gb122, _, none⟩) NB139_122.out _).trans (((cell_far (p := ⟨gb122, _, none⟩) NB139_122.out _).trans (hHeld.2.2.2.2.2.2.2.2.1)))))), ((cell_far (p := ⟨gb122, _, none⟩) NB139_122.out _).trans (((cell_far (p := ⟨gb122, _, none⟩) NB139_122.out _).trans (((cell_far (p := ⟨gb122, _, none⟩) NB139_122.out _).trans (hHeld.2.2.2.2.2.2.2.2.2.1)))))), ((cell_far (p := ⟨gb122, _, none⟩) NB139_122.out _).trans (((cell_far (p := ⟨gb122, _, none⟩) NB139_122.out _).trans (((cell_far (p := ⟨gb122, _, none⟩) NB139_122.out _).trans (hHeld.2.2.2.2.2.2.2.2.2.2))))))⟩ (fun hHeld => ?_)
        clear hK K
        refine pure_ (i := 6) (N := some 4) (v := ?_) (a' := ?_) #[true, true, true, true, true, true, true] rfl rfl (by kernel_rfl) (fun _ _ _ h => h) (Or.inl ⟨by rfl, ?_⟩) ?_ ?_
        rotate_left
        · intro w'
          go_simp
          with_reducible rfl
        rotate_left
        · simp only [Act.put, PU, i64_w, i32_w]
          rfl
        refine done_ (by kernel_rfl) ?_
        try go_wp2
        refine wp_goto ⟨rfl, hL9_ _ _ ?_⟩
        go_roundg k1
        case measure => have := HK1.out; omega
        case rel => exact ⟨(y140), (t124), (t125), (t128), (x124000_1), (x124002_1), (.slice Ao17 t125.length co17), H', ⟨by have := HK1.out; omega⟩, ⟨by (with_reducible repeat (first | apply Kd.R_alloc | apply Kd.R_drewN | apply Kd.R_drew)); exact Kd.R_mono (Kd.R_mv (g := gb122) (Kd.R_types HO142.out BK122.out (by decide)) (fun _ hk => hk.2)) (fun _ hk => hk.1.1)⟩, ⟨by (with_reducible repeat (first | apply Kd.V_alloc | apply Kd.V_drewN | apply Kd.V_drew)); exact Kd.V_mono (Kd.V_mv (g := gb122) (Kd.V_mono HO127.out (fun k_ hk => (⟨hk, hk.1.2.1⟩ : _ ∧ k_ ≠ gb122))) (fun _ hk => hk.2)) (fun _ hk => ⟨hk.1.1.1, ⟨hk.1.2, ⟨hk.1.1.2.1, hk.1.1.2.2.1⟩⟩⟩)⟩, ⟨by exact BP BK122.out (by rfl)⟩, ⟨by exact BF BK123.out NB123_122.out⟩, ⟨LG HB.out (G1 GE122.out (G1 GE123.out (G1 GE138.out (G1 GE139.out G0))))⟩⟩
      · rw [if_neg c5] at H
        have c5b0 : (t137 == 0) = false := beq_eq_false_iff_ne.mpr c5
        have c5b1 : (t137 != 0) = true := bne_iff_ne.mpr c5
        simp only [Option.some.injEq, Prod.mk.injEq] at H
        obtain ⟨rfl, rfl, rfl, rfl⟩ := H
        have hnb27 := NB122_123.out
        have hnc27 := NB123_122.out
        have hcz28_0 : wr.cell? ⟨gb122, 0, none⟩ = some (.int .i64 x123000_1) := (blk_cell BK122.out 0).trans rfl
        have hcz28_1 : wr.cell? ⟨gb122, 1, none⟩ = some (u123001) := (blk_cell BK122.out 1).trans rfl
        have hcz28_2 : wr.cell? ⟨gb122, 2, none⟩ = some (.int .i64 x123002_1) := (blk_cell BK122.out 2).trans rfl
        have hfz28_0 := blk_frozen BK122.out 0
        have hfz28_1 := blk_frozen BK122.out 1
        have hfz28_2 := blk_frozen BK122.out 2
        obtain ⟨Ao29, co29, eo29⟩ := Kd.V_slice HO_123001.out
        subst eo29
        go_wp2_with (first | ((with_reducible refine gate_callee (f := 13) rfl ?_); refine goesL_ (some 10) rfl rfl Try.func13 (by kernel_rfl) rfl #[.agg #[.int .i64 x123000_1, .slice Ao29 x123001_1.length co29, .int .i64 x123002_1]] rfl (by (try simp only [List.map_toArray, List.map_cons, List.map_nil]); first | done | rfl | (simp only [List.length_drop, List.length_take]; rfl)) ?_; (with_reducible refine (feed_Read.calls x123000_1 (fun k_ => ((P0_1_ k_ ∨ w.heap.size ≤ k_) ∧ (some k_ ≠ (u4 : Value).ownBlock ∧ (k_ ≠ gb122 ∧ k_ ≠ gb123)))) _ _ x123001_1 x123002_1 t124 t125 t128 t129 t130 t131 t132 t133 t134 t135 t136 t137 _ ?side1 A4.out).mono ?_); (case side1 => exact HO_123001.out); rintro e w30 ⟨v126, rfl, ho0, hb⟩; refine ⟨_, rfl, ?_⟩; replace HO_123001 := Aside0.mk (Kd.V_below (Kd.VA HO_123001.out) hb); have HO127 := Aside0.mk (Kd.V_lower (Kd.V_mono (ok' := fun k_ => (P0_1_ k_ ∨ w.heap.size ≤ k_) ∧ some k_ ≠ (u4 : Value).ownBlock ∧ k_ ≠ gb122 ∧ k_ ≠ gb123) ho0 (fun k_ hk_ => ⟨Or.elim hk_ (fun hs_ => hs_.1) (fun hn_ => (.inr (Nat.le_trans (below_size (LA HB.out)) hn_))), Or.elim hk_ (fun hs_ => hs_.2.1) (fun hn_ => (Kd.fresh' (Kd.R_lt (Kd.RA HO_4.out)) k_ hn_)), Or.elim hk_ (fun hs_ => hs_.2.2.1) (fun hn_ => (Kd.freshB (g := gb122) (o := .cells #[.int .i64 x123000_1, .slice Ao29 x123001_1.length co29, .int .i64 x123002_1] 27 (0, 0)) (BA BK122.out) k_ hn_)), Or.elim hk_ (fun hs_ => hs_.2.2.2) (fun hn_ => (Kd.freshB (g := gb123) (o := .cells #[.int .i64 x124000_1, .slice none 0 0, .int .i64 x124002_1] 27 (0, 0)) (BA BK123.out) k_ hn_))⟩)) (below_size (LA HB.out))); replace HO_4 := Aside0.mk (Kd.R_below (Kd.RA HO_4.out) hb); replace BK122 := Aside0.mk (blk_below (BA BK122.out) hb); replace BK123 := Aside0.mk (blk_below (BA BK123.out) hb); replace HB := Aside0.mk (below_step (LA HB.out) hb); (try clear hb); (try clear hb2); (try clear hk); (try clear hi); (try clear ho0)) | ((with_reducible refine gate_dst (N := 5) rfl ?_); refine box_event ?hg (N := 5) ?hd (cs := #[.int .i64 0, .slice none 0 0, .int .i64 0]) (t := 27) ?hr ?_; (case hd => rfl); (case hg => rfl); (case hr => first | (go_simp; done) | (go_simp; rfl)); intro gb138 hg w31 hbox hb; replace HO_4 := Aside0.mk (Kd.R_below (Kd.RA HO_4.out) hb); replace HO_123001 := Aside0.mk (Kd.V_below (Kd.V_elderB (Kd.VA HO_123001.out) gb138 (Nat.le_of_eq hg.symm)) hb); replace HO127 := Aside0.mk (Kd.V_below (Kd.V_elderB (Kd.VA HO127.out) gb138 (Nat.le_of_eq hg.symm)) hb); have BK138 := Aside0.mk (hbox); have GE138 := Aside0.mk (ge1 hg (LA HB.out)); replace HB := Aside0.mk (below_step (LA HB.out) hb); have NB122_138 := Aside0.mk ((by rw [hg]; exact Nat.ne_of_lt (blk_lt (g := gb122) (o := .cells #[.int .i64 x123000_1, .slice Ao29 x123001_1.length co29, .int .i64 x123002_1] 27 (0, 0)) (BA BK122.out)) : gb122 ≠ gb138)); have NB138_122 := Aside0.mk ((by rw [hg]; exact Nat.ne_of_gt (blk_lt (g := gb122) (o := .cells #[.int .i64 x123000_1, .slice Ao29 x123001_1.length co29, .int .i64 x123002_1] 27 (0, 0)) (BA BK122.out)) : gb138 ≠ gb122)); replace BK122 := Aside0.mk (blk_below (BA BK122.out) hb); have NB123_138 := Aside0.mk ((by rw [hg]; exact Nat.ne_of_lt (blk_lt (g := gb123) (o := .cells #[.int .i64 x124000_1, .slice none 0 0, .int .i64 x124002_1] 27 (0, 0)) (BA BK123.out)) : gb123 ≠ gb138)); have NB138_123 := Aside0.mk ((by rw [hg]; exact Nat.ne_of_gt (blk_lt (g := gb123) (o := .cells #[.int .i64 x124000_1, .slice none 0 0, .int .i64 x124002_1] 27 (0, 0)) (BA BK123.out)) : gb138 ≠ gb123)); replace BK123 := Aside0.mk (blk_below (BA BK123.out) hb); clear hb hbox hg) | ((with_reducible refine gate_dst (N := 6) rfl ?_); refine box_event ?hg (N := 6) ?hd (cs := #[.int .i64 0, .int .i64 0, .int .i64 0, .int .i64 0, .int .i64 0, .int .i64 0, .string (⟨#[]⟩ : ByteArray), .int .i64 0]) (t := 36) ?hr ?_; (case hd => rfl); (case hg => rfl); (case hr => first | (go_simp; done) | (go_simp; rfl)); intro gb139 hg w32 hbox hb; replace HO_4 := Aside0.mk (Kd.R_below (Kd.R_elderB (Kd.RA HO_4.out) gb139 (Nat.le_of_eq hg.symm)) hb); replace HO_123001 := Aside0.mk (Kd.V_below (Kd.V_elderB (Kd.VA HO_123001.out) gb139 (Nat.le_of_eq hg.symm)) hb); replace HO127 := Aside0.mk (Kd.V_below (Kd.V_elderB (Kd.VA HO127.out) gb139 (Nat.le_of_eq hg.symm)) hb); have BK139 := Aside0.mk (hbox); have GE139 := Aside0.mk (ge1 hg (LA HB.out)); replace HB := Aside0.mk (below_step (LA HB.out) hb); have NB122_139 := Aside0.mk ((by rw [hg]; exact Nat.ne_of_lt (blk_lt (g := gb122) (o := .cells #[.int .i64 x123000_1, .slice Ao29 x123001_1.length co29, .int .i64 x123002_1] 27 (0, 0)) (BA BK122.out)) : gb122 ≠ gb139)); have NB139_122 := Aside0.mk ((by rw [hg]; exact Nat.ne_of_gt (blk_lt (g := gb122) (o := .cells #[.int .i64 x123000_1, .slice Ao29 x123001_1.length co29, .int .i64 x123002_1] 27 (0, 0)) (BA BK122.out)) : gb139 ≠ gb122)); replace BK122 := Aside0.mk (blk_below (BA BK122.out) hb); have NB123_139 := Aside0.mk ((by rw [hg]; exact Nat.ne_of_lt (blk_lt (g := gb123) (o := .cells #[.int .i64 x124000_1, .slice none 0 0, .int .i64 x124002_1] 27 (0, 0)) (BA BK123.out)) : gb123 ≠ gb139)); have NB139_123 := Aside0.mk ((by rw [hg]; exact Nat.ne_of_gt (blk_lt (g := gb123) (o := .cells #[.int .i64 x124000_1, .slice none 0 0, .int .i64 x124002_1] 27 (0, 0)) (BA BK123.out)) : gb139 ≠ gb123)); replace BK123 := Aside0.mk (blk_below (BA BK123.out) hb); have NB138_139 := Aside0.mk ((by rw [hg]; exact Nat.ne_of_lt (blk_lt (g := gb138) (o := .cells #[.int .i64 0, .slice none 0 0, .int .i64 0] 27 (0, 0)) (BA BK138.out)) : gb138 ≠ gb139)); have NB139_138 := Aside0.mk ((by rw [hg]; exact Nat.ne_of_gt (blk_lt (g := gb138) (o := .cells #[.int .i64 0, .slice none 0 0, .int .i64 0] 27 (0, 0)) (BA BK138.out)) : gb139 ≠ gb138)); replace BK138 := Aside0.mk (blk_below (BA BK138.out) hb); clear hb hbox hg; have hnb33 := NB138_122.out; have hnc33 := NB122_138.out; have hnb34 := NB138_123.out; have hnc34 := NB123_138.out; have hnb35 := NB138_139.out; have hnc35 := NB139_138.out; obtain ⟨hcz36_0, hcz36_1, hcz36_2, hfz36_0, hfz36_1, hfz36_2⟩ := cz3 BK138.out; obtain ⟨Ao37, co37, eo37⟩ := Kd.V_slice HO127.out; subst eo37; have hnb38 := NB139_122.out; have hnc38 := NB122_139.out; have hnb39 := NB139_123.out; have hnc39 := NB123_139.out; obtain ⟨hcz40_0, hcz40_1, hcz40_2, hcz40_3, hcz40_4, hcz40_5, hcz40_6, hcz40_7, hfz40_0, hfz40_1, hfz40_2, hfz40_3, hfz40_4, hfz40_5, hfz40_6, hfz40_7⟩ := cz8 BK139.out; obtain ⟨hcz41_0, hcz41_1, hcz41_2, hfz41_0, hfz41_1, hfz41_2⟩ := cz3 BK122.out; obtain ⟨hcz42_0, hcz42_1, hcz42_2, hfz42_0, hfz42_1, hfz42_2⟩ := cz3 BK123.out))
        refine of_ret ?_
        refine bodyPost_ret (results_ct rfl _ _ gb123 27 #[.int .i64 x123000_1, .slice Ao29 x123001_1.length co29, .int .i64 x123002_1] (0, 0) _ rfl (by (with_reducible repeat (first | refine blk_drewN ?_ _ | refine blk_drew ?_ | refine blk_alloc ?_ _)); refine blk_put (cs := #[.int .i64 x123000_1, .slice Ao29 x123001_1.length co29, .int .i64 x124002_1]) ?_ 2 _ rfl; (with_reducible repeat (first | refine blk_drewN ?_ _ | refine blk_drew ?_ | refine blk_alloc ?_ _)); refine blk_put (cs := #[.int .i64 x123000_1, .slice none 0 0, .int .i64 x124002_1]) ?_ 1 _ rfl; (with_reducible repeat (first | refine blk_drewN ?_ _ | refine blk_drew ?_ | refine blk_alloc ?_ _)); refine blk_put (cs := #[.int .i64 x124000_1, .slice none 0 0, .int .i64 x124002_1]) ?_ 0 _ rfl; exact BM BK123.out (N1 NB123_139.out (N1 NB123_138.out N0))) Try.underlying27 rfl (by kernel_rfl)) rfl ?_
        exact ⟨_, _, by first | rfl | (simp [errW_none, errW_some] <;> rfl) | (simp [*, errW_none, errW_some] <;> rfl), by (with_reducible repeat (first | apply Kd.V_alloc | apply Kd.V_drewN | apply Kd.V_drew)); exact Kd.V_mono (Kd.V_ms (gs := [gb123, gb139, gb138]) (Kd.V_mono (Kd.V_mono (Kd.V_mono HO_123001.out (fun k_ hk => (⟨hk, hk.1.2⟩ : _ ∧ k_ ≠ gb138))) (fun k_ hk => (⟨hk, hk.1.2⟩ : _ ∧ k_ ≠ gb139))) (fun k_ hk => (⟨hk, hk.1.1.1.1.2.2.2⟩ : _ ∧ k_ ≠ gb123))) (fun _ hk => N1 (hk.2) (N1 (hk.1.2) (N1 (hk.1.1.2) (N0))))) (fun _ hk => ⟨hk.1.1.1.1.1.1, hk.1.1.1.1.1.2.1⟩), by (with_reducible repeat (first | apply Kd.R_alloc | apply Kd.R_drewN | apply Kd.R_drew)); exact Kd.R_mono (Kd.R_ms (gs := [gb123, gb139, gb138]) (Kd.R_types (Kd.R_mono (Kd.R_types HO_4.out BK138.out (by decide)) (fun k_ hk => (⟨hk, hk.1.2⟩ : _ ∧ k_ ≠ gb139))) BK123.out (by decide)) (fun _ hk => N1 (hk.2) (N1 (hk.1.2) (N1 (hk.1.1.2) (N0))))) (fun _ hk => hk.1.1.1.1), LG HB.out (G1 GE122.out (G1 GE123.out (G1 GE138.out (G1 GE139.out G0))))⟩

-- GIVEN feed_All

end Go.Proofs.Ythmnedlaecekkaa.PFeedCovers
