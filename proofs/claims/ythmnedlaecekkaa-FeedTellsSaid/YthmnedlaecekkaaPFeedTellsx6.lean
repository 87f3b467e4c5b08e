/- What the functions that the law reaches answer, each as a plain Lean function, with a proof that the call in memory comes to that answer. Written by wip/tools/given.py of this session out of the print.py of the kit, with stand-ins for some functions. -/
import Derived.Test.YthmnedlaecekkaaPFeedTellsx0
import Derived.Test.YthmnedlaecekkaaPFeedTellsx1
namespace Go.Proofs.Ythmnedlaecekkaa.PFeedTells
open Go.RowKit Go.Proofs.YthmnedlaecekkaaW.PrintWords Go.Proofs.YthmnedlaecekkaaW.PrintLast Go.Proofs.YthmnedlaecekkaaW.PrintMore
attribute [local go_sem] max2_int min2_int max_two min_two max_three min_three max_four min_four   -- for this text's walks alone
set_option linter.unusedVariables false
set_option linter.unusedSimpArgs false

attribute [local go_sem high] eqA36
/-! ### hopperref14_New: function 12 -/
def hopperref14_New.f (a0 : Int) : Option (Int × (List (S36)) × Int × Int) := if a0 < 1 then (some (0, ([] : List (S36)), 0, 1)) else (if a0 > 16 then (some (0, ([] : List (S36)), 0, 1)) else (some (a0, ([] : List (S36)), 0, 0)))
set_option maxHeartbeats 8000000 in
set_option maxRecDepth 100000 in
theorem hopperref14_New.calls (a0 : Int) (r1 : Int) (r2 : List (S36)) (r3 : Int) (r4 : Int) (w : World) (h : hopperref14_New.f a0 = some (r1, r2, r3, r4)) :
    Calls Try.prog 12 #[.int .i64 a0] w fun e w' => ∃ v1_ : Value, e = .returned (.tuple #[.agg #[.int .i64 r1, v1_, .int .i64 r3], .int .i64 r4]) ∧ Kd.R k36 36 w' w.heap.size (fun _ => True) v1_ r2 ∧ Below w.heap.size w w' := by
  have hu24 := Try.underlying24
  have HB := Aside0.mk (Below.refl w.heap.size w)
  have H : (if a0 < 1 then (some (0, ([] : List (S36)), 0, 1)) else (if a0 > 16 then (some (0, ([] : List (S36)), 0, 1)) else (some (a0, ([] : List (S36)), 0, 0)))) = some (r1, r2, r3, r4) := h
  clear h
  by_cases c2 : a0 < 1
  · rw [if_pos c2] at H
    have c2b0 : decide (a0 < 1) = true := decide_eq_true c2
    clear c2
    simp only [Option.some.injEq, Prod.mk.injEq] at H
    obtain ⟨rfl, rfl, rfl, rfl⟩ := H
    go_enter Try.func12, Try.ntmps12
    go_wp2_with (first | ((with_reducible refine gate_dst (N := 2) rfl ?_); refine box_event ?hg (N := 2) ?hd (cs := #[.int .i64 0, .slice none 0 0, .int .i64 0]) (t := 24) ?hr ?_; (case hd => rfl); (case hg => rfl); (case hr => first | (go_simp; done) | (go_simp; rfl)); intro gb329 hg w3 hbox hb; have BK329 := Aside0.mk (hbox); have GE329 := Aside0.mk (ge1 hg (LA HB.out)); replace HB := Aside0.mk (below_step (LA HB.out) hb); clear hb hbox hg; obtain ⟨hcz4_0, hcz4_1, hcz4_2, hfz4_0, hfz4_1, hfz4_2⟩ := cz3 BK329.out))
    refine bodyPost_ret (results_ct rfl _ _ gb329 24 #[.int .i64 0, .slice none 0 0, .int .i64 0] (0, 0) _ rfl (BP BK329.out (by rfl)) Try.underlying24 rfl (by kernel_rfl)) rfl ?_
    exact ⟨_, by first | rfl | (simp [errW_none, errW_some] <;> rfl) | (simp [*, errW_none, errW_some] <;> rfl), by first | exact Kd.R_nil _ _ _ _ _ | exact Kd.N_nil _ _ _ _ _ | exact Kd.V_nil _ _ _ _ _ | exact Kd.Q_nil _ _ _ _ _ | exact Kd.S_nil _ _ _ _ _, LG HB.out (G1 GE329.out G0)⟩
  · rw [if_neg c2] at H
    have c2b0 : decide (a0 < 1) = false := decide_eq_false c2
    clear c2
    by_cases c5 : a0 > 16
    · rw [if_pos c5] at H
      have c5b0 : decide (16 < a0) = true := decide_eq_true c5
      clear c5
      simp only [Option.some.injEq, Prod.mk.injEq] at H
      obtain ⟨rfl, rfl, rfl, rfl⟩ := H
      go_enter Try.func12, Try.ntmps12
      go_wp2_with (first | ((with_reducible refine gate_dst (N := 2) rfl ?_); refine box_event ?hg (N := 2) ?hd (cs := #[.int .i64 0, .slice none 0 0, .int .i64 0]) (t := 24) ?hr ?_; (case hd => rfl); (case hg => rfl); (case hr => first | (go_simp; done) | (go_simp; rfl)); intro gb329 hg w6 hbox hb; have BK329 := Aside0.mk (hbox); have GE329 := Aside0.mk (ge1 hg (LA HB.out)); replace HB := Aside0.mk (below_step (LA HB.out) hb); clear hb hbox hg; obtain ⟨hcz7_0, hcz7_1, hcz7_2, hfz7_0, hfz7_1, hfz7_2⟩ := cz3 BK329.out))
      refine bodyPost_ret (results_ct rfl _ _ gb329 24 #[.int .i64 0, .slice none 0 0, .int .i64 0] (0, 0) _ rfl (BP BK329.out (by rfl)) Try.underlying24 rfl (by kernel_rfl)) rfl ?_
      exact ⟨_, by first | rfl | (simp [errW_none, errW_some] <;> rfl) | (simp [*, errW_none, errW_some] <;> rfl), by first | exact Kd.R_nil _ _ _ _ _ | exact Kd.N_nil _ _ _ _ _ | exact Kd.V_nil _ _ _ _ _ | exact Kd.Q_nil _ _ _ _ _ | exact Kd.S_nil _ _ _ _ _, LG HB.out (G1 GE329.out G0)⟩
    · rw [if_neg c5] at H
      have c5b0 : decide (16 < a0) = false := decide_eq_false c5
      clear c5
      simp only [Option.some.injEq, Prod.mk.injEq] at H
      obtain ⟨rfl, rfl, rfl, rfl⟩ := H
      go_enter Try.func12, Try.ntmps12
      go_wp2_with (first | ((with_reducible refine gate_dst (N := 2) rfl ?_); refine box_event ?hg (N := 2) ?hd (cs := #[.int .i64 0, .slice none 0 0, .int .i64 0]) (t := 24) ?hr ?_; (case hd => rfl); (case hg => rfl); (case hr => first | (go_simp; done) | (go_simp; rfl)); intro gb329 hg w8 hbox hb; have BK329 := Aside0.mk (hbox); have GE329 := Aside0.mk (ge1 hg (LA HB.out)); replace HB := Aside0.mk (below_step (LA HB.out) hb); clear hb hbox hg; obtain ⟨hcz9_0, hcz9_1, hcz9_2, hfz9_0, hfz9_1, hfz9_2⟩ := cz3 BK329.out))
      refine bodyPost_ret (results_ct rfl _ _ gb329 24 #[.int .i64 a0, .slice none 0 0, .int .i64 0] (0, 0) _ rfl (BP BK329.out (by rfl)) Try.underlying24 rfl (by kernel_rfl)) rfl ?_
      exact ⟨_, by first | rfl | (simp [errW_none, errW_some] <;> rfl) | (simp [*, errW_none, errW_some] <;> rfl), by first | exact Kd.R_nil _ _ _ _ _ | exact Kd.N_nil _ _ _ _ _ | exact Kd.V_nil _ _ _ _ _ | exact Kd.Q_nil _ _ _ _ _ | exact Kd.S_nil _ _ _ _ _, LG HB.out (G1 GE329.out G0)⟩

/-! ### hopperref14_Read: function 14 -/
def hopperref14_Read.f (a0_0 : Int) (l0_1 : List (S36)) (a0_2 : Int) : Option (Int × (List (S36)) × Int × Int × Int × Int × Int × Int × Int × ByteArray × Int × Int) := if (l0_1.length : Int) > 0 then (if 0 < (l0_1.length : Int) then (if 1 ≤ (l0_1.length : Int) then (some (a0_0, (l0_1.drop 1), a0_2, (rd_T36 l0_1 0).f0, (rd_T36 l0_1 0).f1.f0, (rd_T36 l0_1 0).f1.f1, (rd_T36 l0_1 0).f1.f2, (rd_T36 l0_1 0).f1.f3, (rd_T36 l0_1 0).f1.f4, (rd_T36 l0_1 0).f1.f5, (rd_T36 l0_1 0).f2, 0)) else (none)) else (none)) else (if a0_2 > 0 then (some (a0_0, l0_1, 0, 4, 0, 0, 0, 0, 0, (⟨#[]⟩ : ByteArray), a0_2, 0)) else (some (a0_0, l0_1, a0_2, 0, 0, 0, 0, 0, 0, (⟨#[]⟩ : ByteArray), 0, 7)))
set_option maxHeartbeats 8000000 in
set_option maxRecDepth 100000 in
theorem hopperref14_Read.calls (a0_0 : Int) (P0_1_ : Nat → Prop) (A0_1 : Option Addr) (c0_1 : Nat) (l0_1 : List (S36)) (a0_2 : Int) (r1 : Int) (r2 : List (S36)) (r3 : Int) (r4 : Int) (r5 : Int) (r6 : Int) (r7 : Int) (r8 : Int) (r9 : Int) (r10 : ByteArray) (r11 : Int) (r12 : Int) (w : World) (hs0_1 : Kd.V k36 36 w w.heap.size (fun k_ => P0_1_ k_) (.slice A0_1 l0_1.length c0_1) l0_1) (h : hopperref14_Read.f a0_0 l0_1 a0_2 = some (r1, r2, r3, r4, r5, r6, r7, r8, r9, r10, r11, r12)) :
    Calls Try.prog 14 #[.agg #[.int .i64 a0_0, .slice A0_1 l0_1.length c0_1, .int .i64 a0_2]] w fun e w' => ∃ v1_ : Value, e = .returned (.tuple #[.agg #[.int .i64 r1, v1_, .int .i64 r3], .agg #[.int .i64 r4, .int .i64 r5, .int .i64 r6, .int .i64 r7, .int .i64 r8, .int .i64 r9, .string r10, .int .i64 r11], .int .i64 r12]) ∧ Kd.V k36 36 w' w.heap.size (fun k_ => (P0_1_ k_ ∨ w.heap.size ≤ k_)) v1_ r2 ∧ Below w.heap.size w w' := by
  have hu24 := Try.underlying24
  have hu36 := Try.underlying36
  have HO0_1 := Aside0.mk (show Kd.V k36 36 w w.heap.size (fun k_ => (P0_1_ k_ ∨ w.heap.size ≤ k_)) (.slice A0_1 l0_1.length c0_1) l0_1 from Kd.V_mono hs0_1 (fun k_ hk => .inl hk))
  have HB := Aside0.mk (Below.refl w.heap.size w)
  have H : (if (l0_1.length : Int) > 0 then (if 0 < (l0_1.length : Int) then (if 1 ≤ (l0_1.length : Int) then (some (a0_0, (l0_1.drop 1), a0_2, (rd_T36 l0_1 0).f0, (rd_T36 l0_1 0).f1.f0, (rd_T36 l0_1 0).f1.f1, (rd_T36 l0_1 0).f1.f2, (rd_T36 l0_1 0).f1.f3, (rd_T36 l0_1 0).f1.f4, (rd_T36 l0_1 0).f1.f5, (rd_T36 l0_1 0).f2, 0)) else (none)) else (none)) else (if a0_2 > 0 then (some (a0_0, l0_1, 0, 4, 0, 0, 0, 0, 0, (⟨#[]⟩ : ByteArray), a0_2, 0)) else (some (a0_0, l0_1, a0_2, 0, 0, 0, 0, 0, 0, (⟨#[]⟩ : ByteArray), 0, 7)))) = some (r1, r2, r3, r4, r5, r6, r7, r8, r9, r10, r11, r12) := h
  clear h
  by_cases c2 : (l0_1.length : Int) > 0
  · rw [if_pos c2] at H
    have c2b0 : decide (0 < (l0_1.length : Int)) = true := decide_eq_true c2
    have c2b1 : decide (0 < l0_1.length) = true := decide_eq_true (by omega)
    clear c2
    by_cases c3 : 0 < (l0_1.length : Int)
    rotate_left
    · rw [if_neg c3] at H
      exact absurd H (by simp)
    rw [if_pos c3] at H
    have c3b0 : decide (0 < (l0_1.length : Int)) = true := decide_eq_true c3
    have c3b1 : decide (0 < l0_1.length) = true := decide_eq_true (by omega)
    clear c3
    by_cases c4 : 1 ≤ (l0_1.length : Int)
    rotate_left
    · rw [if_neg c4] at H
      exact absurd H (by simp)
    rw [if_pos c4] at H
    have c4b0 := eq_true c4
    have c4b1 : decide (1 ≤ (l0_1.length : Int)) = true := decide_eq_true c4
    clear c4
    obtain ⟨y335, hy335⟩ : ∃ y_ : List (S36), y_ = (l0_1.drop 1) := ⟨_, rfl⟩
    replace H : (some (a0_0, y335, a0_2, (rd_T36 l0_1 0).f0, (rd_T36 l0_1 0).f1.f0, (rd_T36 l0_1 0).f1.f1, (rd_T36 l0_1 0).f1.f2, (rd_T36 l0_1 0).f1.f3, (rd_T36 l0_1 0).f1.f4, (rd_T36 l0_1 0).f1.f5, (rd_T36 l0_1 0).f2, 0)) = some (r1, r2, r3, r4, r5, r6, r7, r8, r9, r10, r11, r12) := by first | (rw [hy335]; with_reducible exact H) | (have H2_ := (Option.bind_some _ _).symm.trans H; rw [hy335]; with_reducible exact H2_) | (have H2_ := (Option.bind_some _ _).symm.trans H; with_reducible exact H2_) | with_reducible exact H | (rw [hy335]; exact H) | exact H
    have Ny335 := Aside0.mk hy335
    clear hy335
    simp only [Option.some.injEq, Prod.mk.injEq] at H
    obtain ⟨rfl, rfl, rfl, rfl, rfl, rfl, rfl, rfl, rfl, rfl, rfl, rfl⟩ := H
    go_enter Try.func14, Try.ntmps14
    try go_wp2_with (first | ((with_reducible refine gate_dst (N := 1) rfl ?_); refine box_event ?hg (N := 1) ?hd (cs := #[.int .i64 a0_0, .slice A0_1 l0_1.length c0_1, .int .i64 a0_2]) (t := 24) ?hr ?_; (case hd => rfl); (case hg => rfl); (case hr => first | (go_simp; done) | (go_simp; rfl)); intro gb330 hg w5 hbox hb; replace HO0_1 := Aside0.mk (Kd.V_below (Kd.V_elderB (Kd.VA HO0_1.out) gb330 (Nat.le_of_eq hg.symm)) hb); have BK330 := Aside0.mk (hbox); have GE330 := Aside0.mk (ge1 hg (LA HB.out)); replace HB := Aside0.mk (below_step (LA HB.out) hb); clear hb hbox hg) | ((with_reducible refine gate_dst (N := 2) rfl ?_); refine box_event ?hg (N := 2) ?hd (cs := #[.int .i64 0, .slice none 0 0, .int .i64 0]) (t := 24) ?hr ?_; (case hd => rfl); (case hg => rfl); (case hr => first | (go_simp; done) | (go_simp; rfl)); intro gb331 hg w6 hbox hb; replace HO0_1 := Aside0.mk (Kd.V_below (Kd.V_elderB (Kd.VA HO0_1.out) gb331 (Nat.le_of_eq hg.symm)) hb); have BK331 := Aside0.mk (hbox); have GE331 := Aside0.mk (ge1 hg (LA HB.out)); replace HB := Aside0.mk (below_step (LA HB.out) hb); have NB330_331 := Aside0.mk ((by rw [hg]; exact Nat.ne_of_lt (blk_lt (g := gb330) (o := .cells #[.int .i64 a0_0, .slice A0_1 l0_1.length c0_1, .int .i64 a0_2] 24 (0, 0)) (BA BK330.out)) : gb330 ≠ gb331)); have NB331_330 := Aside0.mk ((by rw [hg]; exact Nat.ne_of_gt (blk_lt (g := gb330) (o := .cells #[.int .i64 a0_0, .slice A0_1 l0_1.length c0_1, .int .i64 a0_2] 24 (0, 0)) (BA BK330.out)) : gb331 ≠ gb330)); replace BK330 := Aside0.mk (blk_below (BA BK330.out) hb); clear hb hbox hg) | ((with_reducible refine gate_dst (N := 3) rfl ?_); refine box_event ?hg (N := 3) ?hd (cs := #[.int .i64 0, .int .i64 0, .int .i64 0, .int .i64 0, .int .i64 0, .int .i64 0, .string (⟨#[]⟩ : ByteArray), .int .i64 0]) (t := 36) ?hr ?_; (case hd => rfl); (case hg => rfl); (case hr => first | (go_simp; done) | (go_simp; rfl)); intro gb332 hg w7 hbox hb; replace HO0_1 := Aside0.mk (Kd.V_below (Kd.V_elderB (Kd.VA HO0_1.out) gb332 (Nat.le_of_eq hg.symm)) hb); have BK332 := Aside0.mk (hbox); have GE332 := Aside0.mk (ge1 hg (LA HB.out)); replace HB := Aside0.mk (below_step (LA HB.out) hb); have NB330_332 := Aside0.mk ((by rw [hg]; exact Nat.ne_of_lt (blk_lt (g := gb330) (o := .cells #[.int .i64 a0_0, .slice A0_1 l0_1.length c0_1, .int .i64 a0_2] 24 (0, 0)) (BA BK330.out)) : gb330 ≠ gb332)); have NB332_330 := Aside0.mk ((by rw [hg]; exact Nat.ne_of_gt (blk_lt (g := gb330) (o := .cells #[.int .i64 a0_0, .slice A0_1 l0_1.length c0_1, .int .i64 a0_2] 24 (0, 0)) (BA BK330.out)) : gb332 ≠ gb330)); replace BK330 := Aside0.mk (blk_below (BA BK330.out) hb); have NB331_332 := Aside0.mk ((by rw [hg]; exact Nat.ne_of_lt (blk_lt (g := gb331) (o := .cells #[.int .i64 0, .slice none 0 0, .int .i64 0] 24 (0, 0)) (BA BK331.out)) : gb331 ≠ gb332)); have NB332_331 := Aside0.mk ((by rw [hg]; exact Nat.ne_of_gt (blk_lt (g := gb331) (o := .cells #[.int .i64 0, .slice none 0 0, .int .i64 0] 24 (0, 0)) (BA BK331.out)) : gb332 ≠ gb331)); replace BK331 := Aside0.mk (blk_below (BA BK331.out) hb); clear hb hbox hg; have hnb8 := NB330_331.out; have hnc8 := NB331_330.out; have hnb9 := NB330_332.out; have hnc9 := NB332_330.out; obtain ⟨hcz10_0, hcz10_1, hcz10_2, hfz10_0, hfz10_1, hfz10_2⟩ := cz3 BK330.out; have p333 : 0 ≤ (0 : Int) := (by omega); have q333 : 0 < (l0_1.length : Int) := of_decide_eq_true (by first | (with_reducible assumption) | assumption); obtain ⟨ad333, e333, hx333_0, hx333_1, hx333_2, hx333_3, hx333_4, hx333_5, hx333_6, hx333_7⟩ := at_T36 (Kd.V_reads' HO0_1.out).2.2 0 p333 q333; cases e333; have qi333 : (0 < l0_1.length) = True := eq_true (by omega); (try rw [show ((0 : Int)).toNat = 0 from rfl] at hx333_0); (try rw [show 0 * 8 = 0 from rfl] at hx333_0); (try rw [Addr.add_zero'] at hx333_0); (try rw [show ((0 : Int)).toNat = 0 from rfl] at hx333_1); (try rw [show 0 * 8 = 0 from rfl] at hx333_1); (try rw [Addr.add_zero'] at hx333_1); (try rw [show ((0 : Int)).toNat = 0 from rfl] at hx333_2); (try rw [show 0 * 8 = 0 from rfl] at hx333_2); (try rw [Addr.add_zero'] at hx333_2); (try rw [show ((0 : Int)).toNat = 0 from rfl] at hx333_3); (try rw [show 0 * 8 = 0 from rfl] at hx333_3); (try rw [Addr.add_zero'] at hx333_3); (try rw [show ((0 : Int)).toNat = 0 from rfl] at hx333_4); (try rw [show 0 * 8 = 0 from rfl] at hx333_4); (try rw [Addr.add_zero'] at hx333_4); (try rw [show ((0 : Int)).toNat = 0 from rfl] at hx333_5); (try rw [show 0 * 8 = 0 from rfl] at hx333_5); (try rw [Addr.add_zero'] at hx333_5); (try rw [show ((0 : Int)).toNat = 0 from rfl] at hx333_6); (try rw [show 0 * 8 = 0 from rfl] at hx333_6); (try rw [Addr.add_zero'] at hx333_6); (try rw [show ((0 : Int)).toNat = 0 from rfl] at hx333_7); (try rw [show 0 * 8 = 0 from rfl] at hx333_7); (try rw [Addr.add_zero'] at hx333_7); replace p333 := eq_true p333; replace q333 := eq_true q333) | ((with_reducible refine gate_dst (N := 5) rfl ?_); refine box_event ?hg (N := 5) ?hd (cs := #[.int .i64 0, .int .i64 0, .int .i64 0, .int .i64 0, .int .i64 0, .int .i64 0, .string (⟨#[]⟩ : ByteArray), .int .i64 0]) (t := 36) ?hr ?_; (case hd => rfl); (case hg => rfl); (case hr => first | (go_simp; done) | (go_simp; rfl)); intro gb334 hg w11 hbox hb; replace HO0_1 := Aside0.mk (Kd.V_below (Kd.V_elderB (Kd.VA HO0_1.out) gb334 (Nat.le_of_eq hg.symm)) hb); have BK334 := Aside0.mk (hbox); have GE334 := Aside0.mk (ge1 hg (LA HB.out)); replace HB := Aside0.mk (below_step (LA HB.out) hb); have NB330_334 := Aside0.mk ((by rw [hg]; exact Nat.ne_of_lt (blk_lt (g := gb330) (o := .cells #[.int .i64 a0_0, .slice (some ad333) l0_1.length c0_1, .int .i64 a0_2] 24 (0, 0)) (BA BK330.out)) : gb330 ≠ gb334)); have NB334_330 := Aside0.mk ((by rw [hg]; exact Nat.ne_of_gt (blk_lt (g := gb330) (o := .cells #[.int .i64 a0_0, .slice (some ad333) l0_1.length c0_1, .int .i64 a0_2] 24 (0, 0)) (BA BK330.out)) : gb334 ≠ gb330)); replace BK330 := Aside0.mk (blk_below (BA BK330.out) hb); have NB331_334 := Aside0.mk ((by rw [hg]; exact Nat.ne_of_lt (blk_lt (g := gb331) (o := .cells #[.int .i64 0, .slice none 0 0, .int .i64 0] 24 (0, 0)) (BA BK331.out)) : gb331 ≠ gb334)); have NB334_331 := Aside0.mk ((by rw [hg]; exact Nat.ne_of_gt (blk_lt (g := gb331) (o := .cells #[.int .i64 0, .slice none 0 0, .int .i64 0] 24 (0, 0)) (BA BK331.out)) : gb334 ≠ gb331)); replace BK331 := Aside0.mk (blk_below (BA BK331.out) hb); have NB332_334 := Aside0.mk ((by rw [hg]; exact Nat.ne_of_lt (blk_lt (g := gb332) (o := .cells #[.int .i64 0, .int .i64 0, .int .i64 0, .int .i64 0, .int .i64 0, .int .i64 0, .string (⟨#[]⟩ : ByteArray), .int .i64 0] 36 (0, 0)) (BA BK332.out)) : gb332 ≠ gb334)); have NB334_332 := Aside0.mk ((by rw [hg]; exact Nat.ne_of_gt (blk_lt (g := gb332) (o := .cells #[.int .i64 0, .int .i64 0, .int .i64 0, .int .i64 0, .int .i64 0, .int .i64 0, .string (⟨#[]⟩ : ByteArray), .int .i64 0] 36 (0, 0)) (BA BK332.out)) : gb334 ≠ gb332)); replace BK332 := Aside0.mk (blk_below (BA BK332.out) hb); clear hb hbox hg; have hnb12 := NB334_330.out; have hnc12 := NB330_334.out; have hnb13 := NB334_331.out; have hnc13 := NB331_334.out; have hnb14 := NB334_332.out; have hnc14 := NB332_334.out; obtain ⟨hcz15_0, hcz15_1, hcz15_2, hcz15_3, hcz15_4, hcz15_5, hcz15_6, hcz15_7, hfz15_0, hfz15_1, hfz15_2, hfz15_3, hfz15_4, hfz15_5, hfz15_6, hfz15_7⟩ := cz8 BK334.out) | ((with_reducible refine gate_store (t := 36) (p := 5) rfl ?_); refine store_event (t := 36) (p := 5) (v := ?vo_w16) (w1 := ((((((((w11.setCell ⟨gb334, 0, none⟩ (.int .i64 ((rd_T36 l0_1 0).f0))).setCell ⟨gb334, 1, none⟩ (.int .i64 ((rd_T36 l0_1 0).f1.f0))).setCell ⟨gb334, 2, none⟩ (.int .i64 ((rd_T36 l0_1 0).f1.f1))).setCell ⟨gb334, 3, none⟩ (.int .i64 ((rd_T36 l0_1 0).f1.f2))).setCell ⟨gb334, 4, none⟩ (.int .i64 ((rd_T36 l0_1 0).f1.f3))).setCell ⟨gb334, 5, none⟩ (.int .i64 ((rd_T36 l0_1 0).f1.f4))).setCell ⟨gb334, 6, none⟩ (.string ((rd_T36 l0_1 0).f1.f5))).setCell ⟨gb334, 7, none⟩ (.int .i64 ((rd_T36 l0_1 0).f2)))) ?hg ?ho ?hn ?hr ?_; (case ho => rfl); (case hg => rfl); (case hn => rfl); (case hr => first | (go_simp; done) | (go_simp; rfl)); intro w16 hw; replace HO0_1 : Aside0 (Kd.V k36 36 w16 w.heap.size (fun k_ => (P0_1_ k_ ∨ w.heap.size ≤ k_) ∧ k_ ≠ gb330 ∧ k_ ≠ gb331 ∧ k_ ≠ gb332 ∧ k_ ≠ gb334) (.slice (some ad333) l0_1.length c0_1) l0_1) := ⟨(by rw [hw]; exact (Kd.V_mono (Kd.V_mv (g := gb334) (Kd.V_mono HO0_1.out (fun k_ hk => (⟨hk, hk.2⟩ : _ ∧ k_ ≠ gb334))) (fun _ hk => hk.2)) (fun _ hk => ⟨hk.1.1.1.1.1, ⟨hk.1.1.1.1.2, ⟨hk.1.1.1.2, ⟨hk.1.1.2, hk.1.2⟩⟩⟩⟩)))⟩; replace BK330 : Aside0 (w16.heap[gb330]? = some (.cells #[.int .i64 a0_0, .slice (some ad333) l0_1.length c0_1, .int .i64 a0_2] 24 (0, 0))) := ⟨(by rw [hw]; exact (BF BK330.out NB330_334.out))⟩; replace BK331 : Aside0 (w16.heap[gb331]? = some (.cells #[.int .i64 0, .slice none 0 0, .int .i64 0] 24 (0, 0))) := ⟨(by rw [hw]; exact (BF BK331.out NB331_334.out))⟩; replace BK332 : Aside0 (w16.heap[gb332]? = some (.cells #[.int .i64 0, .int .i64 0, .int .i64 0, .int .i64 0, .int .i64 0, .int .i64 0, .string (⟨#[]⟩ : ByteArray), .int .i64 0] 36 (0, 0))) := ⟨(by rw [hw]; exact (BF BK332.out NB332_334.out))⟩; replace BK334 : Aside0 (w16.heap[gb334]? = some (.cells #[.int .i64 ((rd_T36 l0_1 0).f0), .int .i64 ((rd_T36 l0_1 0).f1.f0), .int .i64 ((rd_T36 l0_1 0).f1.f1), .int .i64 ((rd_T36 l0_1 0).f1.f2), .int .i64 ((rd_T36 l0_1 0).f1.f3), .int .i64 ((rd_T36 l0_1 0).f1.f4), .string ((rd_T36 l0_1 0).f1.f5), .int .i64 ((rd_T36 l0_1 0).f2)] 36 (0, 0))) := ⟨(by rw [hw]; exact (BP BK334.out (by rfl)))⟩; replace HB : Aside0 (Below w.heap.size w w16) := ⟨(by rw [hw]; exact (LG HB.out (G1 GE334.out G0)))⟩; clear hw; obtain ⟨hcz17_0, hcz17_1, hcz17_2, hfz17_0, hfz17_1, hfz17_2⟩ := cz3 BK330.out; have q18 : (1 : Int) ≤ ((l0_1.length : Int) : Int) := of_decide_eq_true (by first | (with_reducible assumption) | assumption); obtain ⟨i018, hi018, _, hsz18, _⟩ := info_parts info36; have hroom18 : l0_1.length ≤ c0_1 := (Kd.V_reads' HO0_1.out).2.1; have hC18 : Kd.F k36 _ _ (some ad333) l0_1.length l0_1 := (Kd.V_at (base := w.heap.size) HO0_1.out).2.2; have hcut18 := cut_from (P := Try.prog) 22 36 .i64 Try.underlying22 hi018 8 hsz18 (some ad333) l0_1.length c0_1 1 (by omega) q18; have hr18 := Kd.F_cut (m := (1 : Int).toNat) (c := c0_1) hC18 (by omega) hroom18; obtain ⟨A18, hA18⟩ : ∃ A_, A_ = (if c0_1 = (1 : Int).toNat then (some ad333) else ((some ad333) : Option Addr).map (·.add ((1 : Int).toNat * 8))) := ⟨_, rfl⟩; obtain ⟨c18, hc18⟩ : ∃ c_, c_ = c0_1 - (1 : Int).toNat := ⟨_, rfl⟩; have hy18 : y335.length = l0_1.length - (1 : Int).toNat := (by rw [Ny335.out, List.length_drop] <;> omega); rw [show (l0_1).drop (1 : Int).toNat = y335 from Ny335.out.symm] at hr18; replace hr18 : Kd.F k36 _ _ A18 y335.length y335 := (by rw [hA18]; exact hr18); rw [← hy18, ← hA18, ← hc18] at hcut18; have HO339 := Aside0.mk (show Kd.V k36 36 _ w.heap.size _ (.slice A18 y335.length c18) y335 from Kd.V_mk (by rw [hy18, hc18]; exact Nat.sub_le_sub_right hroom18 _) hr18); have HC339 := Aside0.mk (show y335.length ≤ c18 from by rw [hy18, hc18]; exact Nat.sub_le_sub_right hroom18 _); clear hr18 hC18 hroom18 hi018 hsz18 hc18; have KY18 := Aside0.mk hy18; have KA18 := Aside0.mk hA18; clear hy18 hA18; replace q18 := eq_true q18))
    have n0_ : Aside0 (Kd.V k36 36 (w16.setCell ⟨gb330, 1, none⟩ (.slice A18 y335.length c18)) w.heap.size (fun k_ => (P0_1_ k_ ∨ w.heap.size ≤ k_) ∧ k_ ≠ gb330 ∧ k_ ≠ gb331 ∧ k_ ≠ gb332 ∧ k_ ≠ gb334) (.slice (some ad333) l0_1.length c0_1) l0_1) := ⟨by (with_reducible repeat (first | apply Kd.V_alloc | apply Kd.V_drewN | apply Kd.V_drew)); exact Kd.V_mono (Kd.V_far (p := ⟨gb330, 1, none⟩) (Kd.V_mono HO0_1.out (fun k_ hk => (⟨hk, hk.2.1⟩ : _ ∧ k_ ≠ gb330))) (fun _ hk => hk.2) (.slice A18 y335.length c18)) (fun _ hk => ⟨hk.1.1, ⟨hk.1.2.1, ⟨hk.1.2.2.1, ⟨hk.1.2.2.2.1, hk.1.2.2.2.2⟩⟩⟩⟩)⟩
    have n1_ : Aside0 (Kd.V k36 36 (w16.setCell ⟨gb330, 1, none⟩ (.slice A18 y335.length c18)) w.heap.size (fun k_ => (P0_1_ k_ ∨ w.heap.size ≤ k_) ∧ k_ ≠ gb330 ∧ k_ ≠ gb331 ∧ k_ ≠ gb332 ∧ k_ ≠ gb334) (.slice A18 y335.length c18) y335) := ⟨by (with_reducible repeat (first | apply Kd.V_alloc | apply Kd.V_drewN | apply Kd.V_drew)); exact Kd.V_mono (Kd.V_far (p := ⟨gb330, 1, none⟩) (Kd.V_mono HO339.out (fun k_ hk => (⟨hk, hk.2.1⟩ : _ ∧ k_ ≠ gb330))) (fun _ hk => hk.2) (.slice A18 y335.length c18)) (fun _ hk => ⟨hk.1.1, ⟨hk.1.2.1, ⟨hk.1.2.2.1, ⟨hk.1.2.2.2.1, hk.1.2.2.2.2⟩⟩⟩⟩)⟩
    have n2_ : Aside0 ((w16.setCell ⟨gb330, 1, none⟩ (.slice A18 y335.length c18)).heap[gb330]? = some (.cells #[.int .i64 a0_0, .slice A18 y335.length c18, .int .i64 a0_2] 24 (0, 0))) := ⟨by (with_reducible repeat (first | refine blk_drewN ?_ _ | refine blk_drew ?_ | refine blk_alloc ?_ _)); refine blk_put (cs := #[.int .i64 a0_0, .slice (some ad333) l0_1.length c0_1, .int .i64 a0_2]) ?_ 1 _ rfl; (with_reducible repeat (first | refine blk_drewN ?_ _ | refine blk_drew ?_ | refine blk_alloc ?_ _)); exact BK330.out⟩
    have n3_ : Aside0 ((w16.setCell ⟨gb330, 1, none⟩ (.slice A18 y335.length c18)).heap[gb331]? = some (.cells #[.int .i64 0, .slice none 0 0, .int .i64 0] 24 (0, 0))) := ⟨by exact BF BK331.out NB331_330.out⟩
    have n4_ : Aside0 ((w16.setCell ⟨gb330, 1, none⟩ (.slice A18 y335.length c18)).heap[gb332]? = some (.cells #[.int .i64 0, .int .i64 0, .int .i64 0, .int .i64 0, .int .i64 0, .int .i64 0, .string (⟨#[]⟩ : ByteArray), .int .i64 0] 36 (0, 0))) := ⟨by exact BF BK332.out NB332_330.out⟩
    have n5_ : Aside0 ((w16.setCell ⟨gb330, 1, none⟩ (.slice A18 y335.length c18)).heap[gb334]? = some (.cells #[.int .i64 ((rd_T36 l0_1 0).f0), .int .i64 ((rd_T36 l0_1 0).f1.f0), .int .i64 ((rd_T36 l0_1 0).f1.f1), .int .i64 ((rd_T36 l0_1 0).f1.f2), .int .i64 ((rd_T36 l0_1 0).f1.f3), .int .i64 ((rd_T36 l0_1 0).f1.f4), .string ((rd_T36 l0_1 0).f1.f5), .int .i64 ((rd_T36 l0_1 0).f2)] 36 (0, 0))) := ⟨by exact BF BK334.out NB334_330.out⟩
    have n6_ : Aside0 (Below w.heap.size w (w16.setCell ⟨gb330, 1, none⟩ (.slice A18 y335.length c18))) := ⟨LG HB.out (G1 GE330.out (G1 GE331.out (G1 GE332.out (G1 GE334.out G0))))⟩
    (try clear HO0_1)
    (try clear HO339)
    (try clear BK330)
    (try clear BK331)
    (try clear BK332)
    (try clear BK334)
    (try clear HB)
    generalize (w16.setCell ⟨gb330, 1, none⟩ (.slice A18 y335.length c18)) = w19 at n0_ n1_ n2_ n3_ n4_ n5_ n6_ ⊢
    have HO0_1 := n0_
    have HO339 := n1_
    have BK330 := n2_
    have BK331 := n3_
    have BK332 := n4_
    have BK334 := n5_
    have HB := n6_
    clear n0_ n1_ n2_ n3_ n4_ n5_ n6_
    have n0_ := Aside0.mk (Kd.V_drew HO0_1.out)
    have n1_ := Aside0.mk (Kd.V_drew HO339.out)
    have n2_ := Aside0.mk (blk_drew BK330.out)
    have n3_ := Aside0.mk (blk_drew BK331.out)
    have n4_ := Aside0.mk (blk_drew BK332.out)
    have n5_ := Aside0.mk (blk_drew BK334.out)
    have n6_ := Aside0.mk (below_drew1 HB.out)
    clear HO0_1
    clear HO339
    clear BK330
    clear BK331
    clear BK332
    clear BK334
    clear HB
    have HO0_1 := n0_
    have HO339 := n1_
    have BK330 := n2_
    have BK331 := n3_
    have BK332 := n4_
    have BK334 := n5_
    have HB := n6_
    clear n0_ n1_ n2_ n3_ n4_ n5_ n6_
    refine start_ (n := 5) (S := fun w' => w'.cell? ⟨gb330, 0, none⟩ = some (.int .i64 a0_0) ∧ w'.cell? ⟨gb330, 1, none⟩ = some (.slice A18 y335.length c18) ∧ w'.cell? ⟨gb330, 2, none⟩ = some (.int .i64 a0_2) ∧ w'.cell? ⟨gb334, 0, none⟩ = some (.int .i64 ((rd_T36 l0_1 0).f0)) ∧ w'.cell? ⟨gb334, 1, none⟩ = some (.int .i64 ((rd_T36 l0_1 0).f1.f0)) ∧ w'.cell? ⟨gb334, 2, none⟩ = some (.int .i64 ((rd_T36 l0_1 0).f1.f1)) ∧ w'.cell? ⟨gb334, 3, none⟩ = some (.int .i64 ((rd_T36 l0_1 0).f1.f2)) ∧ w'.cell? ⟨gb334, 4, none⟩ = some (.int .i64 ((rd_T36 l0_1 0).f1.f3)) ∧ w'.cell? ⟨gb334, 5, none⟩ = some (.int .i64 ((rd_T36 l0_1 0).f1.f4)) ∧ w'.cell? ⟨gb334, 6, none⟩ = some (.string ((rd_T36 l0_1 0).f1.f5)) ∧ w'.cell? ⟨gb334, 7, none⟩ = some (.int .i64 ((rd_T36 l0_1 0).f2))) (ds := []) #[false, false, false, false, false] (by kernel_rfl) rfl rfl ⟨(blk_cell BK330.out 0).trans rfl, (blk_cell BK330.out 1).trans rfl, (blk_cell BK330.out 2).trans rfl, (blk_cell BK334.out 0).trans rfl, (blk_cell BK334.out 1).trans rfl, (blk_cell BK334.out 2).trans rfl, (blk_cell BK334.out 3).trans rfl, (blk_cell BK334.out 4).trans rfl, (blk_cell BK334.out 5).trans rfl, (blk_cell BK334.out 6).trans rfl, (blk_cell BK334.out 7).trans rfl⟩ (fun hHeld => ?_)
    generalize w19.drew = w20 at HO0_1 HO339 BK330 BK331 BK332 BK334 HB hHeld ⊢
    refine take_ (i := 0) (N := some 19) (v := ?_) (a' := ?_) #[true, false, false, false, false] rfl rfl (by kernel_rfl) (fun _ _ _ h => h) (Or.inl ⟨by rfl, ?_⟩) hHeld ?_ ?_
    rotate_left
    · rintro w' ⟨s0, s1, s2, s3, s4, s5, s6, s7, s8, s9, s10⟩
      go_simp
      with_reducible rfl
    rotate_left
    · simp only [Act.put, PU, i64_w, i32_w]
      rfl
    refine take_ (i := 1) (N := some 20) (v := ?_) (a' := ?_) #[true, true, false, false, false] rfl rfl (by kernel_rfl) (fun _ _ _ h => h) (Or.inl ⟨by rfl, ?_⟩) hHeld ?_ ?_
    rotate_left
    · rintro w' ⟨s0, s1, s2, s3, s4, s5, s6, s7, s8, s9, s10⟩
      go_simp
      with_reducible rfl
    rotate_left
    · simp only [Act.put, PU, i64_w, i32_w]
      rfl
    refine one_ (i := 2) (N := none) #[true, true, true, false, false] rfl rfl (by kernel_rfl) (by decide) (fun K hK => ?_)
    have hs21 : w20.cell? ⟨gb331, 0, none⟩ = some (.int .i64 0) := (blk_cell BK331.out 0).trans rfl
    have hfs21 := blk_frozen BK331.out 0
    have hns21_0 := NB330_331.out
    have hns21_2 := NB332_331.out
    have hns21_3 := NB334_331.out
    have hms21_0 := NB331_330.out
    have hms21_2 := NB331_332.out
    have hms21_3 := NB331_334.out
    have hs22 : w20.cell? ⟨gb331, 1, none⟩ = some (.slice none 0 0) := (blk_cell BK331.out 1).trans rfl
    have hfs22 := blk_frozen BK331.out 1
    have hns22_0 := NB330_331.out
    have hns22_2 := NB332_331.out
    have hns22_3 := NB334_331.out
    have hms22_0 := NB331_330.out
    have hms22_2 := NB331_332.out
    have hms22_3 := NB331_334.out
    have hs23 : w20.cell? ⟨gb331, 2, none⟩ = some (.int .i64 0) := (blk_cell BK331.out 2).trans rfl
    have hfs23 := blk_frozen BK331.out 2
    have hns23_0 := NB330_331.out
    have hns23_2 := NB332_331.out
    have hns23_3 := NB334_331.out
    have hms23_0 := NB331_330.out
    have hms23_2 := NB331_332.out
    have hms23_3 := NB331_334.out
    refine skip_ (w1 := ?_) (by rfl) rfl ?_ ?_
    rotate_left
    · go_simp
      rfl
    refine hK.out _ _ ⟨((cell_far (p := ⟨gb331, _, none⟩) NB330_331.out _).trans (((cell_far (p := ⟨gb331, _, none⟩) NB330_331.out _).trans (((cell_far (p := ⟨gb331, _, none⟩) NB330_331.out _).trans (hHeld.1)))))), ((cell_far (p := ⟨gb331, _, none⟩) NB330_331.out _).trans (((cell_far (p := ⟨gb331, _, none⟩) NB330_331.out _).trans (((cell_far (p := ⟨gb331, _, none⟩) NB330_331.out _).trans (hHeld.2.1)))))), ((cell_far (p := ⟨gb331, _, none⟩) NB330_331.out _).trans (((cell_far (p := ⟨gb331, _, none⟩) NB330_331.out _).trans (((cell_far (p := ⟨gb331, _, none⟩) NB330_331.out _).trans (hHeld.2.2.1)))))), ((cell_far (p := ⟨gb331, _, none⟩) NB334_331.out _).trans (((cell_far (p := ⟨gb331, _, none⟩) NB334_331.out _).trans (((cell_far (p := ⟨gb331, _, none⟩) NB334_331.out _).trans (hHeld.2.2.2.1)))))), ((cell_far (p := ⟨gb331, _, none⟩) NB334_331.out _).trans (((cell_far (p := ⟨gb331, _, none⟩) NB334_331.out _).trans (((cell_far (p := ⟨gb331, _, none⟩) NB334_331.out _).trans (hHeld.2.2.2.2.1)))))), ((cell_far (p := ⟨gb331, _, none⟩) NB334_331.out _).trans (((cell_far (p := ⟨gb331, _, none⟩) NB334_331.out _).trans (((cell_far (p := ⟨gb331, _, none⟩) NB334_331.out _).trans (hHeld.2.2.2.2.2.1)))))), ((cell_far (p := ⟨gb331, _, none⟩) NB334_331.out _).trans (((cell_far (p := ⟨gb331, _, none⟩) NB334_331.out _).trans (((cell_far (p := ⟨gb331, _, none⟩) NB334_331.out _).trans (hHeld.2.2.2.2.2.2.1)))))), ((cell_far (p := ⟨gb331, _, none⟩) NB334_331.out _).trans (((cell_far (p := ⟨gb331, _, none⟩) NB334_331.out _).trans (((cell_far (p := ⟨gb331, _, none⟩) NB334_331.out _).trans (hHeld.2.2.2.2.2.2.2.1)))))), ((cell_far (p := ⟨gb331, _, none⟩) NB334_331.out _).trans (((cell_far (p := ⟨gb331, _, none⟩) NB334_331.out _).trans (((cell_far (p := ⟨gb331, _, none⟩) NB334_331.out _).trans (hHeld.2.2.2.2.2.2.2.2.1)))))), ((cell_far (p := ⟨gb331, _, none⟩) NB334_331.out _).trans (((cell_far (p := ⟨gb331, _, none⟩) NB334_331.out _).trans (((cell_far (p := ⟨gb331, _, none⟩) NB334_331.out _).trans (hHeld.2.2.2.2.2.2.2.2.2.1)))))), ((cell_far (p := ⟨gb331, _, none⟩) NB334_331.out _).trans (((cell_far (p := ⟨gb331, _, none⟩) NB334_331.out _).trans (((cell_far (p := ⟨gb331, _, none⟩) NB334_331.out _).trans (hHeld.2.2.2.2.2.2.2.2.2.2))))))⟩ (fun hHeld => ?_)
    clear hK K
    refine one_ (i := 3) (N := none) #[true, true, true, true, false] rfl rfl (by kernel_rfl) (by decide) (fun K hK => ?_)
    have hs24 : w20.cell? ⟨gb332, 0, none⟩ = some (.int .i64 0) := (blk_cell BK332.out 0).trans rfl
    have hfs24 := blk_frozen BK332.out 0
    have hns24_0 := NB330_332.out
    have hns24_1 := NB331_332.out
    have hns24_3 := NB334_332.out
    have hms24_0 := NB332_330.out
    have hms24_1 := NB332_331.out
    have hms24_3 := NB332_334.out
    have hs25 : w20.cell? ⟨gb332, 1, none⟩ = some (.int .i64 0) := (blk_cell BK332.out 1).trans rfl
    have hfs25 := blk_frozen BK332.out 1
    have hns25_0 := NB330_332.out
    have hns25_1 := NB331_332.out
    have hns25_3 := NB334_332.out
    have hms25_0 := NB332_330.out
    have hms25_1 := NB332_331.out
    have hms25_3 := NB332_334.out
    have hs26 : w20.cell? ⟨gb332, 2, none⟩ = some (.int .i64 0) := (blk_cell BK332.out 2).trans rfl
    have hfs26 := blk_frozen BK332.out 2
    have hns26_0 := NB330_332.out
    have hns26_1 := NB331_332.out
    have hns26_3 := NB334_332.out
    have hms26_0 := NB332_330.out
    have hms26_1 := NB332_331.out
    have hms26_3 := NB332_334.out
    have hs27 : w20.cell? ⟨gb332, 3, none⟩ = some (.int .i64 0) := (blk_cell BK332.out 3).trans rfl
    have hfs27 := blk_frozen BK332.out 3
    have hns27_0 := NB330_332.out
    have hns27_1 := NB331_332.out
    have hns27_3 := NB334_332.out
    have hms27_0 := NB332_330.out
    have hms27_1 := NB332_331.out
    have hms27_3 := NB332_334.out
    have hs28 : w20.cell? ⟨gb332, 4, none⟩ = some (.int .i64 0) := (blk_cell BK332.out 4).trans rfl
    have hfs28 := blk_frozen BK332.out 4
    have hns28_0 := NB330_332.out
    have hns28_1 := NB331_332.out
    have hns28_3 := NB334_332.out
    have hms28_0 := NB332_330.out
    have hms28_1 := NB332_331.out
    have hms28_3 := NB332_334.out
    have hs29 : w20.cell? ⟨gb332, 5, none⟩ = some (.int .i64 0) := (blk_cell BK332.out 5).trans rfl
    have hfs29 := blk_frozen BK332.out 5
    have hns29_0 := NB330_332.out
    have hns29_1 := NB331_332.out
    have hns29_3 := NB334_332.out
    have hms29_0 := NB332_330.out
    have hms29_1 := NB332_331.out
    have hms29_3 := NB332_334.out
    have hs30 : w20.cell? ⟨gb332, 6, none⟩ = some (.string (⟨#[]⟩ : ByteArray)) := (blk_cell BK332.out 6).trans rfl
    have hfs30 := blk_frozen BK332.out 6
    have hns30_0 := NB330_332.out
    have hns30_1 := NB331_332.out
    have hns30_3 := NB334_332.out
    have hms30_0 := NB332_330.out
    have hms30_1 := NB332_331.out
    have hms30_3 := NB332_334.out
    have hs31 : w20.cell? ⟨gb332, 7, none⟩ = some (.int .i64 0) := (blk_cell BK332.out 7).trans rfl
    have hfs31 := blk_frozen BK332.out 7
    have hns31_0 := NB330_332.out
    have hns31_1 := NB331_332.out
    have hns31_3 := NB334_332.out
    have hms31_0 := NB332_330.out
    have hms31_1 := NB332_331.out
    have hms31_3 := NB332_334.out
    refine skip_ (w1 := ?_) (by rfl) rfl ?_ ?_
    rotate_left
    · go_simp
      rfl
    refine hK.out _ _ ⟨((cell_far (p := ⟨gb332, _, none⟩) NB330_332.out _).trans (((cell_far (p := ⟨gb332, _, none⟩) NB330_332.out _).trans (((cell_far (p := ⟨gb332, _, none⟩) NB330_332.out _).trans (((cell_far (p := ⟨gb332, _, none⟩) NB330_332.out _).trans (((cell_far (p := ⟨gb332, _, none⟩) NB330_332.out _).trans (((cell_far (p := ⟨gb332, _, none⟩) NB330_332.out _).trans (((cell_far (p := ⟨gb332, _, none⟩) NB330_332.out _).trans (((cell_far (p := ⟨gb332, _, none⟩) NB330_332.out _).trans (hHeld.1)))))))))))))))), ((cell_far (p := ⟨gb332, _, none⟩) NB330_332.out _).trans (((cell_far (p := ⟨gb332, _, none⟩) NB330_332.out _).trans (((cell_far (p := ⟨gb332, _, none⟩) NB330_332.out _).trans (((cell_far (p := ⟨gb332, _, none⟩) NB330_332.out _).trans (((cell_far (p := ⟨gb332, _, none⟩) NB330_332.out _).trans (((cell_far (p := ⟨gb332, _, none⟩) NB330_332.out _).trans (((cell_far (p := ⟨gb332, _, none⟩) NB330_332.out _).trans (((cell_far (p := ⟨gb332, _, none⟩) NB330_332.out _).trans (hHeld.2.1)))))))))))))))), ((cell_far (p := ⟨gb332, _, none⟩) NB330_332.out _).trans (((cell_far (p := ⟨gb332, _, none⟩) NB330_332.out _).trans (((cell_far (p := ⟨gb332, _, none⟩) NB330_332.out _).trans (((cell_far (p := ⟨gb332, _, none⟩) NB330_332.out _).trans (((cell_far (p := ⟨gb332, _, none⟩) NB330_332.out _).trans (((cell_far (p := ⟨gb332, _, none⟩) NB330_332.out _).trans (((cell_far (p := ⟨gb332, _, none⟩) NB330_332.out _).trans (((cell_far (p := ⟨gb332, _, none⟩) NB330_332.out _).trans (hHeld.2.2.1)))))))))))))))), ((cell_far (p := ⟨gb332, _, none⟩) NB334_332.out _).trans (((cell_far (p := ⟨gb332, _, none⟩) NB334_332.out _).trans (((cell_far (p := ⟨gb332, _, none⟩) NB334_332.out _).trans (((cell_far (p := ⟨gb332, _, none⟩) NB334_332.out _).trans (((cell_far (p := ⟨gb332, _, none⟩) NB334_332.out _).trans (((cell_far (p := ⟨gb332, _, none⟩) NB334_332.out _).trans (((cell_far (p := ⟨gb332, _, none⟩) NB334_332.out _).trans (((cell_far (p := ⟨gb332, _, none⟩) NB334_332.out _).trans (hHeld.2.2.2.1)))))))))))))))), ((cell_far (p := ⟨gb332, _, none⟩) NB334_332.out _).trans (((cell_far (p := ⟨gb332, _, none⟩) NB334_332.out _).trans (((cell_far (p := ⟨gb332, _, none⟩) NB334_332.out _).trans (((cell_far (p := ⟨gb332, _, none⟩) NB334_332.out _).trans (((cell_far (p := ⟨gb332, _, none⟩) NB334_332.out _).trans (((cell_far (p := ⟨gb332, _, none⟩) NB334_332.out _).trans (((cell_far (p := ⟨gb332, _, none⟩) NB334_332.out _).trans (((cell_far (p := ⟨gb332, _, none⟩) NB334_332.out _).trans (hHeld.2.2.2.2.1)))))))))))))))), ((cell_far (p := ⟨gb332, _, none⟩) NB334_332.out _).trans (((cell_far (p := ⟨gb332, _, none⟩) NB334_332.out _).trans (((cell_far (p := ⟨gb332, _, none⟩) NB334_332.out _).trans (((cell_far (p := ⟨gb332, _, none⟩) NB334_332.out _).trans (((cell_far (p := ⟨gb332, _, none⟩) NB334_332.out _).trans (((cell_far (p := ⟨gb332, _, none⟩) NB334_332.out _).trans (((cell_far (p := ⟨gb332, _, none⟩) NB334_332.out _).trans (((cell_far (p := ⟨gb332, _, none⟩) NB334_332.out _).trans (hHeld.2.2.2.2.2.1)))))))))))))))), ((cell_far (p := ⟨gb332, _, none⟩) NB334_332.out _).trans (((cell_far (p := ⟨gb332, _, none⟩) NB334_332.out _).trans (((cell_far (p := ⟨gb332, _, none⟩) NB334_332.out _).trans (((cell_far (p := ⟨gb332, _, none⟩) NB334_332.out _).trans (((cell_far (p := ⟨gb332, _, none⟩) NB334_332.out _).trans (((cell_far (p := ⟨gb332, _, none⟩) NB334_332.out _).trans (((cell_far (p := ⟨gb332, _, none⟩) NB334_332.out _).trans (((cell_far (p := ⟨gb332, _, none⟩) NB334_332.out _).trans (hHeld.2.2.2.2.2.2.1)))))))))))))))), ((cell_far (p := ⟨gb332, _, none⟩) NB334_332.out _).trans (((cell_far (p := ⟨gb332, _, none⟩) NB334_332.out _).trans (((cell_far (p := ⟨gb332, _, none⟩) NB334_332.out _).trans (((cell_far (p := ⟨gb332, _, none⟩) NB334_332.out _).trans (((cell_far (p := ⟨gb332, _, none⟩) NB334_332.out _).trans (((cell_far (p := ⟨gb332, _, none⟩) NB334_332.out _).trans (((cell_far (p := ⟨gb332, _, none⟩) NB334_332.out _).trans (((cell_far (p := ⟨gb332, _, none⟩) NB334_332.out _).trans (hHeld.2.2.2.2.2.2.2.1)))))))))))))))), ((cell_far (p := ⟨gb332, _, none⟩) NB334_332.out _).trans (((cell_far (p := ⟨gb332, _, none⟩) NB334_332.out _).trans (((cell_far (p := ⟨gb332, _, none⟩) NB334_332.out _).trans (((cell_far (p := ⟨gb332, _, none⟩) NB334_332.out _).trans (((cell_far (p := ⟨gb332, _, none⟩) NB334_332.out _).trans (((cell_far (p := ⟨gb332, _, none⟩) NB334_332.out _).trans (((cell_far (p := ⟨gb332, _, none⟩) NB334_332.out _).trans (((cell_far (p := ⟨gb332, _, none⟩) NB334_332.out _).trans (hHeld.2.2.2.2.2.2.2.2.1)))))))))))))))), ((cell_far (p := ⟨gb332, _, none⟩) NB334_332.out _).trans (((cell_far (p := ⟨gb332, _, none⟩) NB334_332.out _).trans (((cell_far (p := ⟨gb332, _, none⟩) NB334_332.out _).trans (((cell_far (p := ⟨gb332, _, none⟩) NB334_332.out _).trans (((cell_far (p := ⟨gb332, _, none⟩) NB334_332.out _).trans (((cell_far (p := ⟨gb332, _, none⟩) NB334_332.out _).trans (((cell_far (p := ⟨gb332, _, none⟩) NB334_332.out _).trans (((cell_far (p := ⟨gb332, _, none⟩) NB334_332.out _).trans (hHeld.2.2.2.2.2.2.2.2.2.1)))))))))))))))), ((cell_far (p := ⟨gb332, _, none⟩) NB334_332.out _).trans (((cell_far (p := ⟨gb332, _, none⟩) NB334_332.out _).trans (((cell_far (p := ⟨gb332, _, none⟩) NB334_332.out _).trans (((cell_far (p := ⟨gb332, _, none⟩) NB334_332.out _).trans (((cell_far (p := ⟨gb332, _, none⟩) NB334_332.out _).trans (((cell_far (p := ⟨gb332, _, none⟩) NB334_332.out _).trans (((cell_far (p := ⟨gb332, _, none⟩) NB334_332.out _).trans (((cell_far (p := ⟨gb332, _, none⟩) NB334_332.out _).trans (hHeld.2.2.2.2.2.2.2.2.2.2))))))))))))))))⟩ (fun hHeld => ?_)
    clear hK K
    refine pure_ (i := 4) (N := some 4) (v := ?_) (a' := ?_) #[true, true, true, true, true] rfl rfl (by kernel_rfl) (fun _ _ _ h => h) (Or.inl ⟨by rfl, ?_⟩) ?_ ?_
    rotate_left
    · intro w'
      go_simp
      with_reducible rfl
    rotate_left
    · simp only [Act.put, PU, i64_w, i32_w]
      rfl
    refine done_ (by kernel_rfl) ?_
    try go_wp2
    refine bodyPost_ret (results_list (rs := [.cell 2 24, .cell 3 36, .tmp 4]) rfl (by simp) (.cell gb331 24 #[.int .i64 a0_0, .slice A18 y335.length c18, .int .i64 a0_2] (0, 0) _ rfl (by (with_reducible repeat (first | refine blk_drewN ?_ _ | refine blk_drew ?_ | refine blk_alloc ?_ _)); refine blk_far ?_ NB331_332.out _; (with_reducible repeat (first | refine blk_drewN ?_ _ | refine blk_drew ?_ | refine blk_alloc ?_ _)); refine blk_far ?_ NB331_332.out _; (with_reducible repeat (first | refine blk_drewN ?_ _ | refine blk_drew ?_ | refine blk_alloc ?_ _)); refine blk_far ?_ NB331_332.out _; (with_reducible repeat (first | refine blk_drewN ?_ _ | refine blk_drew ?_ | refine blk_alloc ?_ _)); refine blk_far ?_ NB331_332.out _; (with_reducible repeat (first | refine blk_drewN ?_ _ | refine blk_drew ?_ | refine blk_alloc ?_ _)); refine blk_far ?_ NB331_332.out _; (with_reducible repeat (first | refine blk_drewN ?_ _ | refine blk_drew ?_ | refine blk_alloc ?_ _)); refine blk_far ?_ NB331_332.out _; (with_reducible repeat (first | refine blk_drewN ?_ _ | refine blk_drew ?_ | refine blk_alloc ?_ _)); refine blk_far ?_ NB331_332.out _; (with_reducible repeat (first | refine blk_drewN ?_ _ | refine blk_drew ?_ | refine blk_alloc ?_ _)); refine blk_far ?_ NB331_332.out _; exact BP BK331.out (by rfl)) Try.underlying24 rfl (by kernel_rfl) (.cell gb332 36 #[.int .i64 ((rd_T36 l0_1 0).f0), .int .i64 ((rd_T36 l0_1 0).f1.f0), .int .i64 ((rd_T36 l0_1 0).f1.f1), .int .i64 ((rd_T36 l0_1 0).f1.f2), .int .i64 ((rd_T36 l0_1 0).f1.f3), .int .i64 ((rd_T36 l0_1 0).f1.f4), .string ((rd_T36 l0_1 0).f1.f5), .int .i64 ((rd_T36 l0_1 0).f2)] (0, 0) _ rfl (by (with_reducible repeat (first | refine blk_drewN ?_ _ | refine blk_drew ?_ | refine blk_alloc ?_ _)); refine blk_put (cs := #[.int .i64 ((rd_T36 l0_1 0).f0), .int .i64 ((rd_T36 l0_1 0).f1.f0), .int .i64 ((rd_T36 l0_1 0).f1.f1), .int .i64 ((rd_T36 l0_1 0).f1.f2), .int .i64 ((rd_T36 l0_1 0).f1.f3), .int .i64 ((rd_T36 l0_1 0).f1.f4), .string ((rd_T36 l0_1 0).f1.f5), .int .i64 0]) ?_ 7 _ rfl; (with_reducible repeat (first | refine blk_drewN ?_ _ | refine blk_drew ?_ | refine blk_alloc ?_ _)); refine blk_put (cs := #[.int .i64 ((rd_T36 l0_1 0).f0), .int .i64 ((rd_T36 l0_1 0).f1.f0), .int .i64 ((rd_T36 l0_1 0).f1.f1), .int .i64 ((rd_T36 l0_1 0).f1.f2), .int .i64 ((rd_T36 l0_1 0).f1.f3), .int .i64 ((rd_T36 l0_1 0).f1.f4), .string (⟨#[]⟩ : ByteArray), .int .i64 0]) ?_ 6 _ rfl; (with_reducible repeat (first | refine blk_drewN ?_ _ | refine blk_drew ?_ | refine blk_alloc ?_ _)); refine blk_put (cs := #[.int .i64 ((rd_T36 l0_1 0).f0), .int .i64 ((rd_T36 l0_1 0).f1.f0), .int .i64 ((rd_T36 l0_1 0).f1.f1), .int .i64 ((rd_T36 l0_1 0).f1.f2), .int .i64 ((rd_T36 l0_1 0).f1.f3), .int .i64 0, .string (⟨#[]⟩ : ByteArray), .int .i64 0]) ?_ 5 _ rfl; (with_reducible repeat (first | refine blk_drewN ?_ _ | refine blk_drew ?_ | refine blk_alloc ?_ _)); refine blk_put (cs := #[.int .i64 ((rd_T36 l0_1 0).f0), .int .i64 ((rd_T36 l0_1 0).f1.f0), .int .i64 ((rd_T36 l0_1 0).f1.f1), .int .i64 ((rd_T36 l0_1 0).f1.f2), .int .i64 0, .int .i64 0, .string (⟨#[]⟩ : ByteArray), .int .i64 0]) ?_ 4 _ rfl; (with_reducible repeat (first | refine blk_drewN ?_ _ | refine blk_drew ?_ | refine blk_alloc ?_ _)); refine blk_put (cs := #[.int .i64 ((rd_T36 l0_1 0).f0), .int .i64 ((rd_T36 l0_1 0).f1.f0), .int .i64 ((rd_T36 l0_1 0).f1.f1), .int .i64 0, .int .i64 0, .int .i64 0, .string (⟨#[]⟩ : ByteArray), .int .i64 0]) ?_ 3 _ rfl; (with_reducible repeat (first | refine blk_drewN ?_ _ | refine blk_drew ?_ | refine blk_alloc ?_ _)); refine blk_put (cs := #[.int .i64 ((rd_T36 l0_1 0).f0), .int .i64 ((rd_T36 l0_1 0).f1.f0), .int .i64 0, .int .i64 0, .int .i64 0, .int .i64 0, .string (⟨#[]⟩ : ByteArray), .int .i64 0]) ?_ 2 _ rfl; (with_reducible repeat (first | refine blk_drewN ?_ _ | refine blk_drew ?_ | refine blk_alloc ?_ _)); refine blk_put (cs := #[.int .i64 ((rd_T36 l0_1 0).f0), .int .i64 0, .int .i64 0, .int .i64 0, .int .i64 0, .int .i64 0, .string (⟨#[]⟩ : ByteArray), .int .i64 0]) ?_ 1 _ rfl; (with_reducible repeat (first | refine blk_drewN ?_ _ | refine blk_drew ?_ | refine blk_alloc ?_ _)); refine blk_put (cs := #[.int .i64 0, .int .i64 0, .int .i64 0, .int .i64 0, .int .i64 0, .int .i64 0, .string (⟨#[]⟩ : ByteArray), .int .i64 0]) ?_ 0 _ rfl; exact BF BK332.out NB332_331.out) Try.underlying36 rfl (by kernel_rfl) (.tmp .nil)))) rfl ?_
    exact ⟨_, by first | rfl | (simp [errW_none, errW_some] <;> rfl) | (simp [*, errW_none, errW_some] <;> rfl), by (with_reducible repeat (first | apply Kd.V_alloc | apply Kd.V_drewN | apply Kd.V_drew)); exact Kd.V_mono (Kd.V_ms (gs := [gb332, gb331]) (Kd.V_mono (Kd.V_mono HO339.out (fun k_ hk => (⟨hk, hk.2.2.1⟩ : _ ∧ k_ ≠ gb331))) (fun k_ hk => (⟨hk, hk.1.2.2.2.1⟩ : _ ∧ k_ ≠ gb332))) (fun _ hk => N1 (hk.2) (N1 (hk.1.2) (N0)))) (fun _ hk => hk.1.1.1), LG HB.out (G1 GE330.out (G1 GE331.out (G1 GE332.out (G1 GE334.out G0))))⟩
  · rw [if_neg c2] at H
    have c2b0 : decide (0 < (l0_1.length : Int)) = false := decide_eq_false c2
    have c2b1 : decide (0 < l0_1.length) = false := decide_eq_false (by omega)
    clear c2
    by_cases c32 : a0_2 > 0
    · rw [if_pos c32] at H
      have c32b0 : decide (0 < a0_2) = true := decide_eq_true c32
      clear c32
      simp only [Option.some.injEq, Prod.mk.injEq] at H
      obtain ⟨rfl, rfl, rfl, rfl, rfl, rfl, rfl, rfl, rfl, rfl, rfl, rfl⟩ := H
      go_enter Try.func14, Try.ntmps14
      go_wp2_with (first | ((with_reducible refine gate_dst (N := 1) rfl ?_); refine box_event ?hg (N := 1) ?hd (cs := #[.int .i64 a0_0, .slice A0_1 l0_1.length c0_1, .int .i64 a0_2]) (t := 24) ?hr ?_; (case hd => rfl); (case hg => rfl); (case hr => first | (go_simp; done) | (go_simp; rfl)); intro gb330 hg w33 hbox hb; replace HO0_1 := Aside0.mk (Kd.V_below (Kd.V_elderB (Kd.VA HO0_1.out) gb330 (Nat.le_of_eq hg.symm)) hb); have BK330 := Aside0.mk (hbox); have GE330 := Aside0.mk (ge1 hg (LA HB.out)); replace HB := Aside0.mk (below_step (LA HB.out) hb); clear hb hbox hg) | ((with_reducible refine gate_dst (N := 2) rfl ?_); refine box_event ?hg (N := 2) ?hd (cs := #[.int .i64 0, .slice none 0 0, .int .i64 0]) (t := 24) ?hr ?_; (case hd => rfl); (case hg => rfl); (case hr => first | (go_simp; done) | (go_simp; rfl)); intro gb331 hg w34 hbox hb; replace HO0_1 := Aside0.mk (Kd.V_below (Kd.V_elderB (Kd.VA HO0_1.out) gb331 (Nat.le_of_eq hg.symm)) hb); have BK331 := Aside0.mk (hbox); have GE331 := Aside0.mk (ge1 hg (LA HB.out)); replace HB := Aside0.mk (below_step (LA HB.out) hb); have NB330_331 := Aside0.mk ((by rw [hg]; exact Nat.ne_of_lt (blk_lt (g := gb330) (o := .cells #[.int .i64 a0_0, .slice A0_1 l0_1.length c0_1, .int .i64 a0_2] 24 (0, 0)) (BA BK330.out)) : gb330 ≠ gb331)); have NB331_330 := Aside0.mk ((by rw [hg]; exact Nat.ne_of_gt (blk_lt (g := gb330) (o := .cells #[.int .i64 a0_0, .slice A0_1 l0_1.length c0_1, .int .i64 a0_2] 24 (0, 0)) (BA BK330.out)) : gb331 ≠ gb330)); replace BK330 := Aside0.mk (blk_below (BA BK330.out) hb); clear hb hbox hg) | ((with_reducible refine gate_dst (N := 3) rfl ?_); refine box_event ?hg (N := 3) ?hd (cs := #[.int .i64 0, .int .i64 0, .int .i64 0, .int .i64 0, .int .i64 0, .int .i64 0, .string (⟨#[]⟩ : ByteArray), .int .i64 0]) (t := 36) ?hr ?_; (case hd => rfl); (case hg => rfl); (case hr => first | (go_simp; done) | (go_simp; rfl)); intro gb332 hg w35 hbox hb; replace HO0_1 := Aside0.mk (Kd.V_below (Kd.V_elderB (Kd.VA HO0_1.out) gb332 (Nat.le_of_eq hg.symm)) hb); have BK332 := Aside0.mk (hbox); have GE332 := Aside0.mk (ge1 hg (LA HB.out)); replace HB := Aside0.mk (below_step (LA HB.out) hb); have NB330_332 := Aside0.mk ((by rw [hg]; exact Nat.ne_of_lt (blk_lt (g := gb330) (o := .cells #[.int .i64 a0_0, .slice A0_1 l0_1.length c0_1, .int .i64 a0_2] 24 (0, 0)) (BA BK330.out)) : gb330 ≠ gb332)); have NB332_330 := Aside0.mk ((by rw [hg]; exact Nat.ne_of_gt (blk_lt (g := gb330) (o := .cells #[.int .i64 a0_0, .slice A0_1 l0_1.length c0_1, .int .i64 a0_2] 24 (0, 0)) (BA BK330.out)) : gb332 ≠ gb330)); replace BK330 := Aside0.mk (blk_below (BA BK330.out) hb); have NB331_332 := Aside0.mk ((by rw [hg]; exact Nat.ne_of_lt (blk_lt (g := gb331) (o := .cells #[.int .i64 0, .slice none 0 0, .int .i64 0] 24 (0, 0)) (BA BK331.out)) : gb331 ≠ gb332)); have NB332_331 := Aside0.mk ((by rw [hg]; exact Nat.ne_of_gt (blk_lt (g := gb331) (o := .cells #[.int .i64 0, .slice none 0 0, .int .i64 0] 24 (0, 0)) (BA BK331.out)) : gb332 ≠ gb331)); replace BK331 := Aside0.mk (blk_below (BA BK331.out) hb); clear hb hbox hg; have hnb36 := NB330_331.out; have hnc36 := NB331_330.out; have hnb37 := NB330_332.out; have hnc37 := NB332_330.out; obtain ⟨hcz38_0, hcz38_1, hcz38_2, hfz38_0, hfz38_1, hfz38_2⟩ := cz3 BK330.out; have hnb39 := NB331_332.out; have hnc39 := NB332_331.out; obtain ⟨hcz40_0, hcz40_1, hcz40_2, hfz40_0, hfz40_1, hfz40_2⟩ := cz3 BK331.out; obtain ⟨hcz41_0, hcz41_1, hcz41_2, hcz41_3, hcz41_4, hcz41_5, hcz41_6, hcz41_7, hfz41_0, hfz41_1, hfz41_2, hfz41_3, hfz41_4, hfz41_5, hfz41_6, hfz41_7⟩ := cz8 BK332.out))
      refine bodyPost_ret (results_list (rs := [.cell 2 24, .cell 3 36, .tmp 4]) rfl (by simp) (.cell gb331 24 #[.int .i64 a0_0, .slice A0_1 l0_1.length c0_1, .int .i64 0] (0, 0) _ rfl (by (with_reducible repeat (first | refine blk_drewN ?_ _ | refine blk_drew ?_ | refine blk_alloc ?_ _)); refine blk_far ?_ NB331_332.out _; (with_reducible repeat (first | refine blk_drewN ?_ _ | refine blk_drew ?_ | refine blk_alloc ?_ _)); refine blk_far ?_ NB331_332.out _; (with_reducible repeat (first | refine blk_drewN ?_ _ | refine blk_drew ?_ | refine blk_alloc ?_ _)); refine blk_far ?_ NB331_332.out _; (with_reducible repeat (first | refine blk_drewN ?_ _ | refine blk_drew ?_ | refine blk_alloc ?_ _)); refine blk_far ?_ NB331_332.out _; (with_reducible repeat (first | refine blk_drewN ?_ _ | refine blk_drew ?_ | refine blk_alloc ?_ _)); refine blk_far ?_ NB331_332.out _; (with_reducible repeat (first | refine blk_drewN ?_ _ | refine blk_drew ?_ | refine blk_alloc ?_ _)); refine blk_far ?_ NB331_332.out _; (with_reducible repeat (first | refine blk_drewN ?_ _ | refine blk_drew ?_ | refine blk_alloc ?_ _)); refine blk_far ?_ NB331_332.out _; (with_reducible repeat (first | refine blk_drewN ?_ _ | refine blk_drew ?_ | refine blk_alloc ?_ _)); refine blk_far ?_ NB331_332.out _; (with_reducible repeat (first | refine blk_drewN ?_ _ | refine blk_drew ?_ | refine blk_alloc ?_ _)); refine blk_put (cs := #[.int .i64 a0_0, .slice A0_1 l0_1.length c0_1, .int .i64 0]) ?_ 2 _ rfl; (with_reducible repeat (first | refine blk_drewN ?_ _ | refine blk_drew ?_ | refine blk_alloc ?_ _)); refine blk_put (cs := #[.int .i64 a0_0, .slice none 0 0, .int .i64 0]) ?_ 1 _ rfl; (with_reducible repeat (first | refine blk_drewN ?_ _ | refine blk_drew ?_ | refine blk_alloc ?_ _)); refine blk_put (cs := #[.int .i64 0, .slice none 0 0, .int .i64 0]) ?_ 0 _ rfl; exact BF BK331.out NB331_330.out) Try.underlying24 rfl (by kernel_rfl) (.cell gb332 36 #[.int .i64 4, .int .i64 0, .int .i64 0, .int .i64 0, .int .i64 0, .int .i64 0, .string (⟨#[]⟩ : ByteArray), .int .i64 a0_2] (0, 0) _ rfl (by (with_reducible repeat (first | refine blk_drewN ?_ _ | refine blk_drew ?_ | refine blk_alloc ?_ _)); refine blk_put (cs := #[.int .i64 4, .int .i64 0, .int .i64 0, .int .i64 0, .int .i64 0, .int .i64 0, .string (⟨#[]⟩ : ByteArray), .int .i64 0]) ?_ 7 _ rfl; (with_reducible repeat (first | refine blk_drewN ?_ _ | refine blk_drew ?_ | refine blk_alloc ?_ _)); refine blk_put (cs := #[.int .i64 4, .int .i64 0, .int .i64 0, .int .i64 0, .int .i64 0, .int .i64 0, .string (⟨#[]⟩ : ByteArray), .int .i64 0]) ?_ 6 _ rfl; (with_reducible repeat (first | refine blk_drewN ?_ _ | refine blk_drew ?_ | refine blk_alloc ?_ _)); refine blk_put (cs := #[.int .i64 4, .int .i64 0, .int .i64 0, .int .i64 0, .int .i64 0, .int .i64 0, .string (⟨#[]⟩ : ByteArray), .int .i64 0]) ?_ 5 _ rfl; (with_reducible repeat (first | refine blk_drewN ?_ _ | refine blk_drew ?_ | refine blk_alloc ?_ _)); refine blk_put (cs := #[.int .i64 4, .int .i64 0, .int .i64 0, .int .i64 0, .int .i64 0, .int .i64 0, .string (⟨#[]⟩ : ByteArray), .int .i64 0]) ?_ 4 _ rfl; (with_reducible repeat (first | refine blk_drewN ?_ _ | refine blk_drew ?_ | refine blk_alloc ?_ _)); refine blk_put (cs := #[.int .i64 4, .int .i64 0, .int .i64 0, .int .i64 0, .int .i64 0, .int .i64 0, .string (⟨#[]⟩ : ByteArray), .int .i64 0]) ?_ 3 _ rfl; (with_reducible repeat (first | refine blk_drewN ?_ _ | refine blk_drew ?_ | refine blk_alloc ?_ _)); refine blk_put (cs := #[.int .i64 4, .int .i64 0, .int .i64 0, .int .i64 0, .int .i64 0, .int .i64 0, .string (⟨#[]⟩ : ByteArray), .int .i64 0]) ?_ 2 _ rfl; (with_reducible repeat (first | refine blk_drewN ?_ _ | refine blk_drew ?_ | refine blk_alloc ?_ _)); refine blk_put (cs := #[.int .i64 4, .int .i64 0, .int .i64 0, .int .i64 0, .int .i64 0, .int .i64 0, .string (⟨#[]⟩ : ByteArray), .int .i64 0]) ?_ 1 _ rfl; (with_reducible repeat (first | refine blk_drewN ?_ _ | refine blk_drew ?_ | refine blk_alloc ?_ _)); refine blk_put (cs := #[.int .i64 0, .int .i64 0, .int .i64 0, .int .i64 0, .int .i64 0, .int .i64 0, .string (⟨#[]⟩ : ByteArray), .int .i64 0]) ?_ 0 _ rfl; exact BM BK332.out (N1 NB332_331.out (N1 NB332_330.out N0))) Try.underlying36 rfl (by kernel_rfl) (.tmp .nil)))) rfl ?_
      exact ⟨_, by first | rfl | (simp [errW_none, errW_some] <;> rfl) | (simp [*, errW_none, errW_some] <;> rfl), by (with_reducible repeat (first | apply Kd.V_alloc | apply Kd.V_drewN | apply Kd.V_drew)); exact Kd.V_mono (Kd.V_ms (gs := [gb332, gb331, gb330]) (Kd.V_mono (Kd.V_mono (Kd.V_mono HO0_1.out (fun k_ hk => (⟨hk, hk.1.1.2⟩ : _ ∧ k_ ≠ gb330))) (fun k_ hk => (⟨hk, hk.1.1.2⟩ : _ ∧ k_ ≠ gb331))) (fun k_ hk => (⟨hk, hk.1.1.2⟩ : _ ∧ k_ ≠ gb332))) (fun _ hk => N1 (hk.2) (N1 (hk.1.2) (N1 (hk.1.1.2) (N0))))) (fun _ hk => hk.1.1.1.1.1.1), LG HB.out (G1 GE330.out (G1 GE331.out (G1 GE332.out G0)))⟩
    · rw [if_neg c32] at H
      have c32b0 : decide (0 < a0_2) = false := decide_eq_false c32
      clear c32
      simp only [Option.some.injEq, Prod.mk.injEq] at H
      obtain ⟨rfl, rfl, rfl, rfl, rfl, rfl, rfl, rfl, rfl, rfl, rfl, rfl⟩ := H
      go_enter Try.func14, Try.ntmps14
      go_wp2_with (first | ((with_reducible refine gate_dst (N := 1) rfl ?_); refine box_event ?hg (N := 1) ?hd (cs := #[.int .i64 a0_0, .slice A0_1 l0_1.length c0_1, .int .i64 a0_2]) (t := 24) ?hr ?_; (case hd => rfl); (case hg => rfl); (case hr => first | (go_simp; done) | (go_simp; rfl)); intro gb330 hg w42 hbox hb; replace HO0_1 := Aside0.mk (Kd.V_below (Kd.V_elderB (Kd.VA HO0_1.out) gb330 (Nat.le_of_eq hg.symm)) hb); have BK330 := Aside0.mk (hbox); have GE330 := Aside0.mk (ge1 hg (LA HB.out)); replace HB := Aside0.mk (below_step (LA HB.out) hb); clear hb hbox hg) | ((with_reducible refine gate_dst (N := 2) rfl ?_); refine box_event ?hg (N := 2) ?hd (cs := #[.int .i64 0, .slice none 0 0, .int .i64 0]) (t := 24) ?hr ?_; (case hd => rfl); (case hg => rfl); (case hr => first | (go_simp; done) | (go_simp; rfl)); intro gb331 hg w43 hbox hb; replace HO0_1 := Aside0.mk (Kd.V_below (Kd.V_elderB (Kd.VA HO0_1.out) gb331 (Nat.le_of_eq hg.symm)) hb); have BK331 := Aside0.mk (hbox); have GE331 := Aside0.mk (ge1 hg (LA HB.out)); replace HB := Aside0.mk (below_step (LA HB.out) hb); have NB330_331 := Aside0.mk ((by rw [hg]; exact Nat.ne_of_lt (blk_lt (g := gb330) (o := .cells #[.int .i64 a0_0, .slice A0_1 l0_1.length c0_1, .int .i64 a0_2] 24 (0, 0)) (BA BK330.out)) : gb330 ≠ gb331)); have NB331_330 := Aside0.mk ((by rw [hg]; exact Nat.ne_of_gt (blk_lt (g := gb330) (o := .cells #[.int .i64 a0_0, .slice A0_1 l0_1.length c0_1, .int .i64 a0_2] 24 (0, 0)) (BA BK330.out)) : gb331 ≠ gb330)); replace BK330 := Aside0.mk (blk_below (BA BK330.out) hb); clear hb hbox hg) | ((with_reducible refine gate_dst (N := 3) rfl ?_); refine box_event ?hg (N := 3) ?hd (cs := #[.int .i64 0, .int .i64 0, .int .i64 0, .int .i64 0, .int .i64 0, .int .i64 0, .string (⟨#[]⟩ : ByteArray), .int .i64 0]) (t := 36) ?hr ?_; (case hd => rfl); (case hg => rfl); (case hr => first | (go_simp; done) | (go_simp; rfl)); intro gb332 hg w44 hbox hb; replace HO0_1 := Aside0.mk (Kd.V_below (Kd.V_elderB (Kd.VA HO0_1.out) gb332 (Nat.le_of_eq hg.symm)) hb); have BK332 := Aside0.mk (hbox); have GE332 := Aside0.mk (ge1 hg (LA HB.out)); replace HB := Aside0.mk (below_step (LA HB.out) hb); have NB330_332 := Aside0.mk ((by rw [hg]; exact Nat.ne_of_lt (blk_lt (g := gb330) (o := .cells #[.int .i64 a0_0, .slice A0_1 l0_1.length c0_1, .int .i64 a0_2] 24 (0, 0)) (BA BK330.out)) : gb330 ≠ gb332)); have NB332_330 := Aside0.mk ((by rw [hg]; exact Nat.ne_of_gt (blk_lt (g := gb330) (o := .cells #[.int .i64 a0_0, .slice A0_1 l0_1.length c0_1, .int .i64 a0_2] 24 (0, 0)) (BA BK330.out)) : gb332 ≠ gb330)); replace BK330 := Aside0.mk (blk_below (BA BK330.out) hb); have NB331_332 := Aside0.mk ((by rw [hg]; exact Nat.ne_of_lt (blk_lt (g := gb331) (o := .cells #[.int .i64 0, .slice none 0 0, .int .i64 0] 24 (0, 0)) (BA BK331.out)) : gb331 ≠ gb332)); have NB332_331 := Aside0.mk ((by rw [hg]; exact Nat.ne_of_gt (blk_lt (g := gb331) (o := .cells #[.int .i64 0, .slice none 0 0, .int .i64 0] 24 (0, 0)) (BA BK331.out)) : gb332 ≠ gb331)); replace BK331 := Aside0.mk (blk_below (BA BK331.out) hb); clear hb hbox hg; have hnb45 := NB330_331.out; have hnc45 := NB331_330.out; have hnb46 := NB330_332.out; have hnc46 := NB332_330.out; obtain ⟨hcz47_0, hcz47_1, hcz47_2, hfz47_0, hfz47_1, hfz47_2⟩ := cz3 BK330.out; have hnb48 := NB331_332.out; have hnc48 := NB332_331.out; obtain ⟨hcz49_0, hcz49_1, hcz49_2, hfz49_0, hfz49_1, hfz49_2⟩ := cz3 BK331.out; obtain ⟨hcz50_0, hcz50_1, hcz50_2, hcz50_3, hcz50_4, hcz50_5, hcz50_6, hcz50_7, hfz50_0, hfz50_1, hfz50_2, hfz50_3, hfz50_4, hfz50_5, hfz50_6, hfz50_7⟩ := cz8 BK332.out))
      refine bodyPost_ret (results_list (rs := [.cell 2 24, .cell 3 36, .tmp 4]) rfl (by simp) (.cell gb331 24 #[.int .i64 a0_0, .slice A0_1 l0_1.length c0_1, .int .i64 a0_2] (0, 0) _ rfl (by (with_reducible repeat (first | refine blk_drewN ?_ _ | refine blk_drew ?_ | refine blk_alloc ?_ _)); refine blk_far ?_ NB331_332.out _; (with_reducible repeat (first | refine blk_drewN ?_ _ | refine blk_drew ?_ | refine blk_alloc ?_ _)); refine blk_far ?_ NB331_332.out _; (with_reducible repeat (first | refine blk_drewN ?_ _ | refine blk_drew ?_ | refine blk_alloc ?_ _)); refine blk_far ?_ NB331_332.out _; (with_reducible repeat (first | refine blk_drewN ?_ _ | refine blk_drew ?_ | refine blk_alloc ?_ _)); refine blk_far ?_ NB331_332.out _; (with_reducible repeat (first | refine blk_drewN ?_ _ | refine blk_drew ?_ | refine blk_alloc ?_ _)); refine blk_far ?_ NB331_332.out _; (with_reducible repeat (first | refine blk_drewN ?_ _ | refine blk_drew ?_ | refine blk_alloc ?_ _)); refine blk_far ?_ NB331_332.out _; (with_reducible repeat (first | refine blk_drewN ?_ _ | refine blk_drew ?_ | refine blk_alloc ?_ _)); refine blk_far ?_ NB331_332.out _; (with_reducible repeat (first | refine blk_drewN ?_ _ | refine blk_drew ?_ | refine blk_alloc ?_ _)); refine blk_far ?_ NB331_332.out _; exact BP BK331.out (by rfl)) Try.underlying24 rfl (by kernel_rfl) (.cell gb332 36 #[.int .i64 0, .int .i64 0, .int .i64 0, .int .i64 0, .int .i64 0, .int .i64 0, .string (⟨#[]⟩ : ByteArray), .int .i64 0] (0, 0) _ rfl (by (with_reducible repeat (first | refine blk_drewN ?_ _ | refine blk_drew ?_ | refine blk_alloc ?_ _)); refine blk_put (cs := #[.int .i64 0, .int .i64 0, .int .i64 0, .int .i64 0, .int .i64 0, .int .i64 0, .string (⟨#[]⟩ : ByteArray), .int .i64 0]) ?_ 7 _ rfl; (with_reducible repeat (first | refine blk_drewN ?_ _ | refine blk_drew ?_ | refine blk_alloc ?_ _)); refine blk_put (cs := #[.int .i64 0, .int .i64 0, .int .i64 0, .int .i64 0, .int .i64 0, .int .i64 0, .string (⟨#[]⟩ : ByteArray), .int .i64 0]) ?_ 6 _ rfl; (with_reducible repeat (first | refine blk_drewN ?_ _ | refine blk_drew ?_ | refine blk_alloc ?_ _)); refine blk_put (cs := #[.int .i64 0, .int .i64 0, .int .i64 0, .int .i64 0, .int .i64 0, .int .i64 0, .string (⟨#[]⟩ : ByteArray), .int .i64 0]) ?_ 5 _ rfl; (with_reducible repeat (first | refine blk_drewN ?_ _ | refine blk_drew ?_ | refine blk_alloc ?_ _)); refine blk_put (cs := #[.int .i64 0, .int .i64 0, .int .i64 0, .int .i64 0, .int .i64 0, .int .i64 0, .string (⟨#[]⟩ : ByteArray), .int .i64 0]) ?_ 4 _ rfl; (with_reducible repeat (first | refine blk_drewN ?_ _ | refine blk_drew ?_ | refine blk_alloc ?_ _)); refine blk_put (cs := #[.int .i64 0, .int .i64 0, .int .i64 0, .int .i64 0, .int .i64 0, .int .i64 0, .string (⟨#[]⟩ : ByteArray), .int .i64 0]) ?_ 3 _ rfl; (with_reducible repeat (first | refine blk_drewN ?_ _ | refine blk_drew ?_ | refine blk_alloc ?_ _)); refine blk_put (cs := #[.int .i64 0, .int .i64 0, .int .i64 0, .int .i64 0, .int .i64 0, .int .i64 0, .string (⟨#[]⟩ : ByteArray), .int .i64 0]) ?_ 2 _ rfl; (with_reducible repeat (first | refine blk_drewN ?_ _ | refine blk_drew ?_ | refine blk_alloc ?_ _)); refine blk_put (cs := #[.int .i64 0, .int .i64 0, .int .i64 0, .int .i64 0, .int .i64 0, .int .i64 0, .string (⟨#[]⟩ : ByteArray), .int .i64 0]) ?_ 1 _ rfl; (with_reducible repeat (first | refine blk_drewN ?_ _ | refine blk_drew ?_ | refine blk_alloc ?_ _)); refine blk_put (cs := #[.int .i64 0, .int .i64 0, .int .i64 0, .int .i64 0, .int .i64 0, .int .i64 0, .string (⟨#[]⟩ : ByteArray), .int .i64 0]) ?_ 0 _ rfl; exact BF BK332.out NB332_331.out) Try.underlying36 rfl (by kernel_rfl) (.tmp .nil)))) rfl ?_
      exact ⟨_, by first | rfl | (simp [errW_none, errW_some] <;> rfl) | (simp [*, errW_none, errW_some] <;> rfl), by (with_reducible repeat (first | apply Kd.V_alloc | apply Kd.V_drewN | apply Kd.V_drew)); exact Kd.V_mono (Kd.V_ms (gs := [gb332, gb331]) (Kd.V_mono (Kd.V_mono HO0_1.out (fun k_ hk => (⟨hk, hk.1.2⟩ : _ ∧ k_ ≠ gb331))) (fun k_ hk => (⟨hk, hk.1.2⟩ : _ ∧ k_ ≠ gb332))) (fun _ hk => N1 (hk.2) (N1 (hk.1.2) (N0)))) (fun _ hk => hk.1.1.1.1.1), LG HB.out (G1 GE330.out (G1 GE331.out (G1 GE332.out G0)))⟩

/-! ### hopperref14_All: function 16 -/
def hopperref14_All.l0 : Nat → List (S36) → Int → List (S36) → Int → Option (Int × (List (S36)) × Int × (List (S36)))
  | 0, _, _, _, _ => none
  | k + 1, x4, x341000, x341001, x341002 => (hopperref14_Read.f x341000 x341001 x341002).bind fun bt342 => (if bt342.2.2.2.2.2.2.2.2.2.2.2 = 0 then (if x4.length < 1954687338268 then (hopperref14_All.l0 k (x4 ++ [(⟨bt342.2.2.2.1, (⟨bt342.2.2.2.2.1, bt342.2.2.2.2.2.1, bt342.2.2.2.2.2.2.1, bt342.2.2.2.2.2.2.2.1, bt342.2.2.2.2.2.2.2.2.1, bt342.2.2.2.2.2.2.2.2.2.1⟩ : S34), bt342.2.2.2.2.2.2.2.2.2.2.1⟩ : S36)]) bt342.1 bt342.2.1 bt342.2.2.1) else (none)) else (some (x341000, x341001, x341002, x4)))
def hopperref14_All.f (k : Nat) (a0_0 : Int) (l0_1 : List (S36)) (a0_2 : Int) : Option (Int × (List (S36)) × Int × (List (S36))) := hopperref14_All.l0 k ([] : List (S36)) a0_0 l0_1 a0_2
theorem hopperref14_All.mono_l : ∀ k, (∀ y0 y1 y2 y3, LeO (hopperref14_All.l0 k y0 y1 y2 y3) (hopperref14_All.l0 (k + 1) y0 y1 y2 y3))
  | 0 => fun _ _ _ _ r h => by simp [hopperref14_All.l0] at h
  | k + 1 => by
    have ih0 := hopperref14_All.mono_l k
    · intro y0 y1 y2 y3
      unfold hopperref14_All.l0
      repeat' first
      | (with_reducible exact ih0 _ _ _ _)
      | (with_reducible exact LeO.refl _)
      | (with_reducible exact LeO.none _)
      | (with_reducible refine LeO.ite ?_ ?_)
      | (with_reducible refine LeO.bind ?_ (fun _ => ?_))
      | exact ih0 _ _ _ _
      | exact LeO.none _
      | refine LeO.ite ?_ ?_
      | refine LeO.bind ?_ (fun _ => ?_)
theorem hopperref14_All.mono : ∀ a0 a1 a2 k, LeO (hopperref14_All.f k a0 a1 a2) (hopperref14_All.f (k + 1) a0 a1 a2) := by
  intro a0 a1 a2 k
  have ih0 := hopperref14_All.mono_l k
  unfold hopperref14_All.f
  repeat' first
      | (with_reducible exact ih0 _ _ _ _)
      | (with_reducible exact LeO.refl _)
      | (with_reducible exact LeO.none _)
      | (with_reducible refine LeO.ite ?_ ?_)
      | (with_reducible refine LeO.bind ?_ (fun _ => ?_))
      | exact ih0 _ _ _ _
      | exact LeO.none _
      | refine LeO.ite ?_ ?_
      | refine LeO.bind ?_ (fun _ => ?_)
set_option maxHeartbeats 8000000 in
set_option maxRecDepth 100000 in
theorem hopperref14_All.calls (k : Nat) (a0_0 : Int) (P0_1_ : Nat → Prop) (A0_1 : Option Addr) (c0_1 : Nat) (l0_1 : List (S36)) (a0_2 : Int) (r1 : Int) (r2 : List (S36)) (r3 : Int) (r4 : List (S36)) (w : World) (hs0_1 : Kd.V k36 36 w w.heap.size (fun k_ => P0_1_ k_) (.slice A0_1 l0_1.length c0_1) l0_1) (h : hopperref14_All.f k a0_0 l0_1 a0_2 = some (r1, r2, r3, r4)) :
    Calls Try.prog 16 #[.agg #[.int .i64 a0_0, .slice A0_1 l0_1.length c0_1, .int .i64 a0_2]] w fun e w' => ∃ v1_ v3_ : Value, e = .returned (.tuple #[.agg #[.int .i64 r1, v1_, .int .i64 r3], v3_]) ∧ Kd.V k36 36 w' w.heap.size (fun k_ => (P0_1_ k_ ∨ w.heap.size ≤ k_) ∧ some k_ ≠ (v3_ : Value).ownBlock) v1_ r2 ∧ Kd.R k36 36 w' w.heap.size (fun k_ => (w.heap.size ≤ k_)) v3_ r4 ∧ Below w.heap.size w w' := by
  have hu24 := Try.underlying24
  have hu36 := Try.underlying36
  have HO0_1 := Aside0.mk (show Kd.V k36 36 w w.heap.size (fun k_ => (P0_1_ k_ ∨ w.heap.size ≤ k_)) (.slice A0_1 l0_1.length c0_1) l0_1 from Kd.V_mono hs0_1 (fun k_ hk => .inl hk))
  have HB := Aside0.mk (Below.refl w.heap.size w)
  have H : (hopperref14_All.l0 k ([] : List (S36)) a0_0 l0_1 a0_2) = some (r1, r2, r3, r4) := h
  clear h
  have H' := Aside0.mk H
  clear H
  go_enter Try.func16, Try.ntmps16
  go_wp2_with (first | ((with_reducible refine gate_dst (N := 1) rfl ?_); refine box_event ?hg (N := 1) ?hd (cs := #[.int .i64 a0_0, .slice A0_1 l0_1.length c0_1, .int .i64 a0_2]) (t := 24) ?hr ?_; (case hd => rfl); (case hg => rfl); (case hr => first | (go_simp; done) | (go_simp; rfl)); intro gb340 hg w2 hbox hb; replace HO0_1 := Aside0.mk (Kd.V_below (Kd.V_elderB (Kd.VA HO0_1.out) gb340 (Nat.le_of_eq hg.symm)) hb); have BK340 := Aside0.mk (hbox); have GE340 := Aside0.mk (ge1 hg (LA HB.out)); replace HB := Aside0.mk (below_step (LA HB.out) hb); clear hb hbox hg) | ((with_reducible refine gate_dst (N := 2) rfl ?_); refine box_event ?hg (N := 2) ?hd (cs := #[.int .i64 0, .slice none 0 0, .int .i64 0]) (t := 24) ?hr ?_; (case hd => rfl); (case hg => rfl); (case hr => first | (go_simp; done) | (go_simp; rfl)); intro gb341 hg w3 hbox hb; replace HO0_1 := Aside0.mk (Kd.V_below (Kd.V_elderB (Kd.VA HO0_1.out) gb341 (Nat.le_of_eq hg.symm)) hb); have BK341 := Aside0.mk (hbox); have GE341 := Aside0.mk (ge1 hg (LA HB.out)); replace HB := Aside0.mk (below_step (LA HB.out) hb); have NB340_341 := Aside0.mk ((by rw [hg]; exact Nat.ne_of_lt (blk_lt (g := gb340) (o := .cells #[.int .i64 a0_0, .slice A0_1 l0_1.length c0_1, .int .i64 a0_2] 24 (0, 0)) (BA BK340.out)) : gb340 ≠ gb341)); have NB341_340 := Aside0.mk ((by rw [hg]; exact Nat.ne_of_gt (blk_lt (g := gb340) (o := .cells #[.int .i64 a0_0, .slice A0_1 l0_1.length c0_1, .int .i64 a0_2] 24 (0, 0)) (BA BK340.out)) : gb341 ≠ gb340)); replace BK340 := Aside0.mk (blk_below (BA BK340.out) hb); clear hb hbox hg))
  go_loopg [4] k (fun kq v4 w' => ∃ (x4_1 : List (S36)) (x341000_1 : Int) (x341001_1 : List (S36)) (x341002_1 : Int) (x342000_1 : Int) (x342002_1 : Int) (u341001 : Value), Aside0 (hopperref14_All.l0 kq x4_1 x341000_1 x341001_1 x341002_1 = some (r1, r2, r3, r4)) ∧ Aside0 (kq ≤ k) ∧ Aside0 (Kd.R k36 36 w' w.heap.size (fun k_ => (w.heap.size ≤ k_)) v4 x4_1) ∧ Aside0 (Kd.V k36 36 w' w.heap.size (fun k_ => (P0_1_ k_ ∨ w.heap.size ≤ k_) ∧ some k_ ≠ (v4 : Value).ownBlock ∧ k_ ≠ gb340 ∧ k_ ≠ gb341) u341001 x341001_1) ∧ Aside0 (w'.heap[gb340]? = some (.cells #[.int .i64 x341000_1, u341001, .int .i64 x341002_1] 24 (0, 0))) ∧ Aside0 (w'.heap[gb341]? = some (.cells #[.int .i64 x342000_1, (.slice none 0 0), .int .i64 x342002_1] 24 (0, 0))) ∧ Aside0 (Below w.heap.size w w'))
  case atStart => exact ⟨(([] : List (S36))), (a0_0), (l0_1), (a0_2), (0), (0), (.slice A0_1 l0_1.length c0_1), H', ⟨Nat.le_refl _⟩, ⟨by first | exact Kd.R_nil _ _ _ _ _ | exact Kd.N_nil _ _ _ _ _ | exact Kd.V_nil _ _ _ _ _ | exact Kd.Q_nil _ _ _ _ _ | exact Kd.S_nil _ _ _ _ _⟩, ⟨by (with_reducible repeat (first | apply Kd.V_alloc | apply Kd.V_drewN | apply Kd.V_drew)); exact Kd.V_mono HO0_1.out (fun _ hk => ⟨hk.1.1, ⟨(by simp [Value.ownBlock]), ⟨hk.1.2, hk.2⟩⟩⟩)⟩, ⟨by (with_reducible repeat (first | refine blk_drewN ?_ _ | refine blk_drew ?_ | refine blk_alloc ?_ _)); exact BK340.out⟩, ⟨by (with_reducible repeat (first | refine blk_drewN ?_ _ | refine blk_drew ?_ | refine blk_alloc ?_ _)); exact BK341.out⟩, ⟨LG HB.out (G1 GE340.out (G1 GE341.out G0))⟩⟩
  case round =>
    clear H'
    try clear c1
    try clear p2
    obtain ⟨x4_1, x341000_1, x341001_1, x341002_1, x342000_1, x342002_1, u341001, HA, HK1, HO_4, HO_341001, BK340, BK341, HB⟩ := hrel
    cases gk with
    | zero => exact absurd HA.out (by simp [hopperref14_All.l0])
    | succ k1 =>
      have H := HA.out
      clear HA
      simp only [hopperref14_All.l0] at H
      replace H := Option.bind_eq_some_iff.mp H
      obtain ⟨⟨t342, t343, t346, t347, t348, t349, t350, t351, t352, t353, t354, t355⟩, A40, H⟩ := H
      replace H : (if t355 = 0 then (if x4_1.length < 1954687338268 then (hopperref14_All.l0 k1 (x4_1 ++ [(⟨t347, (⟨t348, t349, t350, t351, t352, t353⟩ : S34), t354⟩ : S36)]) t342 t343 t346) else (none)) else (some (x341000_1, x341001_1, x341002_1, x4_1))) = some (r1, r2, r3, r4) := H
      have A4 := Aside0.mk A40
      clear A40
      by_cases c5 : t355 = 0
      · rw [if_pos c5] at H
        have c5b0 : (t355 == 0) = true := beq_iff_eq.mpr c5
        have c5b1 : (t355 != 0) = false := bne_eq_false_iff_eq.mpr c5
        clear c5
        by_cases c6 : x4_1.length < 1954687338268
        rotate_left
        · rw [if_neg c6] at H
          exact absurd H (by simp)
        rw [if_pos c6] at H
        have LMc6 := Aside0.mk c6
        clear c6
        obtain ⟨y358, hy358⟩ : ∃ y_ : List (S36), y_ = (x4_1 ++ [(⟨t347, (⟨t348, t349, t350, t351, t352, t353⟩ : S34), t354⟩ : S36)]) := ⟨_, rfl⟩
        replace H : (hopperref14_All.l0 k1 y358 t342 t343 t346) = some (r1, r2, r3, r4) := by first | (rw [hy358]; with_reducible exact H) | (have H2_ := (Option.bind_some _ _).symm.trans H; rw [hy358]; with_reducible exact H2_) | (have H2_ := (Option.bind_some _ _).symm.trans H; with_reducible exact H2_) | with_reducible exact H | (rw [hy358]; exact H) | exact H
        have Ny358 := Aside0.mk hy358
        clear hy358
        have H' := Aside0.mk H
        clear H
        have hnb7 := NB340_341.out
        have hnc7 := NB341_340.out
        have hcz8_0 : wr.cell? ⟨gb340, 0, none⟩ = some (.int .i64 x341000_1) := (blk_cell BK340.out 0).trans rfl
        have hcz8_1 : wr.cell? ⟨gb340, 1, none⟩ = some (u341001) := (blk_cell BK340.out 1).trans rfl
        have hcz8_2 : wr.cell? ⟨gb340, 2, none⟩ = some (.int .i64 x341002_1) := (blk_cell BK340.out 2).trans rfl
        have hfz8_0 := blk_frozen BK340.out 0
        have hfz8_1 := blk_frozen BK340.out 1
        have hfz8_2 := blk_frozen BK340.out 2
        obtain ⟨Ao9, co9, eo9⟩ := Kd.V_slice HO_341001.out
        subst eo9
        go_wp2_with (first | ((with_reducible refine gate_callee (f := 14) rfl ?_); refine goesL_ (some 10) rfl rfl Try.func14 (by kernel_rfl) rfl #[.agg #[.int .i64 x341000_1, .slice Ao9 x341001_1.length co9, .int .i64 x341002_1]] rfl (by (try simp only [List.map_toArray, List.map_cons, List.map_nil]); first | done | rfl | (simp only [List.length_drop, List.length_take]; rfl)) ?_; (with_reducible refine (hopperref14_Read.calls x341000_1 (fun k_ => ((P0_1_ k_ ∨ w.heap.size ≤ k_) ∧ (some k_ ≠ (u4 : Value).ownBlock ∧ (k_ ≠ gb340 ∧ k_ ≠ gb341)))) _ _ x341001_1 x341002_1 t342 t343 t346 t347 t348 t349 t350 t351 t352 t353 t354 t355 _ ?side1 A4.out).mono ?_); (case side1 => exact HO_341001.out); rintro e w10 ⟨v344, rfl, ho0, hb⟩; refine ⟨_, rfl, ?_⟩; have HO345 := Aside0.mk (Kd.V_lower (Kd.V_mono (ok' := fun k_ => (P0_1_ k_ ∨ w.heap.size ≤ k_) ∧ some k_ ≠ (u4 : Value).ownBlock ∧ k_ ≠ gb340 ∧ k_ ≠ gb341) ho0 (fun k_ hk_ => ⟨Or.elim hk_ (fun hs_ => hs_.1) (fun hn_ => (.inr (Nat.le_trans (below_size (LA HB.out)) hn_))), Or.elim hk_ (fun hs_ => hs_.2.1) (fun hn_ => (Kd.fresh' (Kd.R_lt (Kd.RA HO_4.out)) k_ hn_)), Or.elim hk_ (fun hs_ => hs_.2.2.1) (fun hn_ => (Kd.freshB (g := gb340) (o := .cells #[.int .i64 x341000_1, .slice Ao9 x341001_1.length co9, .int .i64 x341002_1] 24 (0, 0)) (BA BK340.out) k_ hn_)), Or.elim hk_ (fun hs_ => hs_.2.2.2) (fun hn_ => (Kd.freshB (g := gb341) (o := .cells #[.int .i64 x342000_1, .slice none 0 0, .int .i64 x342002_1] 24 (0, 0)) (BA BK341.out) k_ hn_))⟩)) (below_size (LA HB.out))); replace HO_4 := Aside0.mk (Kd.R_below (Kd.RA HO_4.out) hb); replace BK340 := Aside0.mk (blk_below (BA BK340.out) hb); replace BK341 := Aside0.mk (blk_below (BA BK341.out) hb); replace HB := Aside0.mk (below_step (LA HB.out) hb); clear HO_341001; (try clear hb); (try clear hb2); (try clear hk); (try clear hi); (try clear ho0)) | ((with_reducible refine gate_dst (N := 5) rfl ?_); refine box_event ?hg (N := 5) ?hd (cs := #[.int .i64 0, .slice none 0 0, .int .i64 0]) (t := 24) ?hr ?_; (case hd => rfl); (case hg => rfl); (case hr => first | (go_simp; done) | (go_simp; rfl)); intro gb356 hg w11 hbox hb; replace HO_4 := Aside0.mk (Kd.R_below (Kd.RA HO_4.out) hb); replace HO345 := Aside0.mk (Kd.V_below (Kd.V_elderB (Kd.VA HO345.out) gb356 (Nat.le_of_eq hg.symm)) hb); have BK356 := Aside0.mk (hbox); have GE356 := Aside0.mk (ge1 hg (LA HB.out)); replace HB := Aside0.mk (below_step (LA HB.out) hb); have NB340_356 := Aside0.mk ((by rw [hg]; exact Nat.ne_of_lt (blk_lt (g := gb340) (o := .cells #[.int .i64 x341000_1, .slice Ao9 x341001_1.length co9, .int .i64 x341002_1] 24 (0, 0)) (BA BK340.out)) : gb340 ≠ gb356)); have NB356_340 := Aside0.mk ((by rw [hg]; exact Nat.ne_of_gt (blk_lt (g := gb340) (o := .cells #[.int .i64 x341000_1, .slice Ao9 x341001_1.length co9, .int .i64 x341002_1] 24 (0, 0)) (BA BK340.out)) : gb356 ≠ gb340)); replace BK340 := Aside0.mk (blk_below (BA BK340.out) hb); have NB341_356 := Aside0.mk ((by rw [hg]; exact Nat.ne_of_lt (blk_lt (g := gb341) (o := .cells #[.int .i64 x342000_1, .slice none 0 0, .int .i64 x342002_1] 24 (0, 0)) (BA BK341.out)) : gb341 ≠ gb356)); have NB356_341 := Aside0.mk ((by rw [hg]; exact Nat.ne_of_gt (blk_lt (g := gb341) (o := .cells #[.int .i64 x342000_1, .slice none 0 0, .int .i64 x342002_1] 24 (0, 0)) (BA BK341.out)) : gb356 ≠ gb341)); replace BK341 := Aside0.mk (blk_below (BA BK341.out) hb); (try clear HO_341001); clear hb hbox hg) | ((with_reducible refine gate_dst (N := 6) rfl ?_); refine box_event ?hg (N := 6) ?hd (cs := #[.int .i64 0, .int .i64 0, .int .i64 0, .int .i64 0, .int .i64 0, .int .i64 0, .string (⟨#[]⟩ : ByteArray), .int .i64 0]) (t := 36) ?hr ?_; (case hd => rfl); (case hg => rfl); (case hr => first | (go_simp; done) | (go_simp; rfl)); intro gb357 hg w12 hbox hb; replace HO_4 := Aside0.mk (Kd.R_below (Kd.R_elderB (Kd.RA HO_4.out) gb357 (Nat.le_of_eq hg.symm)) hb); replace HO345 := Aside0.mk (Kd.V_below (Kd.V_elderB (Kd.VA HO345.out) gb357 (Nat.le_of_eq hg.symm)) hb); have BK357 := Aside0.mk (hbox); have GE357 := Aside0.mk (ge1 hg (LA HB.out)); replace HB := Aside0.mk (below_step (LA HB.out) hb); have NB340_357 := Aside0.mk ((by rw [hg]; exact Nat.ne_of_lt (blk_lt (g := gb340) (o := .cells #[.int .i64 x341000_1, .slice Ao9 x341001_1.length co9, .int .i64 x341002_1] 24 (0, 0)) (BA BK340.out)) : gb340 ≠ gb357)); have NB357_340 := Aside0.mk ((by rw [hg]; exact Nat.ne_of_gt (blk_lt (g := gb340) (o := .cells #[.int .i64 x341000_1, .slice Ao9 x341001_1.length co9, .int .i64 x341002_1] 24 (0, 0)) (BA BK340.out)) : gb357 ≠ gb340)); replace BK340 := Aside0.mk (blk_below (BA BK340.out) hb); have NB341_357 := Aside0.mk ((by rw [hg]; exact Nat.ne_of_lt (blk_lt (g := gb341) (o := .cells #[.int .i64 x342000_1, .slice none 0 0, .int .i64 x342002_1] 24 (0, 0)) (BA BK341.out)) : gb341 ≠ gb357)); have NB357_341 := Aside0.mk ((by rw [hg]; exact Nat.ne_of_gt (blk_lt (g := gb341) (o := .cells #[.int .i64 x342000_1, .slice none 0 0, .int .i64 x342002_1] 24 (0, 0)) (BA BK341.out)) : gb357 ≠ gb341)); replace BK341 := Aside0.mk (blk_below (BA BK341.out) hb); have NB356_357 := Aside0.mk ((by rw [hg]; exact Nat.ne_of_lt (blk_lt (g := gb356) (o := .cells #[.int .i64 0, .slice none 0 0, .int .i64 0] 24 (0, 0)) (BA BK356.out)) : gb356 ≠ gb357)); have NB357_356 := Aside0.mk ((by rw [hg]; exact Nat.ne_of_gt (blk_lt (g := gb356) (o := .cells #[.int .i64 0, .slice none 0 0, .int .i64 0] 24 (0, 0)) (BA BK356.out)) : gb357 ≠ gb356)); replace BK356 := Aside0.mk (blk_below (BA BK356.out) hb); (try clear HO_341001); clear hb hbox hg; have hnb13 := NB356_340.out; have hnc13 := NB340_356.out; have hnb14 := NB356_341.out; have hnc14 := NB341_356.out; have hnb15 := NB356_357.out; have hnc15 := NB357_356.out; obtain ⟨hcz16_0, hcz16_1, hcz16_2, hfz16_0, hfz16_1, hfz16_2⟩ := cz3 BK356.out; obtain ⟨Ao17, co17, eo17⟩ := Kd.V_slice HO345.out; subst eo17; have hnb18 := NB357_340.out; have hnc18 := NB340_357.out; have hnb19 := NB357_341.out; have hnc19 := NB341_357.out; obtain ⟨hcz20_0, hcz20_1, hcz20_2, hcz20_3, hcz20_4, hcz20_5, hcz20_6, hcz20_7, hfz20_0, hfz20_1, hfz20_2, hfz20_3, hfz20_4, hfz20_5, hfz20_6, hfz20_7⟩ := cz8 BK357.out) | ((with_reducible refine gate_builtin (b := .append) (xs := #[.tmp 18, .tmp 20]) rfl ?_); at_builtin; refine Kd.R_append k36 (w0 := w) w.heap.size rfl (.tmp 18) (.tmp 20) 22 36 (.agg #[(.int .i64 0), (.int .i64 0), (.int .i64 0), (.int .i64 0), (.int .i64 0), (.int .i64 0), (.string ⟨#[]⟩), (.int .i64 0)]) 72 rfl Try.underlying22 info36 rfl (by decide) (by omega) u4 x4_1 (⟨t347, (⟨t348, t349, t350, t351, t352, t353⟩ : S34), t354⟩ : S36) [.int .i64 t347, .int .i64 t348, .int .i64 t349, .int .i64 t350, .int .i64 t351, .int .i64 t352, .string t353, .int .i64 t354] (fun k_ => (w.heap.size ≤ k_) ∧ k_ ≠ gb357) (fun _ => False) rfl (by first | (go_simp; done) | (go_simp; rfl)) ?aP (fun _ hk => hk.elim) ?aF ?aO ?aB ?aS ?aL ?_; (case aP => exact k36_mkM _ _ _ (⟨t347, (⟨t348, t349, t350, t351, t352, t353⟩ : S34), t354⟩ : S36)); (case aB => exact (LG HB.out (G1 GE356.out (G1 GE357.out G0)))); (case aF => exact (fun k_ hk => ⟨(Nat.le_trans (below_size (LG HB.out (G1 GE356.out (G1 GE357.out G0)))) hk), Kd.freshB (g := gb357) (o := .cells #[.int .i64 t347, .int .i64 t348, .int .i64 t349, .int .i64 t350, .int .i64 t351, .int .i64 t352, .string t353, .int .i64 t354] 36 (0, 0)) (by (with_reducible repeat (first | refine blk_drewN ?_ _ | refine blk_drew ?_ | refine blk_alloc ?_ _)); refine blk_put (cs := #[.int .i64 t347, .int .i64 t348, .int .i64 t349, .int .i64 t350, .int .i64 t351, .int .i64 t352, .string t353, .int .i64 0]) ?_ 7 _ rfl; (with_reducible repeat (first | refine blk_drewN ?_ _ | refine blk_drew ?_ | refine blk_alloc ?_ _)); refine blk_put (cs := #[.int .i64 t347, .int .i64 t348, .int .i64 t349, .int .i64 t350, .int .i64 t351, .int .i64 t352, .string (⟨#[]⟩ : ByteArray), .int .i64 0]) ?_ 6 _ rfl; (with_reducible repeat (first | refine blk_drewN ?_ _ | refine blk_drew ?_ | refine blk_alloc ?_ _)); refine blk_put (cs := #[.int .i64 t347, .int .i64 t348, .int .i64 t349, .int .i64 t350, .int .i64 t351, .int .i64 0, .string (⟨#[]⟩ : ByteArray), .int .i64 0]) ?_ 5 _ rfl; (with_reducible repeat (first | refine blk_drewN ?_ _ | refine blk_drew ?_ | refine blk_alloc ?_ _)); refine blk_put (cs := #[.int .i64 t347, .int .i64 t348, .int .i64 t349, .int .i64 t350, .int .i64 0, .int .i64 0, .string (⟨#[]⟩ : ByteArray), .int .i64 0]) ?_ 4 _ rfl; (with_reducible repeat (first | refine blk_drewN ?_ _ | refine blk_drew ?_ | refine blk_alloc ?_ _)); refine blk_put (cs := #[.int .i64 t347, .int .i64 t348, .int .i64 t349, .int .i64 0, .int .i64 0, .int .i64 0, .string (⟨#[]⟩ : ByteArray), .int .i64 0]) ?_ 3 _ rfl; (with_reducible repeat (first | refine blk_drewN ?_ _ | refine blk_drew ?_ | refine blk_alloc ?_ _)); refine blk_put (cs := #[.int .i64 t347, .int .i64 t348, .int .i64 0, .int .i64 0, .int .i64 0, .int .i64 0, .string (⟨#[]⟩ : ByteArray), .int .i64 0]) ?_ 2 _ rfl; (with_reducible repeat (first | refine blk_drewN ?_ _ | refine blk_drew ?_ | refine blk_alloc ?_ _)); refine blk_put (cs := #[.int .i64 t347, .int .i64 0, .int .i64 0, .int .i64 0, .int .i64 0, .int .i64 0, .string (⟨#[]⟩ : ByteArray), .int .i64 0]) ?_ 1 _ rfl; (with_reducible repeat (first | refine blk_drewN ?_ _ | refine blk_drew ?_ | refine blk_alloc ?_ _)); refine blk_put (cs := #[.int .i64 0, .int .i64 0, .int .i64 0, .int .i64 0, .int .i64 0, .int .i64 0, .string (⟨#[]⟩ : ByteArray), .int .i64 0]) ?_ 0 _ rfl; exact BF BK357.out NB357_356.out) k_ hk⟩)); (case aO => exact (Kd.R_mono (Kd.R_ms (gs := [gb357, gb356]) (Kd.R_mono (Kd.R_types HO_4.out BK356.out (by decide)) (fun k_ hk => (⟨hk, hk.1.2⟩ : _ ∧ k_ ≠ gb357))) (fun _ hk => N1 (hk.2) (N1 (hk.1.2) (N0)))) (fun _ hk => ⟨hk.1.1.1, hk.1.1.2⟩))); (case aS => exact (below_size (LG HB.out (G1 GE356.out (G1 GE357.out G0))))); (case aL => have := LMc6.out; omega); intro v359 w21 ho hb hg hat; rw [← Ny358.out] at ho; replace BK340 := Aside0.mk (blk_grown (g := gb340) (o := .cells #[.int .i64 x341000_1, .slice Ao9 x341001_1.length co9, .int .i64 x341002_1] 24 (0, 0)) (BM BK340.out (N1 NB340_357.out (N1 NB340_356.out N0))) hg (Kd.R_ne HO_4.out BK340.out (by decide))); replace BK341 := Aside0.mk (blk_grown (g := gb341) (o := .cells #[.int .i64 x342000_1, .slice none 0 0, .int .i64 x342002_1] 24 (0, 0)) (BM BK341.out (N1 NB341_357.out (N1 NB341_356.out N0))) hg (Kd.R_ne HO_4.out BK341.out (by decide))); replace HO345 := Aside0.mk (Kd.V_afterv (ok := (fun k_ => (P0_1_ k_ ∨ w.heap.size ≤ k_) ∧ k_ ≠ gb340 ∧ k_ ≠ gb341 ∧ k_ ≠ gb356 ∧ k_ ≠ gb357)) (Kd.V_mono (Kd.V_ms (gs := [gb357, gb356]) (Kd.V_mono (Kd.V_mono HO345.out (fun k_ hk => (⟨hk, hk.1.2⟩ : _ ∧ k_ ≠ gb356))) (fun k_ hk => (⟨hk, hk.1.2⟩ : _ ∧ k_ ≠ gb357))) (fun _ hk => N1 (hk.2) (N1 (hk.1.2) (N0)))) (fun _ hk => ⟨⟨hk.1.1.1.1.1, ⟨hk.1.1.1.1.2.2.1, ⟨hk.1.1.1.1.2.2.2, ⟨hk.1.1.1.2, hk.1.1.2⟩⟩⟩⟩, hk.1.1.1.1.2.1⟩)) hg hat); replace BK356 := Aside0.mk (blk_grown (g := gb356) (o := .cells #[.int .i64 t342, .slice Ao17 t343.length co17, .int .i64 t346] 24 (0, 0)) (by (with_reducible repeat (first | refine blk_drewN ?_ _ | refine blk_drew ?_ | refine blk_alloc ?_ _)); refine blk_far ?_ NB356_357.out _; (with_reducible repeat (first | refine blk_drewN ?_ _ | refine blk_drew ?_ | refine blk_alloc ?_ _)); refine blk_far ?_ NB356_357.out _; (with_reducible repeat (first | refine blk_drewN ?_ _ | refine blk_drew ?_ | refine blk_alloc ?_ _)); refine blk_far ?_ NB356_357.out _; (with_reducible repeat (first | refine blk_drewN ?_ _ | refine blk_drew ?_ | refine blk_alloc ?_ _)); refine blk_far ?_ NB356_357.out _; (with_reducible repeat (first | refine blk_drewN ?_ _ | refine blk_drew ?_ | refine blk_alloc ?_ _)); refine blk_far ?_ NB356_357.out _; (with_reducible repeat (first | refine blk_drewN ?_ _ | refine blk_drew ?_ | refine blk_alloc ?_ _)); refine blk_far ?_ NB356_357.out _; (with_reducible repeat (first | refine blk_drewN ?_ _ | refine blk_drew ?_ | refine blk_alloc ?_ _)); refine blk_far ?_ NB356_357.out _; (with_reducible repeat (first | refine blk_drewN ?_ _ | refine blk_drew ?_ | refine blk_alloc ?_ _)); refine blk_far ?_ NB356_357.out _; exact BP BK356.out (by rfl)) hg (Kd.R_ne HO_4.out BK356.out (by decide))); replace HB := Aside0.mk (hb); have HO360 := Aside0.mk (ho); clear BK357 HO_4; (try clear HO_341001); clear ho hb hg hat; obtain ⟨hcz22_0, hcz22_1, hcz22_2, hfz22_0, hfz22_1, hfz22_2⟩ := cz3 BK356.out; obtain ⟨hcz23_0, hcz23_1, hcz23_2, hfz23_0, hfz23_1, hfz23_2⟩ := cz3 BK340.out))
        go_roundg k1
        case measure => have := HK1.out; omega
        case rel => exact ⟨(y358), (t342), (t343), (t346), (x342000_1), (x342002_1), (.slice Ao17 t343.length co17), H', ⟨by have := HK1.out; omega⟩, ⟨by (with_reducible repeat (first | apply Kd.R_alloc | apply Kd.R_drewN | apply Kd.R_drew)); exact Kd.R_mono (Kd.R_mv (g := gb340) (Kd.R_types HO360.out BK340.out (by decide)) (fun _ hk => hk.2)) (fun _ hk => hk.1.1)⟩, ⟨by (with_reducible repeat (first | apply Kd.V_alloc | apply Kd.V_drewN | apply Kd.V_drew)); exact Kd.V_mono (Kd.V_mv (g := gb340) (Kd.V_mono HO345.out (fun k_ hk => (⟨hk, hk.1.2.1⟩ : _ ∧ k_ ≠ gb340))) (fun _ hk => hk.2)) (fun _ hk => ⟨hk.1.1.1, ⟨hk.1.2, ⟨hk.1.1.2.1, hk.1.1.2.2.1⟩⟩⟩)⟩, ⟨by exact BP BK340.out (by rfl)⟩, ⟨by exact BF BK341.out NB341_340.out⟩, ⟨LG HB.out (G1 GE340.out (G1 GE341.out (G1 GE356.out (G1 GE357.out G0))))⟩⟩
      · rw [if_neg c5] at H
        have c5b0 : (t355 == 0) = false := beq_eq_false_iff_ne.mpr c5
        have c5b1 : (t355 != 0) = true := bne_iff_ne.mpr c5
        simp only [Option.some.injEq, Prod.mk.injEq] at H
        obtain ⟨rfl, rfl, rfl, rfl⟩ := H
        have hnb24 := NB340_341.out
        have hnc24 := NB341_340.out
        have hcz25_0 : wr.cell? ⟨gb340, 0, none⟩ = some (.int .i64 x341000_1) := (blk_cell BK340.out 0).trans rfl
        have hcz25_1 : wr.cell? ⟨gb340, 1, none⟩ = some (u341001) := (blk_cell BK340.out 1).trans rfl
        have hcz25_2 : wr.cell? ⟨gb340, 2, none⟩ = some (.int .i64 x341002_1) := (blk_cell BK340.out 2).trans rfl
        have hfz25_0 := blk_frozen BK340.out 0
        have hfz25_1 := blk_frozen BK340.out 1
        have hfz25_2 := blk_frozen BK340.out 2
        obtain ⟨Ao26, co26, eo26⟩ := Kd.V_slice HO_341001.out
        subst eo26
        go_wp2_with (first | ((with_reducible refine gate_callee (f := 14) rfl ?_); refine goesL_ (some 10) rfl rfl Try.func14 (by kernel_rfl) rfl #[.agg #[.int .i64 x341000_1, .slice Ao26 x341001_1.length co26, .int .i64 x341002_1]] rfl (by (try simp only [List.map_toArray, List.map_cons, List.map_nil]); first | done | rfl | (simp only [List.length_drop, List.length_take]; rfl)) ?_; (with_reducible refine (hopperref14_Read.calls x341000_1 (fun k_ => ((P0_1_ k_ ∨ w.heap.size ≤ k_) ∧ (some k_ ≠ (u4 : Value).ownBlock ∧ (k_ ≠ gb340 ∧ k_ ≠ gb341)))) _ _ x341001_1 x341002_1 t342 t343 t346 t347 t348 t349 t350 t351 t352 t353 t354 t355 _ ?side1 A4.out).mono ?_); (case side1 => exact HO_341001.out); rintro e w27 ⟨v344, rfl, ho0, hb⟩; refine ⟨_, rfl, ?_⟩; replace HO_341001 := Aside0.mk (Kd.V_below (Kd.VA HO_341001.out) hb); have HO345 := Aside0.mk (Kd.V_lower (Kd.V_mono (ok' := fun k_ => (P0_1_ k_ ∨ w.heap.size ≤ k_) ∧ some k_ ≠ (u4 : Value).ownBlock ∧ k_ ≠ gb340 ∧ k_ ≠ gb341) ho0 (fun k_ hk_ => ⟨Or.elim hk_ (fun hs_ => hs_.1) (fun hn_ => (.inr (Nat.le_trans (below_size (LA HB.out)) hn_))), Or.elim hk_ (fun hs_ => hs_.2.1) (fun hn_ => (Kd.fresh' (Kd.R_lt (Kd.RA HO_4.out)) k_ hn_)), Or.elim hk_ (fun hs_ => hs_.2.2.1) (fun hn_ => (Kd.freshB (g := gb340) (o := .cells #[.int .i64 x341000_1, .slice Ao26 x341001_1.length co26, .int .i64 x341002_1] 24 (0, 0)) (BA BK340.out) k_ hn_)), Or.elim hk_ (fun hs_ => hs_.2.2.2) (fun hn_ => (Kd.freshB (g := gb341) (o := .cells #[.int .i64 x342000_1, .slice none 0 0, .int .i64 x342002_1] 24 (0, 0)) (BA BK341.out) k_ hn_))⟩)) (below_size (LA HB.out))); replace HO_4 := Aside0.mk (Kd.R_below (Kd.RA HO_4.out) hb); replace BK340 := Aside0.mk (blk_below (BA BK340.out) hb); replace BK341 := Aside0.mk (blk_below (BA BK341.out) hb); replace HB := Aside0.mk (below_step (LA HB.out) hb); (try clear hb); (try clear hb2); (try clear hk); (try clear hi); (try clear ho0)) | ((with_reducible refine gate_dst (N := 5) rfl ?_); refine box_event ?hg (N := 5) ?hd (cs := #[.int .i64 0, .slice none 0 0, .int .i64 0]) (t := 24) ?hr ?_; (case hd => rfl); (case hg => rfl); (case hr => first | (go_simp; done) | (go_simp; rfl)); intro gb356 hg w28 hbox hb; replace HO_4 := Aside0.mk (Kd.R_below (Kd.RA HO_4.out) hb); replace HO_341001 := Aside0.mk (Kd.V_below (Kd.V_elderB (Kd.VA HO_341001.out) gb356 (Nat.le_of_eq hg.symm)) hb); replace HO345 := Aside0.mk (Kd.V_below (Kd.V_elderB (Kd.VA HO345.out) gb356 (Nat.le_of_eq hg.symm)) hb); have BK356 := Aside0.mk (hbox); have GE356 := Aside0.mk (ge1 hg (LA HB.out)); replace HB := Aside0.mk (below_step (LA HB.out) hb); have NB340_356 := Aside0.mk ((by rw [hg]; exact Nat.ne_of_lt (blk_lt (g := gb340) (o := .cells #[.int .i64 x341000_1, .slice Ao26 x341001_1.length co26, .int .i64 x341002_1] 24 (0, 0)) (BA BK340.out)) : gb340 ≠ gb356)); have NB356_340 := Aside0.mk ((by rw [hg]; exact Nat.ne_of_gt (blk_lt (g := gb340) (o := .cells #[.int .i64 x341000_1, .slice Ao26 x341001_1.length co26, .int .i64 x341002_1] 24 (0, 0)) (BA BK340.out)) : gb356 ≠ gb340)); replace BK340 := Aside0.mk (blk_below (BA BK340.out) hb); have NB341_356 := Aside0.mk ((by rw [hg]; exact Nat.ne_of_lt (blk_lt (g := gb341) (o := .cells #[.int .i64 x342000_1, .slice none 0 0, .int .i64 x342002_1] 24 (0, 0)) (BA BK341.out)) : gb341 ≠ gb356)); have NB356_341 := Aside0.mk ((by rw [hg]; exact Nat.ne_of_gt (blk_lt (g := gb341) (o := .cells #[.int .i64 x342000_1, .slice none 0 0, .int .i64 x342002_1] 24 (0, 0)) (BA BK341.out)) : gb356 ≠ gb341)); replace BK341 := Aside0.mk (blk_below (BA BK341.out) hb); clear hb hbox hg) | ((with_reducible refine gate_dst (N := 6) rfl ?_); refine box_event ?hg (N := 6) ?hd (cs := #[.int .i64 0, .int .i64 0, .int .i64 0, .int .i64 0, .int .i64 0, .int .i64 0, .string (⟨#[]⟩ : ByteArray), .int .i64 0]) (t := 36) ?hr ?_; (case hd => rfl); (case hg => rfl); (case hr => first | (go_simp; done) | (go_simp; rfl)); intro gb357 hg w29 hbox hb; replace HO_4 := Aside0.mk (Kd.R_below (Kd.R_elderB (Kd.RA HO_4.out) gb357 (Nat.le_of_eq hg.symm)) hb); replace HO_341001 := Aside0.mk (Kd.V_below (Kd.V_elderB (Kd.VA HO_341001.out) gb357 (Nat.le_of_eq hg.symm)) hb); replace HO345 := Aside0.mk (Kd.V_below (Kd.V_elderB (Kd.VA HO345.out) gb357 (Nat.le_of_eq hg.symm)) hb); have BK357 := Aside0.mk (hbox); have GE357 := Aside0.mk (ge1 hg (LA HB.out)); replace HB := Aside0.mk (below_step (LA HB.out) hb); have NB340_357 := Aside0.mk ((by rw [hg]; exact Nat.ne_of_lt (blk_lt (g := gb340) (o := .cells #[.int .i64 x341000_1, .slice Ao26 x341001_1.length co26, .int .i64 x341002_1] 24 (0, 0)) (BA BK340.out)) : gb340 ≠ gb357)); have NB357_340 := Aside0.mk ((by rw [hg]; exact Nat.ne_of_gt (blk_lt (g := gb340) (o := .cells #[.int .i64 x341000_1, .slice Ao26 x341001_1.length co26, .int .i64 x341002_1] 24 (0, 0)) (BA BK340.out)) : gb357 ≠ gb340)); replace BK340 := Aside0.mk (blk_below (BA BK340.out) hb); have NB341_357 := Aside0.mk ((by rw [hg]; exact Nat.ne_of_lt (blk_lt (g := gb341) (o := .cells #[.int .i64 x342000_1, .slice none 0 0, .int .i64 x342002_1] 24 (0, 0)) (BA BK341.out)) : gb341 ≠ gb357)); have NB357_341 := Aside0.mk ((by rw [hg]; exact Nat.ne_of_gt (blk_lt (g := gb341) (o := .cells #[.int .i64 x342000_1, .slice none 0 0, .int .i64 x342002_1] 24 (0, 0)) (BA BK341.out)) : gb357 ≠ gb341)); replace BK341 := Aside0.mk (blk_below (BA BK341.out) hb); have NB356_357 := Aside0.mk ((by rw [hg]; exact Nat.ne_of_lt (blk_lt (g := gb356) (o := .cells #[.int .i64 0, .slice none 0 0, .int .i64 0] 24 (0, 0)) (BA BK356.out)) : gb356 ≠ gb357)); have NB357_356 := Aside0.mk ((by rw [hg]; exact Nat.ne_of_gt (blk_lt (g := gb356) (o := .cells #[.int .i64 0, .slice none 0 0, .int .i64 0] 24 (0, 0)) (BA BK356.out)) : gb357 ≠ gb356)); replace BK356 := Aside0.mk (blk_below (BA BK356.out) hb); clear hb hbox hg; have hnb30 := NB356_340.out; have hnc30 := NB340_356.out; have hnb31 := NB356_341.out; have hnc31 := NB341_356.out; have hnb32 := NB356_357.out; have hnc32 := NB357_356.out; obtain ⟨hcz33_0, hcz33_1, hcz33_2, hfz33_0, hfz33_1, hfz33_2⟩ := cz3 BK356.out; obtain ⟨Ao34, co34, eo34⟩ := Kd.V_slice HO345.out; subst eo34; have hnb35 := NB357_340.out; have hnc35 := NB340_357.out; have hnb36 := NB357_341.out; have hnc36 := NB341_357.out; obtain ⟨hcz37_0, hcz37_1, hcz37_2, hcz37_3, hcz37_4, hcz37_5, hcz37_6, hcz37_7, hfz37_0, hfz37_1, hfz37_2, hfz37_3, hfz37_4, hfz37_5, hfz37_6, hfz37_7⟩ := cz8 BK357.out; obtain ⟨hcz38_0, hcz38_1, hcz38_2, hfz38_0, hfz38_1, hfz38_2⟩ := cz3 BK340.out; obtain ⟨hcz39_0, hcz39_1, hcz39_2, hfz39_0, hfz39_1, hfz39_2⟩ := cz3 BK341.out))
        refine bodyPost_ret (results_ct rfl _ _ gb341 24 #[.int .i64 x341000_1, .slice Ao26 x341001_1.length co26, .int .i64 x341002_1] (0, 0) _ rfl (by (with_reducible repeat (first | refine blk_drewN ?_ _ | refine blk_drew ?_ | refine blk_alloc ?_ _)); refine blk_put (cs := #[.int .i64 x341000_1, .slice Ao26 x341001_1.length co26, .int .i64 x342002_1]) ?_ 2 _ rfl; (with_reducible repeat (first | refine blk_drewN ?_ _ | refine blk_drew ?_ | refine blk_alloc ?_ _)); refine blk_put (cs := #[.int .i64 x341000_1, .slice none 0 0, .int .i64 x342002_1]) ?_ 1 _ rfl; (with_reducible repeat (first | refine blk_drewN ?_ _ | refine blk_drew ?_ | refine blk_alloc ?_ _)); refine blk_put (cs := #[.int .i64 x342000_1, .slice none 0 0, .int .i64 x342002_1]) ?_ 0 _ rfl; exact BM BK341.out (N1 NB341_357.out (N1 NB341_356.out N0))) Try.underlying24 rfl (by kernel_rfl)) rfl ?_
        exact ⟨_, _, by first | rfl | (simp [errW_none, errW_some] <;> rfl) | (simp [*, errW_none, errW_some] <;> rfl), by (with_reducible repeat (first | apply Kd.V_alloc | apply Kd.V_drewN | apply Kd.V_drew)); exact Kd.V_mono (Kd.V_ms (gs := [gb341, gb357, gb356]) (Kd.V_mono (Kd.V_mono (Kd.V_mono HO_341001.out (fun k_ hk => (⟨hk, hk.1.2⟩ : _ ∧ k_ ≠ gb356))) (fun k_ hk => (⟨hk, hk.1.2⟩ : _ ∧ k_ ≠ gb357))) (fun k_ hk => (⟨hk, hk.1.1.1.1.2.2.2⟩ : _ ∧ k_ ≠ gb341))) (fun _ hk => N1 (hk.2) (N1 (hk.1.2) (N1 (hk.1.1.2) (N0))))) (fun _ hk => ⟨hk.1.1.1.1.1.1, hk.1.1.1.1.1.2.1⟩), by (with_reducible repeat (first | apply Kd.R_alloc | apply Kd.R_drewN | apply Kd.R_drew)); exact Kd.R_mono (Kd.R_ms (gs := [gb341, gb357, gb356]) (Kd.R_types (Kd.R_mono (Kd.R_types HO_4.out BK356.out (by decide)) (fun k_ hk => (⟨hk, hk.1.2⟩ : _ ∧ k_ ≠ gb357))) BK341.out (by decide)) (fun _ hk => N1 (hk.2) (N1 (hk.1.2) (N1 (hk.1.1.2) (N0))))) (fun _ hk => hk.1.1.1.1), LG HB.out (G1 GE340.out (G1 GE341.out (G1 GE356.out (G1 GE357.out G0))))⟩

/-! ### hopperref13_Events: function 18 -/
def hopperref13_Events.l0 : Nat → List (S36) → List (S36) → Int → Option (Bool)
  | 0, _, _, _ => none
  | k + 1, x0, x1, x5 => if x5 < (x0.length : Int) then (if 0 ≤ x5 then (if x5 < (x1.length : Int) then (if (!(((rd_T36 x0 x5).f0) == ((rd_T36 x1 x5).f0)) || ((!(((rd_T36 x0 x5).f1.f0) == ((rd_T36 x1 x5).f1.f0)) || (!(((rd_T36 x0 x5).f1.f1) == ((rd_T36 x1 x5).f1.f1)) || (!(((rd_T36 x0 x5).f1.f2) == ((rd_T36 x1 x5).f1.f2)) || (!(((rd_T36 x0 x5).f1.f3) == ((rd_T36 x1 x5).f1.f3)) || (!(((rd_T36 x0 x5).f1.f4) == ((rd_T36 x1 x5).f1.f4)) || (!((((rd_T36 x0 x5).f1.f5).toList) == (((rd_T36 x1 x5).f1.f5).toList)))))))) || (!(((rd_T36 x0 x5).f2) == ((rd_T36 x1 x5).f2))))) = true then (some false) else (hopperref13_Events.l0 k x0 x1 (wrap64 (x5 + 1)))) else (none)) else (none)) else (some true)
def hopperref13_Events.f (k : Nat) (l0 : List (S36)) (l1 : List (S36)) : Option (Bool) := if (l0.length : Int) = (l1.length : Int) then (hopperref13_Events.l0 k l0 l1 0) else (some false)
theorem hopperref13_Events.mono_l : ∀ k, (∀ y0 y1 y2, LeO (hopperref13_Events.l0 k y0 y1 y2) (hopperref13_Events.l0 (k + 1) y0 y1 y2))
  | 0 => fun _ _ _ r h => by simp [hopperref13_Events.l0] at h
  | k + 1 => by
    have ih0 := hopperref13_Events.mono_l k
    · intro y0 y1 y2
      unfold hopperref13_Events.l0
      repeat' first
      | (with_reducible exact ih0 _ _ _)
      | (with_reducible exact LeO.refl _)
      | (with_reducible exact LeO.none _)
      | (with_reducible refine LeO.ite ?_ ?_)
      | (with_reducible refine LeO.bind ?_ (fun _ => ?_))
      | exact ih0 _ _ _
      | exact LeO.none _
      | refine LeO.ite ?_ ?_
      | refine LeO.bind ?_ (fun _ => ?_)
theorem hopperref13_Events.mono : ∀ a0 a1 k, LeO (hopperref13_Events.f k a0 a1) (hopperref13_Events.f (k + 1) a0 a1) := by
  intro a0 a1 k
  have ih0 := hopperref13_Events.mono_l k
  unfold hopperref13_Events.f
  repeat' first
      | (with_reducible exact ih0 _ _ _)
      | (with_reducible exact LeO.refl _)
      | (with_reducible exact LeO.none _)
      | (with_reducible refine LeO.ite ?_ ?_)
      | (with_reducible refine LeO.bind ?_ (fun _ => ?_))
      | exact ih0 _ _ _
      | exact LeO.none _
      | refine LeO.ite ?_ ?_
      | refine LeO.bind ?_ (fun _ => ?_)
set_option maxHeartbeats 8000000 in
set_option maxRecDepth 100000 in
theorem hopperref13_Events.calls (k : Nat) (A0 : Option Addr) (c0 : Nat) (l0 : List (S36)) (A1 : Option Addr) (c1 : Nat) (l1 : List (S36)) (r : Bool) (w : World) (hr0 : Kd.C k36 w A0 l0.length l0) (hc0 : l0.length ≤ c0) (hr1 : Kd.C k36 w A1 l1.length l1) (hc1 : l1.length ≤ c1) (h : hopperref13_Events.f k l0 l1 = some r) :
    Calls Try.prog 18 #[.slice A0 l0.length c0, .slice A1 l1.length c1] w fun e w' => e = .returned (.bool r) ∧ Drawn0 w w' := by
  have hu36 := Try.underlying36
  have HR0 := Aside0.mk hr0
  have HC0 := Aside0.mk hc0
  clear hr0 hc0
  have HR1 := Aside0.mk hr1
  have HC1 := Aside0.mk hc1
  clear hr1 hc1
  have H : (if (l0.length : Int) = (l1.length : Int) then (hopperref13_Events.l0 k l0 l1 0) else (some false)) = some r := h
  clear h
  by_cases c3 : (l0.length : Int) = (l1.length : Int)
  · rw [if_pos c3] at H
    have c3b0 : ((l0.length : Int) == (l1.length : Int)) = true := beq_iff_eq.mpr c3
    have c3b1 : ((l0.length : Int) != (l1.length : Int)) = false := bne_eq_false_iff_eq.mpr c3
    have c3b2 : (l0.length == l1.length) = true := by first | simpa using c3 | (simp at c3 ⊢; omega)
    clear c3
    have H' := Aside0.mk H
    clear H
    go_enter Try.func18, Try.ntmps18
    go_wp2
    repeat (go_quiet (fail); try go_wp2)
    go_loopg [5] k (fun kq v5 w' => ∃ (x5_1 : Int), v5 = .int .i64 x5_1 ∧ Aside0 (hopperref13_Events.l0 kq l0 l1 x5_1 = some r) ∧ Aside0 (kq ≤ k) ∧ Drawn0 w w')
    case atStart => exact ⟨(0), (by first | rfl | (simp; done) | (simp [*]; done)), H', ⟨Nat.le_refl _⟩, by repeat (first | exact Drawn0.refl _ | apply Drawn0.step)⟩
    case round =>
      clear H'
      try clear c1
      try clear p2
      try clear c3
      try clear c3b0
      try clear c3b1
      try clear c3b2
      obtain ⟨x5_1, rfl, HA, HK1, ⟨m1, rfl⟩⟩ := hrel
      cases gk with
      | zero => exact absurd HA.out (by simp [hopperref13_Events.l0])
      | succ k1 =>
        have H := HA.out
        clear HA
        simp only [hopperref13_Events.l0] at H
        by_cases c4 : x5_1 < (l0.length : Int)
        rotate_left
        · rw [if_neg c4] at H
          have c4b0 : decide (x5_1 < (l0.length : Int)) = false := decide_eq_false c4
          clear c4
          obtain rfl := Option.some.inj H
          go_wp2
          repeat (go_quiet (fail); try go_wp2)
          go_ret
          exact ⟨by first | rfl | (simp; done) | (simp [*]; done), by repeat (first | exact Drawn0.refl _ | apply Drawn0.step)⟩
        rw [if_pos c4] at H
        have c4b0 : decide (x5_1 < (l0.length : Int)) = true := decide_eq_true c4
        clear c4
        by_cases c5 : 0 ≤ x5_1
        rotate_left
        · rw [if_neg c5] at H
          exact absurd H (by simp)
        rw [if_pos c5] at H
        have c5b0 : decide (0 ≤ x5_1) = true := decide_eq_true c5
        clear c5
        by_cases c6 : x5_1 < (l1.length : Int)
        rotate_left
        · rw [if_neg c6] at H
          exact absurd H (by simp)
        rw [if_pos c6] at H
        have c6b0 : decide (x5_1 < (l1.length : Int)) = true := decide_eq_true c6
        clear c6
        by_cases c7 : (!(((rd_T36 l0 x5_1).f0) == ((rd_T36 l1 x5_1).f0)) || ((!(((rd_T36 l0 x5_1).f1.f0) == ((rd_T36 l1 x5_1).f1.f0)) || (!(((rd_T36 l0 x5_1).f1.f1) == ((rd_T36 l1 x5_1).f1.f1)) || (!(((rd_T36 l0 x5_1).f1.f2) == ((rd_T36 l1 x5_1).f1.f2)) || (!(((rd_T36 l0 x5_1).f1.f3) == ((rd_T36 l1 x5_1).f1.f3)) || (!(((rd_T36 l0 x5_1).f1.f4) == ((rd_T36 l1 x5_1).f1.f4)) || (!((((rd_T36 l0 x5_1).f1.f5).toList) == (((rd_T36 l1 x5_1).f1.f5).toList)))))))) || (!(((rd_T36 l0 x5_1).f2) == ((rd_T36 l1 x5_1).f2))))) = true
        · rw [if_pos c7] at H
          have c7b0 : (!(((rd_T36 l0 x5_1).f0) == ((rd_T36 l1 x5_1).f0)) || ((!(((rd_T36 l0 x5_1).f1.f0) == ((rd_T36 l1 x5_1).f1.f0)) || (!(((rd_T36 l0 x5_1).f1.f1) == ((rd_T36 l1 x5_1).f1.f1)) || (!(((rd_T36 l0 x5_1).f1.f2) == ((rd_T36 l1 x5_1).f1.f2)) || (!(((rd_T36 l0 x5_1).f1.f3) == ((rd_T36 l1 x5_1).f1.f3)) || (!(((rd_T36 l0 x5_1).f1.f4) == ((rd_T36 l1 x5_1).f1.f4)) || (!((((rd_T36 l0 x5_1).f1.f5).toList) == (((rd_T36 l1 x5_1).f1.f5).toList)))))))) || (!(((rd_T36 l0 x5_1).f2) == ((rd_T36 l1 x5_1).f2))))) = true := c7
          clear c7
          obtain rfl := Option.some.inj H
          have p361 : 0 ≤ (x5_1 : Int) := of_decide_eq_true (by first | (with_reducible assumption) | assumption)
          have q361 : x5_1 < (l0.length : Int) := of_decide_eq_true (by first | (with_reducible assumption) | assumption)
          obtain ⟨ad361, e361, hx361_0, hx361_1, hx361_2, hx361_3, hx361_4, hx361_5, hx361_6, hx361_7⟩ := at_T36 HR0.out x5_1 p361 q361
          cases e361
          replace p361 := eq_true p361
          replace q361 := eq_true q361
          have p362 : 0 ≤ (x5_1 : Int) := of_decide_eq_true (by first | (with_reducible assumption) | assumption)
          have q362 : x5_1 < (l1.length : Int) := of_decide_eq_true (by first | (with_reducible assumption) | assumption)
          obtain ⟨ad362, e362, hx362_0, hx362_1, hx362_2, hx362_3, hx362_4, hx362_5, hx362_6, hx362_7⟩ := at_T36 HR1.out x5_1 p362 q362
          cases e362
          replace p362 := eq_true p362
          replace q362 := eq_true q362
          go_wp2
          repeat (go_quiet (fail); try go_wp2)
          go_ret
          exact ⟨by first | rfl | (simp; done) | (simp [*]; done), by repeat (first | exact Drawn0.refl _ | apply Drawn0.step)⟩
        · rw [if_neg c7] at H
          have c7b0 : (!(((rd_T36 l0 x5_1).f0) == ((rd_T36 l1 x5_1).f0)) || ((!(((rd_T36 l0 x5_1).f1.f0) == ((rd_T36 l1 x5_1).f1.f0)) || (!(((rd_T36 l0 x5_1).f1.f1) == ((rd_T36 l1 x5_1).f1.f1)) || (!(((rd_T36 l0 x5_1).f1.f2) == ((rd_T36 l1 x5_1).f1.f2)) || (!(((rd_T36 l0 x5_1).f1.f3) == ((rd_T36 l1 x5_1).f1.f3)) || (!(((rd_T36 l0 x5_1).f1.f4) == ((rd_T36 l1 x5_1).f1.f4)) || (!((((rd_T36 l0 x5_1).f1.f5).toList) == (((rd_T36 l1 x5_1).f1.f5).toList)))))))) || (!(((rd_T36 l0 x5_1).f2) == ((rd_T36 l1 x5_1).f2))))) = false := by simpa using c7
          clear c7
          have H' := Aside0.mk H
          clear H
          have p361 : 0 ≤ (x5_1 : Int) := of_decide_eq_true (by first | (with_reducible assumption) | assumption)
          have q361 : x5_1 < (l0.length : Int) := of_decide_eq_true (by first | (with_reducible assumption) | assumption)
          obtain ⟨ad361, e361, hx361_0, hx361_1, hx361_2, hx361_3, hx361_4, hx361_5, hx361_6, hx361_7⟩ := at_T36 HR0.out x5_1 p361 q361
          cases e361
          replace p361 := eq_true p361
          replace q361 := eq_true q361
          have p362 : 0 ≤ (x5_1 : Int) := of_decide_eq_true (by first | (with_reducible assumption) | assumption)
          have q362 : x5_1 < (l1.length : Int) := of_decide_eq_true (by first | (with_reducible assumption) | assumption)
          obtain ⟨ad362, e362, hx362_0, hx362_1, hx362_2, hx362_3, hx362_4, hx362_5, hx362_6, hx362_7⟩ := at_T36 HR1.out x5_1 p362 q362
          cases e362
          replace p362 := eq_true p362
          replace q362 := eq_true q362
          go_wp2
          repeat (go_quiet (fail); try go_wp2)
          go_roundg k1
          case measure => have := HK1.out; omega
          case rel => exact ⟨(wrap64 (x5_1 + 1)), (by first | rfl | (simp; done) | (simp [*]; done)), H', ⟨by have := HK1.out; omega⟩, by repeat (first | exact Drawn0.refl _ | apply Drawn0.step)⟩
  · rw [if_neg c3] at H
    have c3b0 : ((l0.length : Int) == (l1.length : Int)) = false := beq_eq_false_iff_ne.mpr c3
    have c3b1 : ((l0.length : Int) != (l1.length : Int)) = true := bne_iff_ne.mpr c3
    have c3b2 : (l0.length == l1.length) = false := by first | simpa using c3 | (simp at c3 ⊢; omega)
    obtain rfl := Option.some.inj H
    go_enter Try.func18, Try.ntmps18
    go_wp2
    repeat (go_quiet (fail); try go_wp2)
    go_ret
    exact ⟨by first | rfl | (simp; done) | (simp [*]; done), by repeat (first | exact Drawn0.refl _ | apply Drawn0.step)⟩

/-! ### hopperref14_Same: function 17 -/
def hopperref14_Same.f (k : Nat) (a0_0 : Int) (l0_1 : List (S36)) (a0_2 : Int) (a1_0 : Int) (l1_1 : List (S36)) (a1_2 : Int) : Option (Bool) := if a0_0 = a1_0 then (if a0_2 = a1_2 then ((hopperref13_Events.f k l0_1 l1_1).bind fun t365 => (some t365)) else (some false)) else (some false)
theorem hopperref14_Same.mono : ∀ a0 a1 a2 a3 a4 a5 k, LeO (hopperref14_Same.f k a0 a1 a2 a3 a4 a5) (hopperref14_Same.f (k + 1) a0 a1 a2 a3 a4 a5) := by
  intro a0 a1 a2 a3 a4 a5 k
  unfold hopperref14_Same.f
  repeat' first
      | (with_reducible exact hopperref13_Events.mono _ _ _)
      | (with_reducible exact LeO.refl _)
      | (with_reducible exact LeO.none _)
      | (with_reducible refine LeO.ite ?_ ?_)
      | (with_reducible refine LeO.bind ?_ (fun _ => ?_))
      | exact hopperref13_Events.mono _ _ _
      | exact LeO.none _
      | refine LeO.ite ?_ ?_
      | refine LeO.bind ?_ (fun _ => ?_)
set_option maxHeartbeats 8000000 in
set_option maxRecDepth 100000 in
theorem hopperref14_Same.calls (k : Nat) (a0_0 : Int) (A0_1 : Option Addr) (c0_1 : Nat) (l0_1 : List (S36)) (a0_2 : Int) (a1_0 : Int) (A1_1 : Option Addr) (c1_1 : Nat) (l1_1 : List (S36)) (a1_2 : Int) (r : Bool) (w : World) (hr0_1 : Kd.C k36 w A0_1 l0_1.length l0_1) (hc0_1 : l0_1.length ≤ c0_1) (hr1_1 : Kd.C k36 w A1_1 l1_1.length l1_1) (hc1_1 : l1_1.length ≤ c1_1) (h : hopperref14_Same.f k a0_0 l0_1 a0_2 a1_0 l1_1 a1_2 = some r) :
    Calls Try.prog 17 #[.agg #[.int .i64 a0_0, .slice A0_1 l0_1.length c0_1, .int .i64 a0_2], .agg #[.int .i64 a1_0, .slice A1_1 l1_1.length c1_1, .int .i64 a1_2]] w fun e w' => e = .returned (.bool r) ∧ Below w.heap.size w w' := by
  have hu24 := Try.underlying24
  have HR0_1 := Aside0.mk hr0_1
  have HC0_1 := Aside0.mk hc0_1
  clear hr0_1 hc0_1
  have HR1_1 := Aside0.mk hr1_1
  have HC1_1 := Aside0.mk hc1_1
  clear hr1_1 hc1_1
  have HB := Aside0.mk (Below.refl w.heap.size w)
  have H : (if a0_0 = a1_0 then (if a0_2 = a1_2 then ((hopperref13_Events.f k l0_1 l1_1).bind fun t365 => (some t365)) else (some false)) else (some false)) = some r := h
  clear h
  by_cases c3 : a0_0 = a1_0
  rotate_left
  · rw [if_neg c3] at H
    have c3b0 : (a0_0 == a1_0) = false := beq_eq_false_iff_ne.mpr c3
    have c3b1 : (a0_0 != a1_0) = true := bne_iff_ne.mpr c3
    obtain rfl := Option.some.inj H
    go_enter Try.func17, Try.ntmps17
    go_wp2_with (first | ((with_reducible refine gate_dst (N := 2) rfl ?_); refine box_event ?hg (N := 2) ?hd (cs := #[.int .i64 a0_0, .slice A0_1 l0_1.length c0_1, .int .i64 a0_2]) (t := 24) ?hr ?_; (case hd => rfl); (case hg => rfl); (case hr => first | (go_simp; done) | (go_simp; rfl)); intro gb363 hg w16 hbox hb; have BK363 := Aside0.mk (hbox); have GE363 := Aside0.mk (ge1 hg (LA HB.out)); replace HB := Aside0.mk (below_step (LA HB.out) hb); clear hb hbox hg) | ((with_reducible refine gate_dst (N := 3) rfl ?_); refine box_event ?hg (N := 3) ?hd (cs := #[.int .i64 a1_0, .slice A1_1 l1_1.length c1_1, .int .i64 a1_2]) (t := 24) ?hr ?_; (case hd => rfl); (case hg => rfl); (case hr => first | (go_simp; done) | (go_simp; rfl)); intro gb364 hg w17 hbox hb; have BK364 := Aside0.mk (hbox); have GE364 := Aside0.mk (ge1 hg (LA HB.out)); replace HB := Aside0.mk (below_step (LA HB.out) hb); have NB363_364 := Aside0.mk ((by rw [hg]; exact Nat.ne_of_lt (blk_lt (g := gb363) (o := .cells #[.int .i64 a0_0, .slice A0_1 l0_1.length c0_1, .int .i64 a0_2] 24 (0, 0)) (BA BK363.out)) : gb363 ≠ gb364)); have NB364_363 := Aside0.mk ((by rw [hg]; exact Nat.ne_of_gt (blk_lt (g := gb363) (o := .cells #[.int .i64 a0_0, .slice A0_1 l0_1.length c0_1, .int .i64 a0_2] 24 (0, 0)) (BA BK363.out)) : gb364 ≠ gb363)); replace BK363 := Aside0.mk (blk_below (BA BK363.out) hb); clear hb hbox hg; have hnb18 := NB363_364.out; have hnc18 := NB364_363.out; obtain ⟨hcz19_0, hcz19_1, hcz19_2, hfz19_0, hfz19_1, hfz19_2⟩ := cz3 BK363.out; obtain ⟨hcz20_0, hcz20_1, hcz20_2, hfz20_0, hfz20_1, hfz20_2⟩ := cz3 BK364.out))
    go_ret
    exact ⟨by first | rfl | (simp [errW_none, errW_some] <;> rfl) | (simp [*, errW_none, errW_some] <;> rfl), LG HB.out (G1 GE363.out (G1 GE364.out G0))⟩
  rw [if_pos c3] at H
  have c3b0 : (a0_0 == a1_0) = true := beq_iff_eq.mpr c3
  have c3b1 : (a0_0 != a1_0) = false := bne_eq_false_iff_eq.mpr c3
  clear c3
  by_cases c4 : a0_2 = a1_2
  rotate_left
  · rw [if_neg c4] at H
    have c4b0 : (a0_2 == a1_2) = false := beq_eq_false_iff_ne.mpr c4
    have c4b1 : (a0_2 != a1_2) = true := bne_iff_ne.mpr c4
    obtain rfl := Option.some.inj H
    go_enter Try.func17, Try.ntmps17
    go_wp2_with (first | ((with_reducible refine gate_dst (N := 2) rfl ?_); refine box_event ?hg (N := 2) ?hd (cs := #[.int .i64 a0_0, .slice A0_1 l0_1.length c0_1, .int .i64 a0_2]) (t := 24) ?hr ?_; (case hd => rfl); (case hg => rfl); (case hr => first | (go_simp; done) | (go_simp; rfl)); intro gb363 hg w11 hbox hb; have BK363 := Aside0.mk (hbox); have GE363 := Aside0.mk (ge1 hg (LA HB.out)); replace HB := Aside0.mk (below_step (LA HB.out) hb); clear hb hbox hg) | ((with_reducible refine gate_dst (N := 3) rfl ?_); refine box_event ?hg (N := 3) ?hd (cs := #[.int .i64 a1_0, .slice A1_1 l1_1.length c1_1, .int .i64 a1_2]) (t := 24) ?hr ?_; (case hd => rfl); (case hg => rfl); (case hr => first | (go_simp; done) | (go_simp; rfl)); intro gb364 hg w12 hbox hb; have BK364 := Aside0.mk (hbox); have GE364 := Aside0.mk (ge1 hg (LA HB.out)); replace HB := Aside0.mk (below_step (LA HB.out) hb); have NB363_364 := Aside0.mk ((by rw [hg]; exact Nat.ne_of_lt (blk_lt (g := gb363) (o := .cells #[.int .i64 a0_0, .slice A0_1 l0_1.length c0_1, .int .i64 a0_2] 24 (0, 0)) (BA BK363.out)) : gb363 ≠ gb364)); have NB364_363 := Aside0.mk ((by rw [hg]; exact Nat.ne_of_gt (blk_lt (g := gb363) (o := .cells #[.int .i64 a0_0, .slice A0_1 l0_1.length c0_1, .int .i64 a0_2] 24 (0, 0)) (BA BK363.out)) : gb364 ≠ gb363)); replace BK363 := Aside0.mk (blk_below (BA BK363.out) hb); clear hb hbox hg; have hnb13 := NB363_364.out; have hnc13 := NB364_363.out; obtain ⟨hcz14_0, hcz14_1, hcz14_2, hfz14_0, hfz14_1, hfz14_2⟩ := cz3 BK363.out; obtain ⟨hcz15_0, hcz15_1, hcz15_2, hfz15_0, hfz15_1, hfz15_2⟩ := cz3 BK364.out))
    go_ret
    exact ⟨by first | rfl | (simp [errW_none, errW_some] <;> rfl) | (simp [*, errW_none, errW_some] <;> rfl), LG HB.out (G1 GE363.out (G1 GE364.out G0))⟩
  rw [if_pos c4] at H
  have c4b0 : (a0_2 == a1_2) = true := beq_iff_eq.mpr c4
  have c4b1 : (a0_2 != a1_2) = false := bne_eq_false_iff_eq.mpr c4
  clear c4
  replace H := Option.bind_eq_some_iff.mp H
  obtain ⟨t365, A50, H⟩ := H
  try dsimp only at H
  have A5 := Aside0.mk A50
  clear A50
  obtain rfl := Option.some.inj H
  go_enter Try.func17, Try.ntmps17
  go_wp2_with (first | ((with_reducible refine gate_dst (N := 2) rfl ?_); refine box_event ?hg (N := 2) ?hd (cs := #[.int .i64 a0_0, .slice A0_1 l0_1.length c0_1, .int .i64 a0_2]) (t := 24) ?hr ?_; (case hd => rfl); (case hg => rfl); (case hr => first | (go_simp; done) | (go_simp; rfl)); intro gb363 hg w6 hbox hb; have BK363 := Aside0.mk (hbox); have GE363 := Aside0.mk (ge1 hg (LA HB.out)); replace HB := Aside0.mk (below_step (LA HB.out) hb); clear hb hbox hg) | ((with_reducible refine gate_dst (N := 3) rfl ?_); refine box_event ?hg (N := 3) ?hd (cs := #[.int .i64 a1_0, .slice A1_1 l1_1.length c1_1, .int .i64 a1_2]) (t := 24) ?hr ?_; (case hd => rfl); (case hg => rfl); (case hr => first | (go_simp; done) | (go_simp; rfl)); intro gb364 hg w7 hbox hb; have BK364 := Aside0.mk (hbox); have GE364 := Aside0.mk (ge1 hg (LA HB.out)); replace HB := Aside0.mk (below_step (LA HB.out) hb); have NB363_364 := Aside0.mk ((by rw [hg]; exact Nat.ne_of_lt (blk_lt (g := gb363) (o := .cells #[.int .i64 a0_0, .slice A0_1 l0_1.length c0_1, .int .i64 a0_2] 24 (0, 0)) (BA BK363.out)) : gb363 ≠ gb364)); have NB364_363 := Aside0.mk ((by rw [hg]; exact Nat.ne_of_gt (blk_lt (g := gb363) (o := .cells #[.int .i64 a0_0, .slice A0_1 l0_1.length c0_1, .int .i64 a0_2] 24 (0, 0)) (BA BK363.out)) : gb364 ≠ gb363)); replace BK363 := Aside0.mk (blk_below (BA BK363.out) hb); clear hb hbox hg; have hnb8 := NB363_364.out; have hnc8 := NB364_363.out; obtain ⟨hcz9_0, hcz9_1, hcz9_2, hfz9_0, hfz9_1, hfz9_2⟩ := cz3 BK363.out; obtain ⟨hcz10_0, hcz10_1, hcz10_2, hfz10_0, hfz10_1, hfz10_2⟩ := cz3 BK364.out) | (go_at_call 18; (with_reducible refine (hopperref13_Events.calls k _ _ l0_1 _ _ l1_1 t365 _ ?side1 ?side2 ?side3 ?side4 A5.out).mono ?_); (case side1 => exact Kd.CA (Kd.C_below HR0_1.out HB.out)); (case side2 => exact HC0_1.out); (case side3 => exact Kd.CA (Kd.C_below HR1_1.out HB.out)); (case side4 => exact HC1_1.out); rintro e w' ⟨rfl, ⟨nd, rfl⟩⟩))
  go_ret
  exact ⟨by first | rfl | (simp [errW_none, errW_some] <;> rfl) | (simp [*, errW_none, errW_some] <;> rfl), LG HB.out (G1 GE363.out (G1 GE364.out G0))⟩

end Go.Proofs.Ythmnedlaecekkaa.PFeedTells
