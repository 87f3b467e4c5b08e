/- What the functions that the law reaches answer, each as a plain Lean function, with a proof that the call in memory comes to that answer. Written by wip/tools/given.py of this session out of the print.py of the kit, with stand-ins for some functions. -/
import Derived.Test.YtacncgpnimdfbaaPPipeThroughx0
import Derived.Test.YtacncgpnimdfbaaChan
import Derived.Lib.SliceRun
namespace Go.Proofs.Ytacncgpnimdfbaa.PPipeThrough
open Go.RowKit Go.Proofs.YtacncgpnimdfbaaW.PrintWords Go.Proofs.YtacncgpnimdfbaaW.PrintLast Go.Proofs.YtacncgpnimdfbaaW.PrintMore
attribute [local go_sem] max2_int min2_int max_two min_two max_three min_three max_four min_four   -- for this text's walks alone
set_option linter.unusedVariables false
set_option linter.unusedSimpArgs false

/-! ### hopperref08_Send: function 11 -/
def hopperref08_Send.f (a0_0 : Int) (a0_1 : Bool) (l0_2 : List (S26)) (a1_0 : Int) (a1_1 : Int) (a1_2 : ByteArray) : Option (Int × Bool × (List (S26)) × Int) := if a0_1 = true then (some (a0_0, a0_1, l0_2, 8)) else (if (l0_2.length : Int) ≥ a0_0 then (some (a0_0, a0_1, l0_2, 6)) else ((some (([] : List (S26)) : List (S26))).bind fun y104 => (if y104.length + l0_2.length < 4398046511104 then ((some (y104 ++ l0_2 : List (S26))).bind fun y107 => (if y107.length < 4398046511104 then (some (a0_0, a0_1, (y107 ++ [(⟨a1_0, a1_1, a1_2⟩ : S26)]), 0)) else (none))) else (none))))
set_option maxHeartbeats 8000000 in
set_option maxRecDepth 100000 in
theorem hopperref08_Send.calls (a0_0 : Int) (a0_1 : Bool) (P0_2_ : Nat → Prop) (A0_2 : Option Addr) (c0_2 : Nat) (l0_2 : List (S26)) (a1_0 : Int) (a1_1 : Int) (a1_2 : ByteArray) (r1 : Int) (r2 : Bool) (r3 : List (S26)) (r4 : Int) (w : World) (hs0_2 : Kd.V k26 26 w w.heap.size (fun k_ => P0_2_ k_) (.slice A0_2 l0_2.length c0_2) l0_2) (h : hopperref08_Send.f a0_0 a0_1 l0_2 a1_0 a1_1 a1_2 = some (r1, r2, r3, r4)) :
    Calls Try.prog 11 #[.agg #[.int .i64 a0_0, .bool a0_1, .slice A0_2 l0_2.length c0_2], .agg #[.int .i64 a1_0, .int .i64 a1_1, .string a1_2]] w fun e w' => ∃ v2_ : Value, e = .returned (.tuple #[.agg #[.int .i64 r1, .bool r2, v2_], .int .i64 r4]) ∧ Kd.V k26 26 w' w.heap.size (fun k_ => (P0_2_ k_ ∨ w.heap.size ≤ k_)) v2_ r3 ∧ Below w.heap.size w w' := by
  have hu24 := Try.underlying24
  have hu26 := Try.underlying26
  have HO0_2 := Aside0.mk (show Kd.V k26 26 w w.heap.size (fun k_ => (P0_2_ k_ ∨ w.heap.size ≤ k_)) (.slice A0_2 l0_2.length c0_2) l0_2 from Kd.V_mono hs0_2 (fun k_ hk => .inl hk))
  have HB := Aside0.mk (Below.refl w.heap.size w)
  have H : (if a0_1 = true then (some (a0_0, a0_1, l0_2, 8)) else (if (l0_2.length : Int) ≥ a0_0 then (some (a0_0, a0_1, l0_2, 6)) else ((some (([] : List (S26)) : List (S26))).bind fun y104 => (if y104.length + l0_2.length < 4398046511104 then ((some (y104 ++ l0_2 : List (S26))).bind fun y107 => (if y107.length < 4398046511104 then (some (a0_0, a0_1, (y107 ++ [(⟨a1_0, a1_1, a1_2⟩ : S26)]), 0)) else (none))) else (none))))) = some (r1, r2, r3, r4) := h
  clear h
  by_cases c3 : a0_1 = true
  · subst c3
    have H1 : (some (a0_0, true, l0_2, 8)) = some (r1, r2, r3, r4) := by rw [if_pos rfl] at H; exact H
    clear H
    have H := H1
    clear H1
    simp only [Option.some.injEq, Prod.mk.injEq] at H
    obtain ⟨rfl, rfl, rfl, rfl⟩ := H
    go_enter Try.func11, Try.ntmps11
    go_wp2_with (first | ((with_reducible refine gate_dst (N := 2) rfl ?_); refine box_event ?hg (N := 2) ?hd (cs := #[.int .i64 a0_0, .bool true, .slice A0_2 l0_2.length c0_2]) (t := 24) ?hr ?_; (case hd => rfl); (case hg => rfl); (case hr => first | (go_simp; done) | (go_simp; rfl)); intro gb101 hg w4 hbox hb; replace HO0_2 := Aside0.mk (Kd.V_below (Kd.V_elderB (Kd.VA HO0_2.out) gb101 (Nat.le_of_eq hg.symm)) hb); have BK101 := Aside0.mk (hbox); have GE101 := Aside0.mk (ge1 hg (LA HB.out)); replace HB := Aside0.mk (below_step (LA HB.out) hb); clear hb hbox hg) | ((with_reducible refine gate_dst (N := 3) rfl ?_); refine box_event ?hg (N := 3) ?hd (cs := #[.int .i64 a1_0, .int .i64 a1_1, .string a1_2]) (t := 26) ?hr ?_; (case hd => rfl); (case hg => rfl); (case hr => first | (go_simp; done) | (go_simp; rfl)); intro gb102 hg w5 hbox hb; replace HO0_2 := Aside0.mk (Kd.V_below (Kd.V_elderB (Kd.VA HO0_2.out) gb102 (Nat.le_of_eq hg.symm)) hb); have BK102 := Aside0.mk (hbox); have GE102 := Aside0.mk (ge1 hg (LA HB.out)); replace HB := Aside0.mk (below_step (LA HB.out) hb); have NB101_102 := Aside0.mk ((by rw [hg]; exact Nat.ne_of_lt (blk_lt (g := gb101) (o := .cells #[.int .i64 a0_0, .bool true, .slice A0_2 l0_2.length c0_2] 24 (0, 0)) (BA BK101.out)) : gb101 ≠ gb102)); have NB102_101 := Aside0.mk ((by rw [hg]; exact Nat.ne_of_gt (blk_lt (g := gb101) (o := .cells #[.int .i64 a0_0, .bool true, .slice A0_2 l0_2.length c0_2] 24 (0, 0)) (BA BK101.out)) : gb102 ≠ gb101)); replace BK101 := Aside0.mk (blk_below (BA BK101.out) hb); clear hb hbox hg) | ((with_reducible refine gate_dst (N := 4) rfl ?_); refine box_event ?hg (N := 4) ?hd (cs := #[.int .i64 0, .bool false, .slice none 0 0]) (t := 24) ?hr ?_; (case hd => rfl); (case hg => rfl); (case hr => first | (go_simp; done) | (go_simp; rfl)); intro gb103 hg w6 hbox hb; replace HO0_2 := Aside0.mk (Kd.V_below (Kd.V_elderB (Kd.VA HO0_2.out) gb103 (Nat.le_of_eq hg.symm)) hb); have BK103 := Aside0.mk (hbox); have GE103 := Aside0.mk (ge1 hg (LA HB.out)); replace HB := Aside0.mk (below_step (LA HB.out) hb); have NB101_103 := Aside0.mk ((by rw [hg]; exact Nat.ne_of_lt (blk_lt (g := gb101) (o := .cells #[.int .i64 a0_0, .bool true, .slice A0_2 l0_2.length c0_2] 24 (0, 0)) (BA BK101.out)) : gb101 ≠ gb103)); have NB103_101 := Aside0.mk ((by rw [hg]; exact Nat.ne_of_gt (blk_lt (g := gb101) (o := .cells #[.int .i64 a0_0, .bool true, .slice A0_2 l0_2.length c0_2] 24 (0, 0)) (BA BK101.out)) : gb103 ≠ gb101)); replace BK101 := Aside0.mk (blk_below (BA BK101.out) hb); have NB102_103 := Aside0.mk ((by rw [hg]; exact Nat.ne_of_lt (blk_lt (g := gb102) (o := .cells #[.int .i64 a1_0, .int .i64 a1_1, .string a1_2] 26 (0, 0)) (BA BK102.out)) : gb102 ≠ gb103)); have NB103_102 := Aside0.mk ((by rw [hg]; exact Nat.ne_of_gt (blk_lt (g := gb102) (o := .cells #[.int .i64 a1_0, .int .i64 a1_1, .string a1_2] 26 (0, 0)) (BA BK102.out)) : gb103 ≠ gb102)); clear BK102; clear hb hbox hg; have hnb7 := NB101_102.out; have hnc7 := NB102_101.out; have hnb8 := NB101_103.out; have hnc8 := NB103_101.out; obtain ⟨hcz9_0, hcz9_1, hcz9_2, hfz9_0, hfz9_1, hfz9_2⟩ := cz3 BK101.out; have hnb10 := NB103_102.out; have hnc10 := NB102_103.out; obtain ⟨hcz11_0, hcz11_1, hcz11_2, hfz11_0, hfz11_1, hfz11_2⟩ := cz3 BK103.out))
    refine bodyPost_ret (results_ct rfl _ _ gb103 24 #[.int .i64 a0_0, .bool true, .slice A0_2 l0_2.length c0_2] (0, 0) _ rfl (BP BK103.out (by rfl)) Try.underlying24 rfl (by kernel_rfl)) rfl ?_
    exact ⟨_, by first | rfl | (simp [errW_none, errW_some] <;> rfl) | (simp [*, errW_none, errW_some] <;> rfl), by (with_reducible repeat (first | apply Kd.V_alloc | apply Kd.V_drewN | apply Kd.V_drew)); exact Kd.V_mono (Kd.V_mv (g := gb103) (Kd.V_mono HO0_2.out (fun k_ hk => (⟨hk, hk.2⟩ : _ ∧ k_ ≠ gb103))) (fun _ hk => hk.2)) (fun _ hk => hk.1.1.1.1), LG HB.out (G1 GE101.out (G1 GE102.out (G1 GE103.out G0)))⟩
  · replace c3 := Bool.eq_false_iff.mpr c3
    subst c3
    have H1 : (if (l0_2.length : Int) ≥ a0_0 then (some (a0_0, false, l0_2, 6)) else ((some (([] : List (S26)) : List (S26))).bind fun y104 => (if y104.length + l0_2.length < 4398046511104 then ((some (y104 ++ l0_2 : List (S26))).bind fun y107 => (if y107.length < 4398046511104 then (some (a0_0, false, (y107 ++ [(⟨a1_0, a1_1, a1_2⟩ : S26)]), 0)) else (none))) else (none)))) = some (r1, r2, r3, r4) := by rw [if_neg (show ¬ (false = true) by decide)] at H; exact H
    clear H
    have H := H1
    clear H1
    by_cases c12 : (l0_2.length : Int) ≥ a0_0
    · rw [if_pos c12] at H
      have c12b0 : decide (a0_0 ≤ (l0_2.length : Int)) = true := decide_eq_true c12
      clear c12
      simp only [Option.some.injEq, Prod.mk.injEq] at H
      obtain ⟨rfl, rfl, rfl, rfl⟩ := H
      go_enter Try.func11, Try.ntmps11
      go_wp2_with (first | ((with_reducible refine gate_dst (N := 2) rfl ?_); refine box_event ?hg (N := 2) ?hd (cs := #[.int .i64 a0_0, .bool false, .slice A0_2 l0_2.length c0_2]) (t := 24) ?hr ?_; (case hd => rfl); (case hg => rfl); (case hr => first | (go_simp; done) | (go_simp; rfl)); intro gb101 hg w13 hbox hb; replace HO0_2 := Aside0.mk (Kd.V_below (Kd.V_elderB (Kd.VA HO0_2.out) gb101 (Nat.le_of_eq hg.symm)) hb); have BK101 := Aside0.mk (hbox); have GE101 := Aside0.mk (ge1 hg (LA HB.out)); replace HB := Aside0.mk (below_step (LA HB.out) hb); clear hb hbox hg) | ((with_reducible refine gate_dst (N := 3) rfl ?_); refine box_event ?hg (N := 3) ?hd (cs := #[.int .i64 a1_0, .int .i64 a1_1, .string a1_2]) (t := 26) ?hr ?_; (case hd => rfl); (case hg => rfl); (case hr => first | (go_simp; done) | (go_simp; rfl)); intro gb102 hg w14 hbox hb; replace HO0_2 := Aside0.mk (Kd.V_below (Kd.V_elderB (Kd.VA HO0_2.out) gb102 (Nat.le_of_eq hg.symm)) hb); have BK102 := Aside0.mk (hbox); have GE102 := Aside0.mk (ge1 hg (LA HB.out)); replace HB := Aside0.mk (below_step (LA HB.out) hb); have NB101_102 := Aside0.mk ((by rw [hg]; exact Nat.ne_of_lt (blk_lt (g := gb101) (o := .cells #[.int .i64 a0_0, .bool false, .slice A0_2 l0_2.length c0_2] 24 (0, 0)) (BA BK101.out)) : gb101 ≠ gb102)); have NB102_101 := Aside0.mk ((by rw [hg]; exact Nat.ne_of_gt (blk_lt (g := gb101) (o := .cells #[.int .i64 a0_0, .bool false, .slice A0_2 l0_2.length c0_2] 24 (0, 0)) (BA BK101.out)) : gb102 ≠ gb101)); replace BK101 := Aside0.mk (blk_below (BA BK101.out) hb); clear hb hbox hg) | ((with_reducible refine gate_dst (N := 4) rfl ?_); refine box_event ?hg (N := 4) ?hd (cs := #[.int .i64 0, .bool false, .slice none 0 0]) (t := 24) ?hr ?_; (case hd => rfl); (case hg => rfl); (case hr => first | (go_simp; done) | (go_simp; rfl)); intro gb103 hg w15 hbox hb; replace HO0_2 := Aside0.mk (Kd.V_below (Kd.V_elderB (Kd.VA HO0_2.out) gb103 (Nat.le_of_eq hg.symm)) hb); have BK103 := Aside0.mk (hbox); have GE103 := Aside0.mk (ge1 hg (LA HB.out)); replace HB := Aside0.mk (below_step (LA HB.out) hb); have NB101_103 := Aside0.mk ((by rw [hg]; exact Nat.ne_of_lt (blk_lt (g := gb101) (o := .cells #[.int .i64 a0_0, .bool false, .slice A0_2 l0_2.length c0_2] 24 (0, 0)) (BA BK101.out)) : gb101 ≠ gb103)); have NB103_101 := Aside0.mk ((by rw [hg]; exact Nat.ne_of_gt (blk_lt (g := gb101) (o := .cells #[.int .i64 a0_0, .bool false, .slice A0_2 l0_2.length c0_2] 24 (0, 0)) (BA BK101.out)) : gb103 ≠ gb101)); replace BK101 := Aside0.mk (blk_below (BA BK101.out) hb); have NB102_103 := Aside0.mk ((by rw [hg]; exact Nat.ne_of_lt (blk_lt (g := gb102) (o := .cells #[.int .i64 a1_0, .int .i64 a1_1, .string a1_2] 26 (0, 0)) (BA BK102.out)) : gb102 ≠ gb103)); have NB103_102 := Aside0.mk ((by rw [hg]; exact Nat.ne_of_gt (blk_lt (g := gb102) (o := .cells #[.int .i64 a1_0, .int .i64 a1_1, .string a1_2] 26 (0, 0)) (BA BK102.out)) : gb103 ≠ gb102)); clear BK102; clear hb hbox hg; have hnb16 := NB101_102.out; have hnc16 := NB102_101.out; have hnb17 := NB101_103.out; have hnc17 := NB103_101.out; obtain ⟨hcz18_0, hcz18_1, hcz18_2, hfz18_0, hfz18_1, hfz18_2⟩ := cz3 BK101.out; have hnb19 := NB103_102.out; have hnc19 := NB102_103.out; obtain ⟨hcz20_0, hcz20_1, hcz20_2, hfz20_0, hfz20_1, hfz20_2⟩ := cz3 BK103.out))
      refine bodyPost_ret (results_ct rfl _ _ gb103 24 #[.int .i64 a0_0, .bool false, .slice A0_2 l0_2.length c0_2] (0, 0) _ rfl (BP BK103.out (by rfl)) Try.underlying24 rfl (by kernel_rfl)) rfl ?_
      exact ⟨_, by first | rfl | (simp [errW_none, errW_some] <;> rfl) | (simp [*, errW_none, errW_some] <;> rfl), by (with_reducible repeat (first | apply Kd.V_alloc | apply Kd.V_drewN | apply Kd.V_drew)); exact Kd.V_mono (Kd.V_mv (g := gb103) (Kd.V_mono HO0_2.out (fun k_ hk => (⟨hk, hk.2⟩ : _ ∧ k_ ≠ gb103))) (fun _ hk => hk.2)) (fun _ hk => hk.1.1.1.1), LG HB.out (G1 GE101.out (G1 GE102.out (G1 GE103.out G0)))⟩
    · rw [if_neg c12] at H
      have c12b0 : decide (a0_0 ≤ (l0_2.length : Int)) = false := decide_eq_false c12
      clear c12
      obtain ⟨y104, hy104⟩ : ∃ y_ : List (S26), y_ = (([] : List (S26))) := ⟨_, rfl⟩
      replace H : (if y104.length + l0_2.length < 4398046511104 then ((some (y104 ++ l0_2 : List (S26))).bind fun y107 => (if y107.length < 4398046511104 then (some (a0_0, false, (y107 ++ [(⟨a1_0, a1_1, a1_2⟩ : S26)]), 0)) else (none))) else (none)) = some (r1, r2, r3, r4) := by first | (rw [hy104]; with_reducible exact H) | (have H2_ := (Option.bind_some _ _).symm.trans H; rw [hy104]; with_reducible exact H2_) | (have H2_ := (Option.bind_some _ _).symm.trans H; with_reducible exact H2_) | with_reducible exact H | (rw [hy104]; exact H) | exact H
      have Ny104 := Aside0.mk hy104
      clear hy104
      by_cases c21 : y104.length + l0_2.length < 4398046511104
      rotate_left
      · rw [if_neg c21] at H
        exact absurd H (by simp)
      rw [if_pos c21] at H
      have LMc21 := Aside0.mk c21
      clear c21
      obtain ⟨y107, hy107⟩ : ∃ y_ : List (S26), y_ = (y104 ++ l0_2) := ⟨_, rfl⟩
      replace H : (if y107.length < 4398046511104 then (some (a0_0, false, (y107 ++ [(⟨a1_0, a1_1, a1_2⟩ : S26)]), 0)) else (none)) = some (r1, r2, r3, r4) := by first | (rw [hy107]; with_reducible exact H) | (have H2_ := (Option.bind_some _ _).symm.trans H; rw [hy107]; with_reducible exact H2_) | (have H2_ := (Option.bind_some _ _).symm.trans H; with_reducible exact H2_) | with_reducible exact H | (rw [hy107]; exact H) | exact H
      have Ny107 := Aside0.mk hy107
      clear hy107
      by_cases c22 : y107.length < 4398046511104
      rotate_left
      · rw [if_neg c22] at H
        exact absurd H (by simp)
      rw [if_pos c22] at H
      have LMc22 := Aside0.mk c22
      clear c22
      obtain ⟨y110, hy110⟩ : ∃ y_ : List (S26), y_ = (y107 ++ [(⟨a1_0, a1_1, a1_2⟩ : S26)]) := ⟨_, rfl⟩
      replace H : (some (a0_0, false, y110, 0)) = some (r1, r2, r3, r4) := by first | (rw [hy110]; with_reducible exact H) | (have H2_ := (Option.bind_some _ _).symm.trans H; rw [hy110]; with_reducible exact H2_) | (have H2_ := (Option.bind_some _ _).symm.trans H; with_reducible exact H2_) | with_reducible exact H | (rw [hy110]; exact H) | exact H
      have Ny110 := Aside0.mk hy110
      clear hy110
      simp only [Option.some.injEq, Prod.mk.injEq] at H
      obtain ⟨rfl, rfl, rfl, rfl⟩ := H
      go_enter Try.func11, Try.ntmps11
      go_wp2_with (first | ((with_reducible refine gate_dst (N := 2) rfl ?_); refine box_event ?hg (N := 2) ?hd (cs := #[.int .i64 a0_0, .bool false, .slice A0_2 l0_2.length c0_2]) (t := 24) ?hr ?_; (case hd => rfl); (case hg => rfl); (case hr => first | (go_simp; done) | (go_simp; rfl)); intro gb101 hg w23 hbox hb; replace HO0_2 := Aside0.mk (Kd.V_below (Kd.V_elderB (Kd.VA HO0_2.out) gb101 (Nat.le_of_eq hg.symm)) hb); have BK101 := Aside0.mk (hbox); have GE101 := Aside0.mk (ge1 hg (LA HB.out)); replace HB := Aside0.mk (below_step (LA HB.out) hb); clear hb hbox hg) | ((with_reducible refine gate_dst (N := 3) rfl ?_); refine box_event ?hg (N := 3) ?hd (cs := #[.int .i64 a1_0, .int .i64 a1_1, .string a1_2]) (t := 26) ?hr ?_; (case hd => rfl); (case hg => rfl); (case hr => first | (go_simp; done) | (go_simp; rfl)); intro gb102 hg w24 hbox hb; replace HO0_2 := Aside0.mk (Kd.V_below (Kd.V_elderB (Kd.VA HO0_2.out) gb102 (Nat.le_of_eq hg.symm)) hb); have BK102 := Aside0.mk (hbox); have GE102 := Aside0.mk (ge1 hg (LA HB.out)); replace HB := Aside0.mk (below_step (LA HB.out) hb); have NB101_102 := Aside0.mk ((by rw [hg]; exact Nat.ne_of_lt (blk_lt (g := gb101) (o := .cells #[.int .i64 a0_0, .bool false, .slice A0_2 l0_2.length c0_2] 24 (0, 0)) (BA BK101.out)) : gb101 ≠ gb102)); have NB102_101 := Aside0.mk ((by rw [hg]; exact Nat.ne_of_gt (blk_lt (g := gb101) (o := .cells #[.int .i64 a0_0, .bool false, .slice A0_2 l0_2.length c0_2] 24 (0, 0)) (BA BK101.out)) : gb102 ≠ gb101)); replace BK101 := Aside0.mk (blk_below (BA BK101.out) hb); clear hb hbox hg) | ((with_reducible refine gate_dst (N := 4) rfl ?_); refine box_event ?hg (N := 4) ?hd (cs := #[.int .i64 0, .bool false, .slice none 0 0]) (t := 24) ?hr ?_; (case hd => rfl); (case hg => rfl); (case hr => first | (go_simp; done) | (go_simp; rfl)); intro gb103 hg w25 hbox hb; replace HO0_2 := Aside0.mk (Kd.V_below (Kd.V_elderB (Kd.VA HO0_2.out) gb103 (Nat.le_of_eq hg.symm)) hb); have BK103 := Aside0.mk (hbox); have GE103 := Aside0.mk (ge1 hg (LA HB.out)); replace HB := Aside0.mk (below_step (LA HB.out) hb); have NB101_103 := Aside0.mk ((by rw [hg]; exact Nat.ne_of_lt (blk_lt (g := gb101) (o := .cells #[.int .i64 a0_0, .bool false, .slice A0_2 l0_2.length c0_2] 24 (0, 0)) (BA BK101.out)) : gb101 ≠ gb103)); have NB103_101 := Aside0.mk ((by rw [hg]; exact Nat.ne_of_gt (blk_lt (g := gb101) (o := .cells #[.int .i64 a0_0, .bool false, .slice A0_2 l0_2.length c0_2] 24 (0, 0)) (BA BK101.out)) : gb103 ≠ gb101)); replace BK101 := Aside0.mk (blk_below (BA BK101.out) hb); have NB102_103 := Aside0.mk ((by rw [hg]; exact Nat.ne_of_lt (blk_lt (g := gb102) (o := .cells #[.int .i64 a1_0, .int .i64 a1_1, .string a1_2] 26 (0, 0)) (BA BK102.out)) : gb102 ≠ gb103)); have NB103_102 := Aside0.mk ((by rw [hg]; exact Nat.ne_of_gt (blk_lt (g := gb102) (o := .cells #[.int .i64 a1_0, .int .i64 a1_1, .string a1_2] 26 (0, 0)) (BA BK102.out)) : gb103 ≠ gb102)); replace BK102 := Aside0.mk (blk_below (BA BK102.out) hb); clear hb hbox hg; have hnb26 := NB101_102.out; have hnc26 := NB102_101.out; have hnb27 := NB101_103.out; have hnc27 := NB103_101.out; obtain ⟨hcz28_0, hcz28_1, hcz28_2, hfz28_0, hfz28_1, hfz28_2⟩ := cz3 BK101.out) | ((with_reducible refine gate_dst (N := 17) rfl ?_); refine Kd.R_lit k26 _ 26 ?hg (N := 17) ?hd (xs := ([] : List (S26))) (inner := []) (ok := fun _ => True) (okp := fun _ => True) ?hr ?hp (fun _ hk => hk) trivial (Below.refl _ _) (Nat.le_refl _) (by simp) ?_; (case hd => rfl); (case hg => rfl); (case hr => first | (go_simp; done) | (go_simp; rfl)); (case hp => exact (Reps.none _ _)); intro v105 w29 ho30 hb hg_ hnew_; clear hg_ hnew_; (first | rw [← Ny104.out] at ho30 | (simp only [Int.reduceToNat] at ho30; rw [← Ny104.out] at ho30)); replace HO0_2 := Aside0.mk (Kd.V_elder' (Kd.VA HO0_2.out) (Kd.R_base ho30) hb); have HO106 := Aside0.mk (Kd.R_lower (Kd.R_newB (Kd.R_newM (M := fun k_ => (w.heap.size ≤ k_)) ho30 (below_size (LA HB.out)) (fun k_ h_ => h_)) (g := gb102) (o := .cells #[.int .i64 a1_0, .int .i64 a1_1, .string a1_2] 26 (0, 0)) (BA BK102.out)) (below_size (LA HB.out))); replace BK101 := Aside0.mk (blk_below (BA BK101.out) hb); replace BK102 := Aside0.mk (blk_below (BA BK102.out) hb); replace BK103 := Aside0.mk (blk_below (BA BK103.out) hb); replace HB := Aside0.mk (below_step (LA HB.out) hb); clear hb ho30; obtain ⟨hcz31_0, hcz31_1, hcz31_2, hfz31_0, hfz31_1, hfz31_2⟩ := cz3 BK101.out) | ((with_reducible refine gate_builtin (b := .append) (xs := #[.tmp 17, .tmp 19]) rfl ?_); at_builtin; refine Kd.R_append_rows k26 (w0 := w) w.heap.size rfl (.tmp 17) (.tmp 19) 22 26 (.agg #[(.int .i64 0), (.int .i64 0), (.string ⟨#[]⟩)]) 32 rfl Try.underlying22 info26 rfl (by decide) (by omega) v105 y104 l0_2 _ _ _ (fun k_ => (w.heap.size ≤ k_) ∧ k_ ≠ gb102) (fun _ => False) rfl rfl ?aO ?aR (fun _ _ h => h) (fun _ h => h.elim) ?aF ?aB ?aS ?aL ?_; (case aR => repeat (first | exact (Kd.V_reads' HO0_2.out).2.2 | (with_reducible refine Kd.C_alloc ?_ _) | (with_reducible refine Kd.C_drewN ?_ _) | (with_reducible refine Kd.C_drew ?_))); (case aB => exact (LA HB.out)); (case aF => exact (fun k_ hk => ⟨(Nat.le_trans (below_size (LA HB.out)) hk), Kd.freshB (g := gb102) (o := .cells #[.int .i64 a1_0, .int .i64 a1_1, .string a1_2] 26 (0, 0)) (BA BK102.out) k_ hk⟩)); (case aO => exact (Kd.RA (Kd.R_mono HO106.out (fun _ hk => ⟨hk.1.1, hk.2⟩)))); (case aS => exact (below_size (LA HB.out))); (case aL => have := LMc21.out; omega); intro v108 w32 ho hb hg hat; rw [← Ny107.out] at ho; replace BK101 := Aside0.mk (blk_grown (g := gb101) (o := .cells #[.int .i64 a0_0, .bool false, .slice A0_2 l0_2.length c0_2] 24 (0, 0)) (BA BK101.out) hg (Kd.R_ne HO106.out BK101.out (by decide))); replace BK102 := Aside0.mk (blk_grown (g := gb102) (o := .cells #[.int .i64 a1_0, .int .i64 a1_1, .string a1_2] 26 (0, 0)) (BA BK102.out) hg (Kd.R_away HO106.out (fun _ hk => hk.2))); replace BK103 := Aside0.mk (blk_grown (g := gb103) (o := .cells #[.int .i64 0, .bool false, .slice none 0 0] 24 (0, 0)) (BA BK103.out) hg (Kd.R_ne HO106.out BK103.out (by decide))); replace HB := Aside0.mk (hb); have HO109 := Aside0.mk (ho); clear HO0_2 HO106; clear ho hb hg hat; have hnb33 := NB102_103.out; have hnc33 := NB103_102.out; obtain ⟨hcz34_0, hcz34_1, hcz34_2, hfz34_0, hfz34_1, hfz34_2⟩ := cz3 BK102.out) | ((with_reducible refine gate_builtin (b := .append) (xs := #[.tmp 21, .tmp 23]) rfl ?_); at_builtin; refine Kd.R_append k26 (w0 := w) w.heap.size rfl (.tmp 21) (.tmp 23) 22 26 (.agg #[(.int .i64 0), (.int .i64 0), (.string ⟨#[]⟩)]) 32 rfl Try.underlying22 info26 rfl (by decide) (by omega) v108 y107 (⟨a1_0, a1_1, a1_2⟩ : S26) [.int .i64 a1_0, .int .i64 a1_1, .string a1_2] (fun k_ => (w.heap.size ≤ k_) ∧ k_ ≠ gb102) (fun _ => False) rfl rfl ?aP (fun _ hk => hk.elim) ?aF ?aO ?aB ?aS ?aL ?_; (case aP => exact k26_mkM _ _ _ (⟨a1_0, a1_1, a1_2⟩ : S26)); (case aB => exact (LA HB.out)); (case aF => exact (fun k_ hk => ⟨(Nat.le_trans (below_size (LA HB.out)) hk), Kd.freshB (g := gb102) (o := .cells #[.int .i64 a1_0, .int .i64 a1_1, .string a1_2] 26 (0, 0)) (BA BK102.out) k_ hk⟩)); (case aO => exact (Kd.RA HO109.out)); (case aS => exact (below_size (LA HB.out))); (case aL => have := LMc22.out; omega); intro v111 w35 ho hb hg hat; rw [← Ny110.out] at ho; replace BK101 := Aside0.mk (blk_grown (g := gb101) (o := .cells #[.int .i64 a0_0, .bool false, .slice A0_2 l0_2.length c0_2] 24 (0, 0)) (BA BK101.out) hg (Kd.R_ne HO109.out BK101.out (by decide))); replace BK103 := Aside0.mk (blk_grown (g := gb103) (o := .cells #[.int .i64 0, .bool false, .slice none 0 0] 24 (0, 0)) (BA BK103.out) hg (Kd.R_ne HO109.out BK103.out (by decide))); replace HB := Aside0.mk (hb); have HO112 := Aside0.mk (ho); clear BK102 HO109; (try clear HO0_2); clear ho hb hg hat; obtain ⟨Ao36, co36, eo36⟩ := Kd.R_slice HO112.out; subst eo36; obtain ⟨hcz37_0, hcz37_1, hcz37_2, hfz37_0, hfz37_1, hfz37_2⟩ := cz3 BK101.out; obtain ⟨hcz38_0, hcz38_1, hcz38_2, hfz38_0, hfz38_1, hfz38_2⟩ := cz3 BK103.out))
      refine bodyPost_ret (results_ct rfl _ _ gb103 24 #[.int .i64 a0_0, .bool false, .slice Ao36 y110.length co36] (0, 0) _ rfl (by (with_reducible repeat (first | refine blk_drewN ?_ _ | refine blk_drew ?_ | refine blk_alloc ?_ _)); refine blk_put (cs := #[.int .i64 a0_0, .bool false, .slice none 0 0]) ?_ 2 _ rfl; (with_reducible repeat (first | refine blk_drewN ?_ _ | refine blk_drew ?_ | refine blk_alloc ?_ _)); refine blk_put (cs := #[.int .i64 a0_0, .bool false, .slice none 0 0]) ?_ 1 _ rfl; (with_reducible repeat (first | refine blk_drewN ?_ _ | refine blk_drew ?_ | refine blk_alloc ?_ _)); refine blk_put (cs := #[.int .i64 0, .bool false, .slice none 0 0]) ?_ 0 _ rfl; exact BF BK103.out NB103_101.out) Try.underlying24 rfl (by kernel_rfl)) rfl ?_
      exact ⟨_, by first | rfl | (simp [errW_none, errW_some] <;> rfl) | (simp [*, errW_none, errW_some] <;> rfl), Kd.V_mono (Kd.R_V (Kd.R_mono (Kd.R_ms (gs := [gb103, gb101]) (Kd.R_types (Kd.R_types HO112.out BK101.out (by decide)) BK103.out (by decide)) (fun _ hk => N1 (hk.2) (N1 (hk.1.2) (N0)))) (fun _ hk => hk.1.1.1))) (fun k_ hk => by first | exact ⟨(.inr (hk.1)), hk.2⟩ | exact (.inr (hk))), LG HB.out (G1 GE101.out (G1 GE102.out (G1 GE103.out G0)))⟩

-- NOT PRINTED: function 20 (pipe_row)

-- NOT PRINTED: function 21 (pipe_rest)

/-! ### pipe_Pipe_Send: function 10 -/
def pipe_Pipe_Send.f (a0_0 : Int) (a0_1 : Bool) (l0_2 : List (S36)) (a1_0 : Int) (a1_1 : Int) (a1_2 : ByteArray) : Option (Int × Bool × (List (S36)) × Int) := if a0_1 = true then (some (a0_0, a0_1, l0_2, 8)) else (if (l0_2.length : Int) ≥ a0_0 then (some (a0_0, a0_1, l0_2, 6)) else ((some (([] : List (S36)) : List (S36))).bind fun y116 => (if y116.length + l0_2.length < 4398046511104 then ((some (y116 ++ l0_2 : List (S36))).bind fun y119 => (if y119.length < 4398046511104 then (some (a0_0, a0_1, (y119 ++ [(⟨a1_0, a1_1, a1_2⟩ : S36)]), 0)) else (none))) else (none))))
section
open Go.Conc
def enc36 (x : S36) : Value := .agg #[.int .i64 x.f0, .int .i64 x.f1, .string x.f2]
set_option maxHeartbeats 4000000 in
set_option maxRecDepth 100000 in
theorem pipe_row.calls (A : Option Addr) (c : Nat) (l : List S36) (sh : Bool) (w : World) (hr : Kd.C k36 w A l.length l) (hn : l.length ≤ 4398046511104) :
    Calls Try.prog 20 #[.slice A l.length c, .bool sh] w fun e w' => ∃ ch s, e = .returned (.chan (some ch)) ∧ w.heap.size ≤ ch ∧ w'.heap[ch]? = some (.chan (l.length + 1) (l.map enc36).toArray sh s 0 false) ∧ Below w.heap.size w w' := by
  refine calls_of_nwp Try.func20 rfl ?_
  simp only [Try.ntmps20, List.size_toArray, List.length_cons, List.length_nil, Nat.reduceAdd, Nat.reduceSub, Array.replicate_succ,
     Array.replicate_zero, List.push_toArray, List.append_toArray, List.nil_append, List.cons_append]
  refine nwp_seq_k fun K hK => ?_
  refine nwp_of_wp ?_
  go_wp2
  have hlen : ((l.length + 1 : Nat) : Int) = (l.length : Int) + 1 := by omega
  have hwr : IntKind.wrap .i64 ((l.length : Int) + 1) = (l.length : Int) + 1 := by unfold IntKind.wrap; simp [IntKind.bits, IntKind.signed]; omega
  have hmc : (Instr.makeChan 54 (.int .i64 ((l.length : Int) + 1))).run Try.prog w = .ok (.chan (some w.heap.size)) (w.alloc (.chan (l.length + 1) #[] false 0 0 false)) := by
    have h : (Try.prog.info? 36).map (·.bytes) = some 32 := by kernel_rfl
    obtain ⟨i, hi, hb⟩ := Option.map_eq_some_iff.1 h
    have := run_makeChan (P := Try.prog) (w := w) Try.underlying54 hi .i64 (l.length + 1) (by omega) (by rw [hb]; omega)
    rw [hlen] at this
    exact this
  refine nwp_seq_k fun K hK => ?_
  refine nwp_of_wp ?_
  go_wp2
  refine nwp_seq_k fun K hK => ?_
  refine nwp_seq_k fun K2 hK2 => ?_
  refine nwp_of_wp ?_
  clear hmc hwr hlen
  go_wp2
  refine nwp_block ?_
  refine nwp_loop_ghost (fun n a w' => ∃ (i : Nat) (s : Nat) (u7 u15 u16 u17 u18 u19 u20 : Value), i + n = l.length ∧ w'.heap[w.heap.size]? = some (.chan (l.length + 1) ((l.take i).map enc36).toArray false s 0 false) ∧ Below w.heap.size w w' ∧
    a = ⟨#[.slice A l.length c, .bool sh, undef, undef, .chan none, .chan (some w.heap.size), undef, u7, .slice A l.length c, .int .i64 l.length, .int .i64 ((l.length : Int) + 1), .chan (some w.heap.size), .slice A l.length c, .int .i64 l.length, .int .i64 (i : Int), u15, u16, u17, u18, u19, u20, undef, undef, undef], []⟩) l.length ?_ ?_
  · exact ⟨0, 0, _, _, _, _, _, _, _, by omega, heap_alloc_new w _, (Below.refl _ _).alloc (Nat.le_refl _) _, rfl⟩
  rintro n a w1 ⟨i, s, u7, u15, u16, u17, u18, u19, u20, hi, hc, HB, rfl⟩
  refine nwp_seq_k fun K3 hK3 => ?_
  refine nwp_of_wp ?_
  go_wp2
  by_cases hlt : i < l.length
  · refine nwp_seq_k fun K4 hK4 => ?_
    refine nwp_of_wp ?_
    have hd : decide ((i : Int) < (l.length : Int)) = true := decide_eq_true (by omega)
    go_wp2
    refine nwp_seq_k fun K5 hK5 => ?_
    refine nwp_block ?_
    refine nwp_seq_k fun K6 hK6 => ?_
    have p1 : 0 ≤ (i : Int) := by omega
    have q1 : (i : Int) < (l.length : Int) := by omega
    obtain ⟨ad, e1, hx0, hx1, hx2⟩ := at_T36 hr (i : Int) p1 q1
    cases e1
    replace hx0 := (HB.cell (World.block_lt_of_cell? w _ hx0)).trans hx0
    replace hx1 := (HB.cell (World.block_lt_of_cell? w _ hx1)).trans hx1
    replace hx2 := (HB.cell (World.block_lt_of_cell? w _ hx2)).trans hx2
    replace p1 := eq_true p1
    replace q1 := eq_true q1
    simp only [Int.toNat_natCast] at hx0 hx1 hx2
    refine nwp_of_wp ?_
    go_wp2_with (first | ((with_reducible refine gate_dst (N := 7) rfl ?_); refine box_event ?hg (N := 7) ?hd (cs := #[.int .i64 0, .int .i64 0, .string (⟨#[]⟩ : ByteArray)]) (t := 36) ?hr ?_; (case hd => rfl); (case hg => rfl); (case hr => first | (go_simp; done) | (go_simp; rfl)); intro g7 hg w2 hbox hb; have HC2 := Aside0.mk (blk_below hc hb); have HN := Aside0.mk (ne1 hg hc); have HN2 := Aside0.mk (ne2 hg hc); have HG := Aside0.mk (ge1 hg HB); have HB2 := Aside0.mk (below_step HB hb); have HBK := Aside0.mk hbox; clear hb hbox hg hc HB; obtain ⟨z0, z1, z2, f0, f1, f2⟩ := cz3 HBK.out))
    generalize hw3 : ((w2.setCell ⟨g7, 0, none⟩ (.int .i64 (rd_T36 l (i : Int)).f0)).setCell ⟨g7, 1, none⟩ (.int .i64 (rd_T36 l (i : Int)).f1)).setCell ⟨g7, 2, none⟩ (.string (rd_T36 l (i : Int)).f2) = w3
    have HC3 : w3.heap[w.heap.size]? = some (.chan (l.length + 1) ((l.take i).map enc36).toArray false s 0 false) := by rw [← hw3]; exact BF HC2.out HN.out
    have HK3 : w3.heap[g7]? = some (.cells #[.int .i64 (rd_T36 l (i : Int)).f0, .int .i64 (rd_T36 l (i : Int)).f1, .string (rd_T36 l (i : Int)).f2] 36 (0, 0)) := by rw [← hw3]; exact BP HBK.out (by rfl)
    have HB3 : Below w.heap.size w w3 := by rw [← hw3]; exact LG HB2.out (G1 HG.out G0)
    clear hw3 HC2 HN HN2 HG HB2 HBK z0 z1 z2 f0 f1 f2 hx0 hx1 hx2 p1 q1
    obtain ⟨z0, z1, z2, f0, f1, f2⟩ := cz3 HK3
    refine nwp_of_lone fun b k cs hk => ?_
    refine LoneTo.goes (n := 3) ?_
    s_reg
    (s_in; refine goes_oper_k rfl rfl hk (fun K hK => ?_); go_simp; refine hK _ _ ⟨trivial, ?_⟩; clear hK K)
    (s_in; refine goes_oper_k rfl rfl hk (fun K hK => ?_); go_simp; refine hK _ _ ⟨trivial, ?_⟩; clear hK K)
    s_stop
    refine LoneTo.step (step_lone_send_room (c := w.heap.size) (cap := l.length + 1) (buf := ((l.take i).map enc36).toArray) (s := s) (r := 0) (tm := false) (v := enc36 (rd_T36 l (i : Int))) (z' := .tuple #[]) (stepG_comm (blocking := true) (shape := .send) (w' := w3) rfl rfl hk (by simp [execOp, scase, Act.eval, enc36])) HC3 (by simp; omega)) ?_
    rw [Frame.finish_at]
    walk_nrm
    refine LoneTo.goes (n := 1) ?_
    s_c stepG_region_end
    s_stop
    refine LoneTo.done ⟨_, rfl, ?_⟩
    refine hK5 _ _ ?_
    have hwr : IntKind.wrap .i64 ((i : Int) + 1) = (i : Int) + 1 := by unfold IntKind.wrap; simp [IntKind.bits, IntKind.signed]; omega
    refine nwp_of_wp ?_
    clear z0 z1 z2 f0 f1 f2
    go_wp2
    have hcs : ((i : Int) + 1) = ((i + 1 : Nat) : Int) := by omega
    rw [hcs]
    refine ⟨n - 1, by omega, i + 1, s + 1, _, _, _, _, _, _, _, by omega, ?_, below_setChan HB3 (Nat.le_refl _) _ _ _ _ _ _, rfl⟩
    rw [heap_setChan _ _ _ _ _ _ _ _ (blk_lt HC3), List.take_add_one, List.map_append]
    have hg : l[i]? = some (rd_T36 l (i : Int)) := by simp [rd_T36, List.getElem?_eq_getElem hlt]
    rw [hg]
    simp [List.map_take]
  · have hd : decide ((i : Int) < (l.length : Int)) = false := decide_eq_false (by omega)
    refine nwp_seq_k fun K4 hK4 => ?_
    refine nwp_of_wp ?_
    go_wp2
    have hil : i = l.length := by omega
    subst hil
    rw [List.take_length] at hc
    refine nwp_seq_k fun K5 hK5 => ?_
    refine nwp_seq_k fun K6 hK6 => ?_
    refine nwp_of_wp ?_
    go_wp2
    refine nwp_of_wp ?_
    cases sh with
    | true =>
      have hcl := fun ats ty => run_close_open (P := Try.prog) (w := w1) ats ty hc
      go_wp2
      refine nwp_of_wp ?_
      clear hcl
      go_wp2
      go_ret
      exact ⟨_, _, rfl, Nat.le_refl _, heap_setChan w1 _ _ _ _ _ _ _ (blk_lt hc), below_setChan HB (Nat.le_refl _) _ _ _ _ _ _⟩
    | false =>
      go_wp2
      refine nwp_of_wp ?_
      go_wp2
      go_ret
      exact ⟨_, _, rfl, Nat.le_refl _, hc, HB⟩
set_option maxHeartbeats 4000000 in
set_option maxRecDepth 100000 in
theorem pipe_rest.calls (ch cap : Nat) (l : List S36) (s r : Nat) (w : World) (hc0 : w.heap[ch]? = some (.chan cap (l.map enc36).toArray false s r false)) (hn : l.length ≤ 4398046511104) :
    Calls Try.prog 21 #[.chan (some ch)] w fun e w' => ∃ v, e = .returned v ∧ Kd.R k36 36 w' w.heap.size (fun k_ => w.heap.size ≤ k_) v l ∧ Below ch w w' ∧ w.heap.size ≤ w'.heap.size := by
  have hchl : ch < w.heap.size := blk_lt hc0
  refine calls_of_nwp Try.func21 rfl ?_
  simp only [Try.ntmps21, List.size_toArray, List.length_cons, List.length_nil, Nat.reduceAdd, Nat.reduceSub, Array.replicate_succ,
     Array.replicate_zero, List.push_toArray, List.append_toArray, List.nil_append, List.cons_append]
  refine nwp_seq_k fun K hK => ?_
  refine nwp_of_wp ?_
  go_wp2
  refine nwp_seq_k fun K hK => ?_
  refine nwp_of_wp ?_
  go_wp2
  refine nwp_block ?_
  refine nwp_loop_ghost (fun n a w' => ∃ (i s r : Nat) (v3 u4 u5 u6 u7 u8 u9 u10 u11 u12 u13 u14 u15 u16 u17 u18 u19 : Value), i + n = l.length ∧ w'.heap[ch]? = some (.chan cap ((l.drop i).map enc36).toArray false s r false) ∧ Aside0 (Below ch w w') ∧ Aside0 (w.heap.size ≤ w'.heap.size) ∧ Aside0 (Kd.R k36 36 w' w.heap.size (fun k_ => w.heap.size ≤ k_) v3 (l.take i)) ∧
    a = ⟨#[.chan (some ch), undef, .slice none 0 0, v3, u4, u5, u6, u7, u8, u9, u10, u11, u12, u13, u14, u15, u16, u17, u18, u19], []⟩) l.length ?_ ?_
  · exact ⟨0, s, r, _, _, _, _, _, _, _, _, _, _, _, _, _, _, _, _, _, by omega, hc0, ⟨Below.refl _ _⟩, ⟨Nat.le_refl _⟩, ⟨Kd.R_nil _ _ _ _ _⟩, rfl⟩
  clear hc0
  rintro n a w1 ⟨i, s, r, v3, u4, u5, u6, u7, u8, u9, u10, u11, u12, u13, u14, u15, u16, u17, u18, u19, hi, hc, HB, HZ, HO, rfl⟩
  refine nwp_block ?_
  refine nwp_seq_k fun K3 hK3 => ?_
  refine nwp_of_wp ?_
  go_wp2
  refine nwp_seq_k fun K4 hK4 => ?_
  by_cases hlt : i < l.length
  · have hlen : 0 < ((l.drop i).map enc36).toArray.size := by simp; omega
    refine nwp_of_lone fun b k cs hk => ?_
    refine LoneTo.goes (n := 1) ?_
    s_reg
    s_stop
    refine LoneTo.step (step_lone_select_recv_buf (c := ch) (z := .agg #[.int .i64 0, .int .i64 0, .string ⟨#[]⟩]) (stepG_comm (blocking := false) (shape := .select) (w' := w1) rfl rfl hk (by simp [go_sem, execOp, rcase, Act.eval])) hc hlen) ?_
    rw [Frame.finish_at]
    walk_nrm
    refine LoneTo.goes (n := 3) ?_
    (s_in; refine goes_oper_k rfl rfl hk (fun K hK => ?_); go_simp; refine hK _ _ ⟨trivial, ?_⟩; clear hK K)
    (s_in; refine goes_oper_k rfl rfl hk (fun K hK => ?_); go_simp; refine hK _ _ ⟨trivial, ?_⟩; clear hK K)
    s_c stepG_region_end
    s_stop
    refine LoneTo.done ⟨_, rfl, ?_⟩
    refine hK4 _ _ ?_
    generalize hw2 : w1.setChan ch cap _ false s (r + 1) false = w2
    have hc2 : w2.heap[ch]? = some (.chan cap ((l.drop (i + 1)).map enc36).toArray false s (r + 1) false) := by
      rw [← hw2, heap_setChan _ _ _ _ _ _ _ _ (blk_lt hc), List.take_of_length_le (by simp; omega), List.map_drop]
    have HB2 := Aside0.mk (show Below ch w w2 from by rw [← hw2]; exact below_setChan HB.out (Nat.le_refl _) _ _ _ _ _ _)
    have HZ2 := Aside0.mk (show w.heap.size ≤ w2.heap.size from by rw [← hw2, size_setChan]; exact HZ.out)
    have HO2 := Aside0.mk (show Kd.R k36 36 w2 w.heap.size (fun k_ => w.heap.size ≤ k_) v3 (l.take i) from Kd.R_step HO.out (fun k ho _ => by
      rw [← hw2]; simp only [World.setChan]; rw [Array.getElem?_setIfInBounds_ne (by omega)]))
    have HC2 := Aside0.mk hc2
    clear hc2 hw2 hc HB HZ HO hlen
    refine nwp_of_wp ?_
    simp only [enc36]
    obtain ⟨x, hx⟩ : ∃ x, x = l[i] := ⟨_, rfl⟩
    rw [← hx]
    have HX := Aside0.mk hx
    clear hx
    go_wp2_with (first
      | ((with_reducible refine gate_dst (N := 4) rfl ?_); refine box_event ?hg (N := 4) ?hd (cs := #[.int .i64 0, .int .i64 0, .string (⟨#[]⟩ : ByteArray)]) (t := 36) ?hr ?_; (case hd => rfl); (case hg => rfl); (case hr => first | (go_simp; done) | (go_simp; rfl)); intro g4 hg w3 hbox hb; have HC3 := Aside0.mk (blk_below HC2.out hb); have HG := Aside0.mk (show w.heap.size ≤ g4 from by rw [hg]; exact HZ2.out); have HZ3 := Aside0.mk (show w.heap.size ≤ w3.heap.size from Nat.le_trans HZ2.out hb.size); have HB3 := Aside0.mk (HB2.out.trans (hb.mono (Nat.le_trans (Nat.le_of_lt hchl) HZ2.out))); have HBK := Aside0.mk hbox; have HO3 := Aside0.mk (Kd.R_below (Kd.R_elderB HO2.out g4 (Nat.le_of_eq hg.symm)) hb); clear hb hbox hg HC2 HZ2 HB2 HO2; obtain ⟨z0, z1, z2, f0, f1, f2⟩ := cz3 HBK.out)
      | ((with_reducible refine gate_builtin (b := .append) (xs := #[.tmp 16, .tmp 18]) rfl ?_); at_builtin; refine Kd.R_append k36 (w0 := w3) w.heap.size rfl (.tmp 16) (.tmp 18) 29 36 (.agg #[(.int .i64 0), (.int .i64 0), (.string ⟨#[]⟩)]) 32 rfl Try.underlying29 info36 rfl (by decide) (by omega) v3 (l.take i) x [.int .i64 x.f0, .int .i64 x.f1, .string x.f2] (fun k_ => (w.heap.size ≤ k_) ∧ k_ ≠ g4) (fun _ => False) rfl (by first | (go_simp; done) | (go_simp; rfl)) ?aP (fun _ hk => hk.elim) ?aF ?aO ?aB ?aS ?aL ?_; (case aP => exact k36_mkM _ _ _ x); (case aO => exact Kd.R_mv (g := g4) HO3.out (fun _ hk => hk.2)); (case aB => exact Sb.out (gs := [g4]) _ (G1 HG.out G0) HZ3.out); (case aS => exact Nat.le_trans HZ3.out (Sb.out (gs := [g4]) _ (G1 HG.out G0) HZ3.out).size); (case aF => exact (fun k_ hk => ⟨Nat.le_trans (Nat.le_trans HZ3.out (Sb.out (gs := [g4]) _ (G1 HG.out G0) HZ3.out).size) hk, fun e => absurd (blk_lt (BP HBK.out (by rfl))) (Nat.not_lt.mpr (e ▸ hk))⟩)); (case aL => have h9 := List.length_take_le i l; omega); intro v1 w5 ho5 hb5 _ _; have HC5 := Aside0.mk ((hb5.block ch hchl).trans HC3.out); have HB5 := Aside0.mk (HB3.out.trans (hb5.mono (Nat.le_of_lt hchl))); have HZ5 := Aside0.mk (Nat.le_trans HZ3.out hb5.size); have HO5 := Aside0.mk ho5; clear ho5 hb5 z0 z1 z2 f0 f1 f2))
    refine ⟨n - 1, by omega, i + 1, s, r + 1, v1, _, _, _, _, _, _, _, _, _, _, _, _, _, _, _, _, by omega, HC5.out, HB5, HZ5, ⟨?_⟩, rfl⟩
    rw [List.take_succ_eq_append_getElem hlt, ← HX.out]
    exact Kd.R_mono HO5.out (fun _ hk => hk.1)
  · have hil : i = l.length := by omega
    subst hil
    have hc' : w1.heap[ch]? = some (.chan cap #[] false s r false) := by simpa using hc
    refine nwp_of_lone fun b k cs hk => ?_
    refine LoneTo.goes (n := 1) ?_
    s_reg
    s_stop
    refine LoneTo.step (step_lone_select_default (c := ch) (z := .agg #[.int .i64 0, .int .i64 0, .string ⟨#[]⟩]) (stepG_comm (blocking := false) (shape := .select) (w' := w1) rfl rfl hk (by simp [go_sem, execOp, rcase, Act.eval])) hc') ?_
    rw [Frame.finish_at]
    walk_nrm
    refine LoneTo.goes (n := 3) ?_
    (s_in; refine goes_oper_k rfl rfl hk (fun K hK => ?_); go_simp; refine hK _ _ ⟨trivial, ?_⟩; clear hK K)
    (s_in; refine goes_oper_k rfl rfl hk (fun K hK => ?_); go_simp; refine hK _ _ ⟨trivial, ?_⟩; clear hK K)
    s_c stepG_region_end
    s_stop
    refine LoneTo.done ⟨_, rfl, ?_⟩
    refine hK4 _ _ ?_
    refine nwp_of_wp ?_
    go_wp2
    go_ret
    exact ⟨v3, rfl, by have h9 := HO.out; rw [List.take_length] at h9; exact h9, HB.out, HZ.out⟩
set_option maxHeartbeats 8000000 in
set_option maxRecDepth 100000 in
theorem pipe_Pipe_Send.calls (a0_0 : Int) (a0_1 : Bool) (P0_2_ : Nat → Prop) (A0_2 : Option Addr) (c0_2 : Nat) (l0_2 : List (S36)) (a1_0 : Int) (a1_1 : Int) (a1_2 : ByteArray) (r1 : Int) (r2 : Bool) (r3 : List (S36)) (r4 : Int) (w : World) (hs0_2 : Kd.V k36 36 w w.heap.size (fun k_ => P0_2_ k_) (.slice A0_2 l0_2.length c0_2) l0_2) (h : pipe_Pipe_Send.f a0_0 a0_1 l0_2 a1_0 a1_1 a1_2 = some (r1, r2, r3, r4)) :
    Calls Try.prog 10 #[.agg #[.int .i64 a0_0, .bool a0_1, .slice A0_2 l0_2.length c0_2], .agg #[.int .i64 a1_0, .int .i64 a1_1, .string a1_2]] w fun e w' => ∃ v2_ : Value, e = .returned (.tuple #[.agg #[.int .i64 r1, .bool r2, v2_], .int .i64 r4]) ∧ Kd.V k36 36 w' w.heap.size (fun k_ => (P0_2_ k_ ∨ w.heap.size ≤ k_)) v2_ r3 ∧ Below w.heap.size w w' := by
  have hu31 := Try.underlying31
  have hu36 := Try.underlying36
  have HO := Aside0.mk (show Kd.V k36 36 w w.heap.size (fun k_ => (P0_2_ k_ ∨ w.heap.size ≤ k_)) (.slice A0_2 l0_2.length c0_2) l0_2 from Kd.V_mono hs0_2 (fun k_ hk => .inl hk))
  have HB := Aside0.mk (Below.refl w.heap.size w)
  have HH := Aside0.mk h
  clear h hs0_2
  refine calls_of_nwp Try.func10 rfl ?_
  simp only [Try.ntmps10, List.size_toArray, List.length_cons, List.length_nil, Nat.reduceAdd, Nat.reduceSub, Array.replicate_succ,
     Array.replicate_zero, List.push_toArray, List.append_toArray, List.nil_append, List.cons_append]
  refine nwp_seq_k fun K hK => ?_
  refine nwp_of_wp ?_
  go_wp2_with (first
    | ((with_reducible refine gate_dst (N := 2) rfl ?_); refine box_event ?hg (N := 2) ?hd (cs := #[.int .i64 a0_0, .bool a0_1, .slice A0_2 l0_2.length c0_2]) (t := 31) ?hr ?_; (case hd => rfl); (case hg => rfl); (case hr => first | (go_simp; done) | (go_simp; rfl)); intro g1 hg w4 hbox hb; replace HO := Aside0.mk (Kd.V_below (Kd.V_elderB HO.out g1 (Nat.le_of_eq hg.symm)) hb); have GE1 := Aside0.mk (ge1 hg HB.out); replace HB := Aside0.mk (below_step HB.out hb); have BK1 := Aside0.mk hbox; clear hb hbox hg)
    | ((with_reducible refine gate_dst (N := 3) rfl ?_); refine box_event ?hg (N := 3) ?hd (cs := #[.int .i64 a1_0, .int .i64 a1_1, .string a1_2]) (t := 36) ?hr ?_; (case hd => rfl); (case hg => rfl); (case hr => first | (go_simp; done) | (go_simp; rfl)); intro g2 hg w5 hbox hb; replace HO := Aside0.mk (Kd.V_below (Kd.V_elderB HO.out g2 (Nat.le_of_eq hg.symm)) hb); have GE2 := Aside0.mk (ge1 hg HB.out); replace HB := Aside0.mk (below_step HB.out hb); have NB12 := Aside0.mk (ne1 hg BK1.out); replace BK1 := Aside0.mk (blk_below BK1.out hb); have BK2 := Aside0.mk hbox; clear hb hbox hg)
    | ((with_reducible refine gate_dst (N := 4) rfl ?_); refine box_event ?hg (N := 4) ?hd (cs := #[.int .i64 0, .bool false, .slice none 0 0]) (t := 31) ?hr ?_; (case hd => rfl); (case hg => rfl); (case hr => first | (go_simp; done) | (go_simp; rfl)); intro g3 hg w6 hbox hb; replace HO := Aside0.mk (Kd.V_below (Kd.V_elderB HO.out g3 (Nat.le_of_eq hg.symm)) hb); have GE3 := Aside0.mk (ge1 hg HB.out); replace HB := Aside0.mk (below_step HB.out hb); have NB13 := Aside0.mk (ne1 hg BK1.out); have NB31 := Aside0.mk (ne2 hg BK1.out); replace BK1 := Aside0.mk (blk_below BK1.out hb); replace BK2 := Aside0.mk (blk_below BK2.out hb); have BK3 := Aside0.mk hbox; clear hb hbox hg))
  obtain ⟨z10, z11, z12, f10, f11, f12⟩ := cz3 BK1.out
  obtain ⟨z30, z31, z32, f30, f31, f32⟩ := cz3 BK3.out
  have hn13 := NB13.out
  have hn31 := NB31.out
  refine nwp_seq_k fun K2 hK2 => ?_
  refine nwp_of_wp ?_
  cases a0_1 with
  | true =>
    have h := HH.out
    simp only [pipe_Pipe_Send.f, if_true, Option.some.injEq, Prod.mk.injEq] at h
    obtain ⟨rfl, rfl, rfl, rfl⟩ := h
    go_wp2
    refine bodyPost_ret (results_ct rfl _ _ g3 31 #[.int .i64 a0_0, .bool true, .slice A0_2 l0_2.length c0_2] (0, 0) _ rfl (BP BK3.out (by rfl)) Try.underlying31 rfl (by kernel_rfl)) rfl ?_
    exact ⟨_, rfl, Kd.V_mono (Kd.V_mv (g := g3) HO.out (fun _ hk => hk.2)) (fun _ hk => hk.1.1.1), LG HB.out (G1 GE3.out G0)⟩
  | false =>
    by_cases c12 : (l0_2.length : Int) ≥ a0_0
    · have h := HH.out
      simp only [pipe_Pipe_Send.f, Bool.false_eq_true, if_false, if_pos c12, Option.some.injEq, Prod.mk.injEq] at h
      obtain ⟨rfl, rfl, rfl, rfl⟩ := h
      have c12b0 : decide (a0_0 ≤ (l0_2.length : Int)) = true := decide_eq_true c12
      go_wp2
      refine bodyPost_ret (results_ct rfl _ _ g3 31 #[.int .i64 a0_0, .bool false, .slice A0_2 l0_2.length c0_2] (0, 0) _ rfl (BP BK3.out (by rfl)) Try.underlying31 rfl (by kernel_rfl)) rfl ?_
      exact ⟨_, rfl, Kd.V_mono (Kd.V_mv (g := g3) HO.out (fun _ hk => hk.2)) (fun _ hk => hk.1.1.1), LG HB.out (G1 GE3.out G0)⟩
    · have c12b0 : decide (a0_0 ≤ (l0_2.length : Int)) = false := decide_eq_false c12
      have h := HH.out
      rw [pipe_Pipe_Send.f, if_neg (by decide), if_neg c12] at h
      rw [Option.bind_some] at h
      by_cases c13 : l0_2.length < 4398046511104
      · rw [if_pos (by simpa using c13), Option.bind_some, if_pos (by simpa using c13)] at h
        simp only [Option.some.injEq, Prod.mk.injEq, List.nil_append] at h
        obtain ⟨rfl, rfl, hy, rfl⟩ := h
        have HY := Aside0.mk hy
        clear hy
        go_wp2
        clear c12 c12b0
        refine nwp_seq_k fun K5 hK5 => ?_
        refine nwp_of_wp ?_
        go_wp2_with (first
          | ((with_reducible refine gate_callee (f := 20) rfl ?_); refine goesL_ (some 21) rfl rfl Try.func20 (by kernel_rfl) rfl #[.slice A0_2 l0_2.length c0_2, .bool false] rfl (by (try simp only [List.map_toArray, List.map_cons, List.map_nil]); first | done | rfl) ?_; (with_reducible refine (pipe_row.calls A0_2 c0_2 l0_2 false _ ?side1 ?side2).mono ?_); (case side1 => exact (Kd.V_reads' HO.out).2.2); (case side2 => exact Nat.le_of_lt c13); rintro e w7 ⟨ch, s, rfl, hch, hcc, hb⟩; refine ⟨_, rfl, ?_⟩; have GCH := Aside0.mk (Nat.le_trans (below_size HB.out) hch); have N1C := Aside0.mk (Nat.lt_of_lt_of_le (blk_lt BK1.out) hch); have N3C := Aside0.mk (Nat.lt_of_lt_of_le (blk_lt BK3.out) hch); replace BK1 := Aside0.mk (blk_below BK1.out hb); replace BK2 := Aside0.mk (blk_below BK2.out hb); replace BK3 := Aside0.mk (blk_below BK3.out hb); replace HB := Aside0.mk (below_step HB.out hb); have HCC := Aside0.mk hcc; clear hch hcc hb HO z10 z11 z12 f10 f11 f12 z30 z31 z32 f30 f31 f32))
        refine nwp_seq_k fun K6 hK6 => ?_
        obtain ⟨z20, z21, z22, f20, f21, f22⟩ := cz3 BK2.out
        refine nwp_of_lone fun b k cs hk => ?_
        refine LoneTo.goes (n := 3) ?_
        s_reg
        (s_in; refine goes_oper_k rfl rfl hk (fun K hK => ?_); go_simp; refine hK _ _ ⟨trivial, ?_⟩; clear hK K)
        (s_in; refine goes_oper_k rfl rfl hk (fun K hK => ?_); go_simp; refine hK _ _ ⟨trivial, ?_⟩; clear hK K)
        s_stop
        refine LoneTo.step (step_lone_send_room (c := ch) (cap := l0_2.length + 1) (buf := (l0_2.map enc36).toArray) (s := s) (r := 0) (tm := false) (v := enc36 ⟨a1_0, a1_1, a1_2⟩) (z' := .tuple #[]) (stepG_comm (blocking := true) (shape := .send) (w' := w7) rfl rfl hk (by simp [execOp, scase, Act.eval, enc36])) HCC.out (by simp)) ?_
        rw [Frame.finish_at]
        walk_nrm
        refine LoneTo.goes (n := 1) ?_
        s_c stepG_region_end
        s_stop
        refine LoneTo.done ⟨_, rfl, ?_⟩
        refine hK6 _ _ ?_
        generalize hw8 : w7.setChan ch (l0_2.length + 1) _ false (s + 1) 0 false = w8
        have HC8 := Aside0.mk (show w8.heap[ch]? = some (.chan (l0_2.length + 1) (r3.map enc36).toArray false (s + 1) 0 false) from by
          rw [← hw8, heap_setChan _ _ _ _ _ _ _ _ (blk_lt HCC.out), ← HY.out]; simp)
        have off : ∀ (g : Nat) (o : Obj), g < ch → w7.heap[g]? = some o → w8.heap[g]? = some o := fun g o hlt he => by
          rw [← hw8]; simp only [World.setChan]; rw [Array.getElem?_setIfInBounds_ne (by omega)]; exact he
        replace BK1 := Aside0.mk (off _ _ N1C.out BK1.out)
        replace BK3 := Aside0.mk (off _ _ N3C.out BK3.out)
        replace HB := Aside0.mk (show Below w.heap.size w w8 from by rw [← hw8]; exact below_setChan HB.out GCH.out _ _ _ _ _ _)
        have L1 := Aside0.mk (blk_lt BK1.out)
        have L3 := Aside0.mk (blk_lt BK3.out)
        have LS := Aside0.mk (below_size HB.out)
        clear off hw8 HCC BK2 z20 z21 z22 f20 f21 f22
        refine nwp_seq_k fun K7 hK7 => ?_
        obtain ⟨z10, z11, z12, f10, f11, f12⟩ := cz3 BK1.out
        refine nwp_of_wp ?_
        go_wp2_with (first
          | ((with_reducible refine gate_callee (f := 21) rfl ?_); refine goesL_ (some 25) rfl rfl Try.func21 (by kernel_rfl) rfl #[.chan (some ch)] rfl (by (try simp only [List.map_toArray, List.map_cons, List.map_nil]); first | done | rfl) ?_; (with_reducible refine (pipe_rest.calls ch (l0_2.length + 1) r3 (s + 1) 0 _ HC8.out ?side2).mono ?_); (case side2 => rw [← HY.out, List.length_append, List.length_singleton]; omega); rintro e w9 ⟨v9, rfl, hr, hb, hsz⟩; refine ⟨_, rfl, ?_⟩; replace BK1 := Aside0.mk ((hb.block _ N1C.out).trans BK1.out); replace BK3 := Aside0.mk ((hb.block _ N3C.out).trans BK3.out); replace HB := Aside0.mk (HB.out.trans (hb.mono GCH.out)); have HR := Aside0.mk hr; clear hr hb hsz z10 z11 z12 f10 f11 f12 HC8; obtain ⟨Ao, co, eo⟩ := Kd.R_slice HR.out; subst eo; obtain ⟨z10, z11, z12, f10, f11, f12⟩ := cz3 BK1.out))
        obtain ⟨z30, z31, z32, f30, f31, f32⟩ := cz3 BK3.out
        refine nwp_of_wp ?_
        go_wp2
        refine bodyPost_ret (results_ct rfl _ _ g3 31 #[.int .i64 a0_0, .bool false, .slice Ao r3.length co] (0, 0) _ rfl (BP (w := w9.setCell ⟨g1, 2, none⟩ (.slice Ao r3.length co)) (BF BK3.out NB31.out) (by rfl)) Try.underlying31 rfl (by kernel_rfl)) rfl ?_
        exact ⟨_, rfl, Kd.V_mono (Kd.R_V (Kd.R_ms (gs := [g1, g3]) HR.out (fun k hk => N1 (Nat.ne_of_gt (Nat.lt_of_lt_of_le L1.out hk)) (N1 (Nat.ne_of_gt (Nat.lt_of_lt_of_le L3.out hk)) N0)))) (fun k hk => .inr (Nat.le_trans LS.out hk)), LG HB.out (G1 GE1.out (G1 GE3.out G0))⟩
      · rw [if_neg (by simpa using c13)] at h
        exact absurd h (by simp)
end
-- GIVEN pipe_Pipe_Send

/-! ### hopperref08_Take: function 13 -/
def hopperref08_Take.f (a0_0 : Int) (a0_1 : Bool) (l0_2 : List (S26)) : Option (Int × Bool × (List (S26)) × Int × Int × ByteArray × Int) := if (l0_2.length : Int) = 0 then (if a0_1 = true then (some (a0_0, a0_1, l0_2, 0, 0, (⟨#[]⟩ : ByteArray), 8)) else (some (a0_0, a0_1, l0_2, 0, 0, (⟨#[]⟩ : ByteArray), 7))) else (if 0 < (l0_2.length : Int) then ((some (([] : List (S26)) : List (S26))).bind fun y130 => (if 1 ≤ (l0_2.length : Int) then ((some (l0_2.drop 1 : List (S26))).bind fun y133 => (if y130.length + y133.length < 4398046511104 then (some (a0_0, a0_1, (y130 ++ y133), (rd_T26 l0_2 0).f0, (rd_T26 l0_2 0).f1, (rd_T26 l0_2 0).f2, 0)) else (none))) else (none))) else (none))
set_option maxHeartbeats 8000000 in
set_option maxRecDepth 100000 in
theorem hopperref08_Take.calls (a0_0 : Int) (a0_1 : Bool) (P0_2_ : Nat → Prop) (A0_2 : Option Addr) (c0_2 : Nat) (l0_2 : List (S26)) (r1 : Int) (r2 : Bool) (r3 : List (S26)) (r4 : Int) (r5 : Int) (r6 : ByteArray) (r7 : Int) (w : World) (hs0_2 : Kd.V k26 26 w w.heap.size (fun k_ => P0_2_ k_) (.slice A0_2 l0_2.length c0_2) l0_2) (h : hopperref08_Take.f a0_0 a0_1 l0_2 = some (r1, r2, r3, r4, r5, r6, r7)) :
    Calls Try.prog 13 #[.agg #[.int .i64 a0_0, .bool a0_1, .slice A0_2 l0_2.length c0_2]] w fun e w' => ∃ v2_ : Value, e = .returned (.tuple #[.agg #[.int .i64 r1, .bool r2, v2_], .agg #[.int .i64 r4, .int .i64 r5, .string r6], .int .i64 r7]) ∧ Kd.V k26 26 w' w.heap.size (fun k_ => (P0_2_ k_ ∨ w.heap.size ≤ k_)) v2_ r3 ∧ Below w.heap.size w w' := by
  have hu24 := Try.underlying24
  have hu26 := Try.underlying26
  have HO0_2 := Aside0.mk (show Kd.V k26 26 w w.heap.size (fun k_ => (P0_2_ k_ ∨ w.heap.size ≤ k_)) (.slice A0_2 l0_2.length c0_2) l0_2 from Kd.V_mono hs0_2 (fun k_ hk => .inl hk))
  have HB := Aside0.mk (Below.refl w.heap.size w)
  have H : (if (l0_2.length : Int) = 0 then (if a0_1 = true then (some (a0_0, a0_1, l0_2, 0, 0, (⟨#[]⟩ : ByteArray), 8)) else (some (a0_0, a0_1, l0_2, 0, 0, (⟨#[]⟩ : ByteArray), 7))) else (if 0 < (l0_2.length : Int) then ((some (([] : List (S26)) : List (S26))).bind fun y130 => (if 1 ≤ (l0_2.length : Int) then ((some (l0_2.drop 1 : List (S26))).bind fun y133 => (if y130.length + y133.length < 4398046511104 then (some (a0_0, a0_1, (y130 ++ y133), (rd_T26 l0_2 0).f0, (rd_T26 l0_2 0).f1, (rd_T26 l0_2 0).f2, 0)) else (none))) else (none))) else (none))) = some (r1, r2, r3, r4, r5, r6, r7) := h
  clear h
  by_cases c2 : (l0_2.length : Int) = 0
  · rw [if_pos c2] at H
    have c2b0 : ((l0_2.length : Int) == 0) = true := beq_iff_eq.mpr c2
    have c2b1 : ((l0_2.length : Int) != 0) = false := bne_eq_false_iff_eq.mpr c2
    clear c2
    by_cases c3 : a0_1 = true
    · subst c3
      have H1 : (some (a0_0, true, l0_2, 0, 0, (⟨#[]⟩ : ByteArray), 8)) = some (r1, r2, r3, r4, r5, r6, r7) := by rw [if_pos rfl] at H; exact H
      clear H
      have H := H1
      clear H1
      simp only [Option.some.injEq, Prod.mk.injEq] at H
      obtain ⟨rfl, rfl, rfl, rfl, rfl, rfl, rfl⟩ := H
      go_enter Try.func13, Try.ntmps13
      go_wp2_with (first | ((with_reducible refine gate_dst (N := 1) rfl ?_); refine box_event ?hg (N := 1) ?hd (cs := #[.int .i64 a0_0, .bool true, .slice A0_2 l0_2.length c0_2]) (t := 24) ?hr ?_; (case hd => rfl); (case hg => rfl); (case hr => first | (go_simp; done) | (go_simp; rfl)); intro gb125 hg w4 hbox hb; replace HO0_2 := Aside0.mk (Kd.V_below (Kd.V_elderB (Kd.VA HO0_2.out) gb125 (Nat.le_of_eq hg.symm)) hb); have BK125 := Aside0.mk (hbox); have GE125 := Aside0.mk (ge1 hg (LA HB.out)); replace HB := Aside0.mk (below_step (LA HB.out) hb); clear hb hbox hg) | ((with_reducible refine gate_dst (N := 2) rfl ?_); refine box_event ?hg (N := 2) ?hd (cs := #[.int .i64 0, .bool false, .slice none 0 0]) (t := 24) ?hr ?_; (case hd => rfl); (case hg => rfl); (case hr => first | (go_simp; done) | (go_simp; rfl)); intro gb126 hg w5 hbox hb; replace HO0_2 := Aside0.mk (Kd.V_below (Kd.V_elderB (Kd.VA HO0_2.out) gb126 (Nat.le_of_eq hg.symm)) hb); have BK126 := Aside0.mk (hbox); have GE126 := Aside0.mk (ge1 hg (LA HB.out)); replace HB := Aside0.mk (below_step (LA HB.out) hb); have NB125_126 := Aside0.mk ((by rw [hg]; exact Nat.ne_of_lt (blk_lt (g := gb125) (o := .cells #[.int .i64 a0_0, .bool true, .slice A0_2 l0_2.length c0_2] 24 (0, 0)) (BA BK125.out)) : gb125 ≠ gb126)); have NB126_125 := Aside0.mk ((by rw [hg]; exact Nat.ne_of_gt (blk_lt (g := gb125) (o := .cells #[.int .i64 a0_0, .bool true, .slice A0_2 l0_2.length c0_2] 24 (0, 0)) (BA BK125.out)) : gb126 ≠ gb125)); replace BK125 := Aside0.mk (blk_below (BA BK125.out) hb); clear hb hbox hg) | ((with_reducible refine gate_dst (N := 3) rfl ?_); refine box_event ?hg (N := 3) ?hd (cs := #[.int .i64 0, .int .i64 0, .string (⟨#[]⟩ : ByteArray)]) (t := 26) ?hr ?_; (case hd => rfl); (case hg => rfl); (case hr => first | (go_simp; done) | (go_simp; rfl)); intro gb127 hg w6 hbox hb; replace HO0_2 := Aside0.mk (Kd.V_below (Kd.V_elderB (Kd.VA HO0_2.out) gb127 (Nat.le_of_eq hg.symm)) hb); have BK127 := Aside0.mk (hbox); have GE127 := Aside0.mk (ge1 hg (LA HB.out)); replace HB := Aside0.mk (below_step (LA HB.out) hb); have NB125_127 := Aside0.mk ((by rw [hg]; exact Nat.ne_of_lt (blk_lt (g := gb125) (o := .cells #[.int .i64 a0_0, .bool true, .slice A0_2 l0_2.length c0_2] 24 (0, 0)) (BA BK125.out)) : gb125 ≠ gb127)); have NB127_125 := Aside0.mk ((by rw [hg]; exact Nat.ne_of_gt (blk_lt (g := gb125) (o := .cells #[.int .i64 a0_0, .bool true, .slice A0_2 l0_2.length c0_2] 24 (0, 0)) (BA BK125.out)) : gb127 ≠ gb125)); replace BK125 := Aside0.mk (blk_below (BA BK125.out) hb); have NB126_127 := Aside0.mk ((by rw [hg]; exact Nat.ne_of_lt (blk_lt (g := gb126) (o := .cells #[.int .i64 0, .bool false, .slice none 0 0] 24 (0, 0)) (BA BK126.out)) : gb126 ≠ gb127)); have NB127_126 := Aside0.mk ((by rw [hg]; exact Nat.ne_of_gt (blk_lt (g := gb126) (o := .cells #[.int .i64 0, .bool false, .slice none 0 0] 24 (0, 0)) (BA BK126.out)) : gb127 ≠ gb126)); replace BK126 := Aside0.mk (blk_below (BA BK126.out) hb); clear hb hbox hg; have hnb7 := NB125_126.out; have hnc7 := NB126_125.out; have hnb8 := NB125_127.out; have hnc8 := NB127_125.out; obtain ⟨hcz9_0, hcz9_1, hcz9_2, hfz9_0, hfz9_1, hfz9_2⟩ := cz3 BK125.out; have hnb10 := NB126_127.out; have hnc10 := NB127_126.out; obtain ⟨hcz11_0, hcz11_1, hcz11_2, hfz11_0, hfz11_1, hfz11_2⟩ := cz3 BK126.out; obtain ⟨hcz12_0, hcz12_1, hcz12_2, hfz12_0, hfz12_1, hfz12_2⟩ := cz3 BK127.out))
      refine bodyPost_ret (results_list (rs := [.cell 2 24, .cell 3 26, .tmp 4]) rfl (by simp) (.cell gb126 24 #[.int .i64 a0_0, .bool true, .slice A0_2 l0_2.length c0_2] (0, 0) _ rfl (by (with_reducible repeat (first | refine blk_drewN ?_ _ | refine blk_drew ?_ | refine blk_alloc ?_ _)); refine blk_far ?_ NB126_127.out _; (with_reducible repeat (first | refine blk_drewN ?_ _ | refine blk_drew ?_ | refine blk_alloc ?_ _)); refine blk_far ?_ NB126_127.out _; (with_reducible repeat (first | refine blk_drewN ?_ _ | refine blk_drew ?_ | refine blk_alloc ?_ _)); refine blk_far ?_ NB126_127.out _; exact BP BK126.out (by rfl)) Try.underlying24 rfl (by kernel_rfl) (.cell gb127 26 #[.int .i64 0, .int .i64 0, .string (⟨#[]⟩ : ByteArray)] (0, 0) _ rfl (by (with_reducible repeat (first | refine blk_drewN ?_ _ | refine blk_drew ?_ | refine blk_alloc ?_ _)); refine blk_put (cs := #[.int .i64 0, .int .i64 0, .string (⟨#[]⟩ : ByteArray)]) ?_ 2 _ rfl; (with_reducible repeat (first | refine blk_drewN ?_ _ | refine blk_drew ?_ | refine blk_alloc ?_ _)); refine blk_put (cs := #[.int .i64 0, .int .i64 0, .string (⟨#[]⟩ : ByteArray)]) ?_ 1 _ rfl; (with_reducible repeat (first | refine blk_drewN ?_ _ | refine blk_drew ?_ | refine blk_alloc ?_ _)); refine blk_put (cs := #[.int .i64 0, .int .i64 0, .string (⟨#[]⟩ : ByteArray)]) ?_ 0 _ rfl; exact BF BK127.out NB127_126.out) Try.underlying26 rfl (by kernel_rfl) (.tmp .nil)))) rfl ?_
      exact ⟨_, by first | rfl | (simp [errW_none, errW_some] <;> rfl) | (simp [*, errW_none, errW_some] <;> rfl), by (with_reducible repeat (first | apply Kd.V_alloc | apply Kd.V_drewN | apply Kd.V_drew)); exact Kd.V_mono (Kd.V_ms (gs := [gb127, gb126]) (Kd.V_mono (Kd.V_mono HO0_2.out (fun k_ hk => (⟨hk, hk.1.2⟩ : _ ∧ k_ ≠ gb126))) (fun k_ hk => (⟨hk, hk.1.2⟩ : _ ∧ k_ ≠ gb127))) (fun _ hk => N1 (hk.2) (N1 (hk.1.2) (N0)))) (fun _ hk => hk.1.1.1.1.1), LG HB.out (G1 GE125.out (G1 GE126.out (G1 GE127.out G0)))⟩
    · replace c3 := Bool.eq_false_iff.mpr c3
      subst c3
      have H1 : (some (a0_0, false, l0_2, 0, 0, (⟨#[]⟩ : ByteArray), 7)) = some (r1, r2, r3, r4, r5, r6, r7) := by rw [if_neg (show ¬ (false = true) by decide)] at H; exact H
      clear H
      have H := H1
      clear H1
      simp only [Option.some.injEq, Prod.mk.injEq] at H
      obtain ⟨rfl, rfl, rfl, rfl, rfl, rfl, rfl⟩ := H
      go_enter Try.func13, Try.ntmps13
      go_wp2_with (first | ((with_reducible refine gate_dst (N := 1) rfl ?_); refine box_event ?hg (N := 1) ?hd (cs := #[.int .i64 a0_0, .bool false, .slice A0_2 l0_2.length c0_2]) (t := 24) ?hr ?_; (case hd => rfl); (case hg => rfl); (case hr => first | (go_simp; done) | (go_simp; rfl)); intro gb125 hg w13 hbox hb; replace HO0_2 := Aside0.mk (Kd.V_below (Kd.V_elderB (Kd.VA HO0_2.out) gb125 (Nat.le_of_eq hg.symm)) hb); have BK125 := Aside0.mk (hbox); have GE125 := Aside0.mk (ge1 hg (LA HB.out)); replace HB := Aside0.mk (below_step (LA HB.out) hb); clear hb hbox hg) | ((with_reducible refine gate_dst (N := 2) rfl ?_); refine box_event ?hg (N := 2) ?hd (cs := #[.int .i64 0, .bool false, .slice none 0 0]) (t := 24) ?hr ?_; (case hd => rfl); (case hg => rfl); (case hr => first | (go_simp; done) | (go_simp; rfl)); intro gb126 hg w14 hbox hb; replace HO0_2 := Aside0.mk (Kd.V_below (Kd.V_elderB (Kd.VA HO0_2.out) gb126 (Nat.le_of_eq hg.symm)) hb); have BK126 := Aside0.mk (hbox); have GE126 := Aside0.mk (ge1 hg (LA HB.out)); replace HB := Aside0.mk (below_step (LA HB.out) hb); have NB125_126 := Aside0.mk ((by rw [hg]; exact Nat.ne_of_lt (blk_lt (g := gb125) (o := .cells #[.int .i64 a0_0, .bool false, .slice A0_2 l0_2.length c0_2] 24 (0, 0)) (BA BK125.out)) : gb125 ≠ gb126)); have NB126_125 := Aside0.mk ((by rw [hg]; exact Nat.ne_of_gt (blk_lt (g := gb125) (o := .cells #[.int .i64 a0_0, .bool false, .slice A0_2 l0_2.length c0_2] 24 (0, 0)) (BA BK125.out)) : gb126 ≠ gb125)); replace BK125 := Aside0.mk (blk_below (BA BK125.out) hb); clear hb hbox hg) | ((with_reducible refine gate_dst (N := 3) rfl ?_); refine box_event ?hg (N := 3) ?hd (cs := #[.int .i64 0, .int .i64 0, .string (⟨#[]⟩ : ByteArray)]) (t := 26) ?hr ?_; (case hd => rfl); (case hg => rfl); (case hr => first | (go_simp; done) | (go_simp; rfl)); intro gb127 hg w15 hbox hb; replace HO0_2 := Aside0.mk (Kd.V_below (Kd.V_elderB (Kd.VA HO0_2.out) gb127 (Nat.le_of_eq hg.symm)) hb); have BK127 := Aside0.mk (hbox); have GE127 := Aside0.mk (ge1 hg (LA HB.out)); replace HB := Aside0.mk (below_step (LA HB.out) hb); have NB125_127 := Aside0.mk ((by rw [hg]; exact Nat.ne_of_lt (blk_lt (g := gb125) (o := .cells #[.int .i64 a0_0, .bool false, .slice A0_2 l0_2.length c0_2] 24 (0, 0)) (BA BK125.out)) : gb125 ≠ gb127)); have NB127_125 := Aside0.mk ((by rw [hg]; exact Nat.ne_of_gt (blk_lt (g := gb125) (o := .cells #[.int .i64 a0_0, .bool false, .slice A0_2 l0_2.length c0_2] 24 (0, 0)) (BA BK125.out)) : gb127 ≠ gb125)); replace BK125 := Aside0.mk (blk_below (BA BK125.out) hb); have NB126_127 := Aside0.mk ((by rw [hg]; exact Nat.ne_of_lt (blk_lt (g := gb126) (o := .cells #[.int .i64 0, .bool false, .slice none 0 0] 24 (0, 0)) (BA BK126.out)) : gb126 ≠ gb127)); have NB127_126 := Aside0.mk ((by rw [hg]; exact Nat.ne_of_gt (blk_lt (g := gb126) (o := .cells #[.int .i64 0, .bool false, .slice none 0 0] 24 (0, 0)) (BA BK126.out)) : gb127 ≠ gb126)); replace BK126 := Aside0.mk (blk_below (BA BK126.out) hb); clear hb hbox hg; have hnb16 := NB125_126.out; have hnc16 := NB126_125.out; have hnb17 := NB125_127.out; have hnc17 := NB127_125.out; obtain ⟨hcz18_0, hcz18_1, hcz18_2, hfz18_0, hfz18_1, hfz18_2⟩ := cz3 BK125.out; have hnb19 := NB126_127.out; have hnc19 := NB127_126.out; obtain ⟨hcz20_0, hcz20_1, hcz20_2, hfz20_0, hfz20_1, hfz20_2⟩ := cz3 BK126.out; obtain ⟨hcz21_0, hcz21_1, hcz21_2, hfz21_0, hfz21_1, hfz21_2⟩ := cz3 BK127.out))
      refine bodyPost_ret (results_list (rs := [.cell 2 24, .cell 3 26, .tmp 4]) rfl (by simp) (.cell gb126 24 #[.int .i64 a0_0, .bool false, .slice A0_2 l0_2.length c0_2] (0, 0) _ rfl (by (with_reducible repeat (first | refine blk_drewN ?_ _ | refine blk_drew ?_ | refine blk_alloc ?_ _)); refine blk_far ?_ NB126_127.out _; (with_reducible repeat (first | refine blk_drewN ?_ _ | refine blk_drew ?_ | refine blk_alloc ?_ _)); refine blk_far ?_ NB126_127.out _; (with_reducible repeat (first | refine blk_drewN ?_ _ | refine blk_drew ?_ | refine blk_alloc ?_ _)); refine blk_far ?_ NB126_127.out _; exact BP BK126.out (by rfl)) Try.underlying24 rfl (by kernel_rfl) (.cell gb127 26 #[.int .i64 0, .int .i64 0, .string (⟨#[]⟩ : ByteArray)] (0, 0) _ rfl (by (with_reducible repeat (first | refine blk_drewN ?_ _ | refine blk_drew ?_ | refine blk_alloc ?_ _)); refine blk_put (cs := #[.int .i64 0, .int .i64 0, .string (⟨#[]⟩ : ByteArray)]) ?_ 2 _ rfl; (with_reducible repeat (first | refine blk_drewN ?_ _ | refine blk_drew ?_ | refine blk_alloc ?_ _)); refine blk_put (cs := #[.int .i64 0, .int .i64 0, .string (⟨#[]⟩ : ByteArray)]) ?_ 1 _ rfl; (with_reducible repeat (first | refine blk_drewN ?_ _ | refine blk_drew ?_ | refine blk_alloc ?_ _)); refine blk_put (cs := #[.int .i64 0, .int .i64 0, .string (⟨#[]⟩ : ByteArray)]) ?_ 0 _ rfl; exact BF BK127.out NB127_126.out) Try.underlying26 rfl (by kernel_rfl) (.tmp .nil)))) rfl ?_
      exact ⟨_, by first | rfl | (simp [errW_none, errW_some] <;> rfl) | (simp [*, errW_none, errW_some] <;> rfl), by (with_reducible repeat (first | apply Kd.V_alloc | apply Kd.V_drewN | apply Kd.V_drew)); exact Kd.V_mono (Kd.V_ms (gs := [gb127, gb126]) (Kd.V_mono (Kd.V_mono HO0_2.out (fun k_ hk => (⟨hk, hk.1.2⟩ : _ ∧ k_ ≠ gb126))) (fun k_ hk => (⟨hk, hk.1.2⟩ : _ ∧ k_ ≠ gb127))) (fun _ hk => N1 (hk.2) (N1 (hk.1.2) (N0)))) (fun _ hk => hk.1.1.1.1.1), LG HB.out (G1 GE125.out (G1 GE126.out (G1 GE127.out G0)))⟩
  · rw [if_neg c2] at H
    have c2b0 : ((l0_2.length : Int) == 0) = false := beq_eq_false_iff_ne.mpr c2
    have c2b1 : ((l0_2.length : Int) != 0) = true := bne_iff_ne.mpr c2
    have c2b2 : ¬ (l0_2 = []) := fun h_ => c2 (by rw [h_]; rfl)
    by_cases c22 : 0 < (l0_2.length : Int)
    rotate_left
    · rw [if_neg c22] at H
      exact absurd H (by simp)
    rw [if_pos c22] at H
    have c22b0 : decide (0 < (l0_2.length : Int)) = true := decide_eq_true c22
    have c22b1 : decide (0 < l0_2.length) = true := decide_eq_true (by omega)
    clear c22
    obtain ⟨y130, hy130⟩ : ∃ y_ : List (S26), y_ = (([] : List (S26))) := ⟨_, rfl⟩
    replace H : (if 1 ≤ (l0_2.length : Int) then ((some (l0_2.drop 1 : List (S26))).bind fun y133 => (if y130.length + y133.length < 4398046511104 then (some (a0_0, a0_1, (y130 ++ y133), (rd_T26 l0_2 0).f0, (rd_T26 l0_2 0).f1, (rd_T26 l0_2 0).f2, 0)) else (none))) else (none)) = some (r1, r2, r3, r4, r5, r6, r7) := by first | (rw [hy130]; with_reducible exact H) | (have H2_ := (Option.bind_some _ _).symm.trans H; rw [hy130]; with_reducible exact H2_) | (have H2_ := (Option.bind_some _ _).symm.trans H; with_reducible exact H2_) | with_reducible exact H | (rw [hy130]; exact H) | exact H
    have Ny130 := Aside0.mk hy130
    clear hy130
    by_cases c23 : 1 ≤ (l0_2.length : Int)
    rotate_left
    · rw [if_neg c23] at H
      exact absurd H (by simp)
    rw [if_pos c23] at H
    have c23b0 := eq_true c23
    have c23b1 : decide (1 ≤ (l0_2.length : Int)) = true := decide_eq_true c23
    clear c23
    obtain ⟨y133, hy133⟩ : ∃ y_ : List (S26), y_ = (l0_2.drop 1) := ⟨_, rfl⟩
    replace H : (if y130.length + y133.length < 4398046511104 then (some (a0_0, a0_1, (y130 ++ y133), (rd_T26 l0_2 0).f0, (rd_T26 l0_2 0).f1, (rd_T26 l0_2 0).f2, 0)) else (none)) = some (r1, r2, r3, r4, r5, r6, r7) := by first | (rw [hy133]; with_reducible exact H) | (have H2_ := (Option.bind_some _ _).symm.trans H; rw [hy133]; with_reducible exact H2_) | (have H2_ := (Option.bind_some _ _).symm.trans H; with_reducible exact H2_) | with_reducible exact H | (rw [hy133]; exact H) | exact H
    have Ny133 := Aside0.mk hy133
    clear hy133
    by_cases c24 : y130.length + y133.length < 4398046511104
    rotate_left
    · rw [if_neg c24] at H
      exact absurd H (by simp)
    rw [if_pos c24] at H
    have LMc24 := Aside0.mk c24
    clear c24
    obtain ⟨y138, hy138⟩ : ∃ y_ : List (S26), y_ = (y130 ++ y133) := ⟨_, rfl⟩
    replace H : (some (a0_0, a0_1, y138, (rd_T26 l0_2 0).f0, (rd_T26 l0_2 0).f1, (rd_T26 l0_2 0).f2, 0)) = some (r1, r2, r3, r4, r5, r6, r7) := by first | (rw [hy138]; with_reducible exact H) | (have H2_ := (Option.bind_some _ _).symm.trans H; rw [hy138]; with_reducible exact H2_) | (have H2_ := (Option.bind_some _ _).symm.trans H; with_reducible exact H2_) | with_reducible exact H | (rw [hy138]; exact H) | exact H
    have Ny138 := Aside0.mk hy138
    clear hy138
    simp only [Option.some.injEq, Prod.mk.injEq] at H
    obtain ⟨rfl, rfl, rfl, rfl, rfl, rfl, rfl⟩ := H
    go_enter Try.func13, Try.ntmps13
    try go_wp2_with (first | ((with_reducible refine gate_dst (N := 1) rfl ?_); refine box_event ?hg (N := 1) ?hd (cs := #[.int .i64 a0_0, .bool a0_1, .slice A0_2 l0_2.length c0_2]) (t := 24) ?hr ?_; (case hd => rfl); (case hg => rfl); (case hr => first | (go_simp; done) | (go_simp; rfl)); intro gb125 hg w25 hbox hb; replace HO0_2 := Aside0.mk (Kd.V_below (Kd.V_elderB (Kd.VA HO0_2.out) gb125 (Nat.le_of_eq hg.symm)) hb); have BK125 := Aside0.mk (hbox); have GE125 := Aside0.mk (ge1 hg (LA HB.out)); replace HB := Aside0.mk (below_step (LA HB.out) hb); clear hb hbox hg) | ((with_reducible refine gate_dst (N := 2) rfl ?_); refine box_event ?hg (N := 2) ?hd (cs := #[.int .i64 0, .bool false, .slice none 0 0]) (t := 24) ?hr ?_; (case hd => rfl); (case hg => rfl); (case hr => first | (go_simp; done) | (go_simp; rfl)); intro gb126 hg w26 hbox hb; replace HO0_2 := Aside0.mk (Kd.V_below (Kd.V_elderB (Kd.VA HO0_2.out) gb126 (Nat.le_of_eq hg.symm)) hb); have BK126 := Aside0.mk (hbox); have GE126 := Aside0.mk (ge1 hg (LA HB.out)); replace HB := Aside0.mk (below_step (LA HB.out) hb); have NB125_126 := Aside0.mk ((by rw [hg]; exact Nat.ne_of_lt (blk_lt (g := gb125) (o := .cells #[.int .i64 a0_0, .bool a0_1, .slice A0_2 l0_2.length c0_2] 24 (0, 0)) (BA BK125.out)) : gb125 ≠ gb126)); have NB126_125 := Aside0.mk ((by rw [hg]; exact Nat.ne_of_gt (blk_lt (g := gb125) (o := .cells #[.int .i64 a0_0, .bool a0_1, .slice A0_2 l0_2.length c0_2] 24 (0, 0)) (BA BK125.out)) : gb126 ≠ gb125)); replace BK125 := Aside0.mk (blk_below (BA BK125.out) hb); clear hb hbox hg) | ((with_reducible refine gate_dst (N := 3) rfl ?_); refine box_event ?hg (N := 3) ?hd (cs := #[.int .i64 0, .int .i64 0, .string (⟨#[]⟩ : ByteArray)]) (t := 26) ?hr ?_; (case hd => rfl); (case hg => rfl); (case hr => first | (go_simp; done) | (go_simp; rfl)); intro gb127 hg w27 hbox hb; replace HO0_2 := Aside0.mk (Kd.V_below (Kd.V_elderB (Kd.VA HO0_2.out) gb127 (Nat.le_of_eq hg.symm)) hb); have BK127 := Aside0.mk (hbox); have GE127 := Aside0.mk (ge1 hg (LA HB.out)); replace HB := Aside0.mk (below_step (LA HB.out) hb); have NB125_127 := Aside0.mk ((by rw [hg]; exact Nat.ne_of_lt (blk_lt (g := gb125) (o := .cells #[.int .i64 a0_0, .bool a0_1, .slice A0_2 l0_2.length c0_2] 24 (0, 0)) (BA BK125.out)) : gb125 ≠ gb127)); have NB127_125 := Aside0.mk ((by rw [hg]; exact Nat.ne_of_gt (blk_lt (g := gb125) (o := .cells #[.int .i64 a0_0, .bool a0_1, .slice A0_2 l0_2.length c0_2] 24 (0, 0)) (BA BK125.out)) : gb127 ≠ gb125)); replace BK125 := Aside0.mk (blk_below (BA BK125.out) hb); have NB126_127 := Aside0.mk ((by rw [hg]; exact Nat.ne_of_lt (blk_lt (g := gb126) (o := .cells #[.int .i64 0, .bool false, .slice none 0 0] 24 (0, 0)) (BA BK126.out)) : gb126 ≠ gb127)); have NB127_126 := Aside0.mk ((by rw [hg]; exact Nat.ne_of_gt (blk_lt (g := gb126) (o := .cells #[.int .i64 0, .bool false, .slice none 0 0] 24 (0, 0)) (BA BK126.out)) : gb127 ≠ gb126)); replace BK126 := Aside0.mk (blk_below (BA BK126.out) hb); clear hb hbox hg; have hnb28 := NB125_126.out; have hnc28 := NB126_125.out; have hnb29 := NB125_127.out; have hnc29 := NB127_125.out; obtain ⟨hcz30_0, hcz30_1, hcz30_2, hfz30_0, hfz30_1, hfz30_2⟩ := cz3 BK125.out; have p128 : 0 ≤ (0 : Int) := (by omega); have q128 : 0 < (l0_2.length : Int) := of_decide_eq_true (by first | (with_reducible assumption) | assumption); obtain ⟨ad128, e128, hx128_0, hx128_1, hx128_2⟩ := at_T26 (Kd.V_reads' HO0_2.out).2.2 0 p128 q128; cases e128; have qi128 : (0 < l0_2.length) = True := eq_true (by omega); (try rw [show ((0 : Int)).toNat = 0 from rfl] at hx128_0); (try rw [show 0 * 3 = 0 from rfl] at hx128_0); (try rw [Addr.add_zero'] at hx128_0); (try rw [show ((0 : Int)).toNat = 0 from rfl] at hx128_1); (try rw [show 0 * 3 = 0 from rfl] at hx128_1); (try rw [Addr.add_zero'] at hx128_1); (try rw [show ((0 : Int)).toNat = 0 from rfl] at hx128_2); (try rw [show 0 * 3 = 0 from rfl] at hx128_2); (try rw [Addr.add_zero'] at hx128_2); replace p128 := eq_true p128; replace q128 := eq_true q128) | ((with_reducible refine gate_dst (N := 5) rfl ?_); refine box_event ?hg (N := 5) ?hd (cs := #[.int .i64 0, .int .i64 0, .string (⟨#[]⟩ : ByteArray)]) (t := 26) ?hr ?_; (case hd => rfl); (case hg => rfl); (case hr => first | (go_simp; done) | (go_simp; rfl)); intro gb129 hg w31 hbox hb; replace HO0_2 := Aside0.mk (Kd.V_below (Kd.V_elderB (Kd.VA HO0_2.out) gb129 (Nat.le_of_eq hg.symm)) hb); have BK129 := Aside0.mk (hbox); have GE129 := Aside0.mk (ge1 hg (LA HB.out)); replace HB := Aside0.mk (below_step (LA HB.out) hb); have NB125_129 := Aside0.mk ((by rw [hg]; exact Nat.ne_of_lt (blk_lt (g := gb125) (o := .cells #[.int .i64 a0_0, .bool a0_1, .slice (some ad128) l0_2.length c0_2] 24 (0, 0)) (BA BK125.out)) : gb125 ≠ gb129)); have NB129_125 := Aside0.mk ((by rw [hg]; exact Nat.ne_of_gt (blk_lt (g := gb125) (o := .cells #[.int .i64 a0_0, .bool a0_1, .slice (some ad128) l0_2.length c0_2] 24 (0, 0)) (BA BK125.out)) : gb129 ≠ gb125)); replace BK125 := Aside0.mk (blk_below (BA BK125.out) hb); have NB126_129 := Aside0.mk ((by rw [hg]; exact Nat.ne_of_lt (blk_lt (g := gb126) (o := .cells #[.int .i64 0, .bool false, .slice none 0 0] 24 (0, 0)) (BA BK126.out)) : gb126 ≠ gb129)); have NB129_126 := Aside0.mk ((by rw [hg]; exact Nat.ne_of_gt (blk_lt (g := gb126) (o := .cells #[.int .i64 0, .bool false, .slice none 0 0] 24 (0, 0)) (BA BK126.out)) : gb129 ≠ gb126)); replace BK126 := Aside0.mk (blk_below (BA BK126.out) hb); have NB127_129 := Aside0.mk ((by rw [hg]; exact Nat.ne_of_lt (blk_lt (g := gb127) (o := .cells #[.int .i64 0, .int .i64 0, .string (⟨#[]⟩ : ByteArray)] 26 (0, 0)) (BA BK127.out)) : gb127 ≠ gb129)); have NB129_127 := Aside0.mk ((by rw [hg]; exact Nat.ne_of_gt (blk_lt (g := gb127) (o := .cells #[.int .i64 0, .int .i64 0, .string (⟨#[]⟩ : ByteArray)] 26 (0, 0)) (BA BK127.out)) : gb129 ≠ gb127)); replace BK127 := Aside0.mk (blk_below (BA BK127.out) hb); clear hb hbox hg; have hnb32 := NB129_125.out; have hnc32 := NB125_129.out; have hnb33 := NB129_126.out; have hnc33 := NB126_129.out; have hnb34 := NB129_127.out; have hnc34 := NB127_129.out; obtain ⟨hcz35_0, hcz35_1, hcz35_2, hfz35_0, hfz35_1, hfz35_2⟩ := cz3 BK129.out) | ((with_reducible refine gate_dst (N := 20) rfl ?_); refine Kd.R_lit k26 _ 26 ?hg (N := 20) ?hd (xs := ([] : List (S26))) (inner := []) (ok := fun _ => True) (okp := fun _ => True) ?hr ?hp (fun _ hk => hk) trivial (Below.refl _ _) (Nat.le_refl _) (by simp) ?_; (case hd => rfl); (case hg => rfl); (case hr => first | (go_simp; done) | (go_simp; rfl)); (case hp => exact (Reps.none _ _)); intro v131 w36 ho37 hb hg_ hnew_; clear hg_ hnew_; (first | rw [← Ny130.out] at ho37 | (simp only [Int.reduceToNat] at ho37; rw [← Ny130.out] at ho37)); replace HO0_2 := Aside0.mk (Kd.V_elder' ((Kd.V_mono (Kd.V_mv (g := gb129) (Kd.V_mono HO0_2.out (fun k_ hk => (⟨hk, hk.2⟩ : _ ∧ k_ ≠ gb129))) (fun _ hk => hk.2)) (fun _ h_ => h_.1))) (Kd.R_base ho37) hb); have HO132 := Aside0.mk (Kd.R_lower (Kd.R_newB (Kd.R_newB (Kd.R_newM (M := fun k_ => (w.heap.size ≤ k_)) ho37 (below_size (LG HB.out (G1 GE129.out G0))) (fun k_ h_ => h_)) (g := gb127) (o := .cells #[.int .i64 0, .int .i64 0, .string (⟨#[]⟩ : ByteArray)] 26 (0, 0)) (BF BK127.out NB127_129.out)) (g := gb129) (o := .cells #[.int .i64 ((rd_T26 l0_2 0).f0), .int .i64 ((rd_T26 l0_2 0).f1), .string ((rd_T26 l0_2 0).f2)] 26 (0, 0)) (BP BK129.out (by rfl))) (below_size (LG HB.out (G1 GE129.out G0)))); replace BK125 := Aside0.mk (blk_below (BF BK125.out NB125_129.out) hb); replace BK126 := Aside0.mk (blk_below (BF BK126.out NB126_129.out) hb); replace BK127 := Aside0.mk (blk_below (BF BK127.out NB127_129.out) hb); replace BK129 := Aside0.mk (blk_below (g := gb129) (o := .cells #[.int .i64 ((rd_T26 l0_2 0).f0), .int .i64 ((rd_T26 l0_2 0).f1), .string ((rd_T26 l0_2 0).f2)] 26 (0, 0)) (BP BK129.out (by rfl)) hb); replace HB := Aside0.mk (below_step (LG HB.out (G1 GE129.out G0)) hb); clear hb ho37; obtain ⟨hcz38_0, hcz38_1, hcz38_2, hfz38_0, hfz38_1, hfz38_2⟩ := cz3 BK125.out; have q39 : (1 : Int) ≤ ((l0_2.length : Int) : Int) := of_decide_eq_true (by first | (with_reducible assumption) | assumption); obtain ⟨i039, hi039, _, hsz39, _⟩ := info_parts info26; have hroom39 : l0_2.length ≤ c0_2 := (Kd.V_reads' HO0_2.out).2.1; have hC39 : Kd.F k26 _ _ (some ad128) l0_2.length l0_2 := (Kd.V_at (base := w.heap.size) HO0_2.out).2.2; have hcut39 := cut_from (P := Try.prog) 22 26 .i64 Try.underlying22 hi039 3 hsz39 (some ad128) l0_2.length c0_2 1 (by omega) q39; have hr39 := Kd.F_cut (m := (1 : Int).toNat) (c := c0_2) hC39 (by omega) hroom39; obtain ⟨A39, hA39⟩ : ∃ A1, A1 = (if c0_2 = (1 : Int).toNat then (some ad128) else ((some ad128) : Option Addr).map (·.add ((1 : Int).toNat * 3))) := ⟨_, rfl⟩; obtain ⟨c39, hc39⟩ : ∃ c1, c1 = c0_2 - (1 : Int).toNat := ⟨_, rfl⟩; have hy39 : y133.length = l0_2.length - (1 : Int).toNat := (by rw [Ny133.out, List.length_drop] <;> omega); rw [show (l0_2).drop (1 : Int).toNat = y133 from Ny133.out.symm] at hr39; replace hr39 : Kd.F k26 _ _ A39 y133.length y133 := (by rw [hA39]; exact hr39); rw [← hy39, ← hA39, ← hc39] at hcut39; have HO137 := Aside0.mk (show Kd.V k26 26 _ w.heap.size _ (.slice A39 y133.length c39) y133 from Kd.V_mk (by rw [hy39, hc39]; exact Nat.sub_le_sub_right hroom39 _) hr39); have HC137 := Aside0.mk (show y133.length ≤ c39 from by rw [hy39, hc39]; exact Nat.sub_le_sub_right hroom39 _); clear hr39 hC39 hroom39 hi039 hsz39 hc39; have KY39 := Aside0.mk hy39; have KA39 := Aside0.mk hA39; clear hy39 hA39; replace q39 := eq_true q39) | ((with_reducible refine gate_builtin (b := .append) (xs := #[.tmp 20, .tmp 23]) rfl ?_); at_builtin; refine Kd.R_append_rows k26 (w0 := w) w.heap.size rfl (.tmp 20) (.tmp 23) 22 26 (.agg #[(.int .i64 0), (.int .i64 0), (.string ⟨#[]⟩)]) 32 rfl Try.underlying22 info26 rfl (by decide) (by omega) v131 y130 y133 _ _ _ (fun k_ => (w.heap.size ≤ k_) ∧ k_ ≠ gb127 ∧ k_ ≠ gb129) (fun _ => False) rfl rfl ?aO ?aR (fun _ _ h => h) (fun _ h => h.elim) ?aF ?aB ?aS ?aL ?_; (case aR => repeat (first | exact (Kd.V_reads' HO137.out).2.2 | (with_reducible refine Kd.C_alloc ?_ _) | (with_reducible refine Kd.C_drewN ?_ _) | (with_reducible refine Kd.C_drew ?_))); (case aB => exact (LA HB.out)); (case aF => exact (fun k_ hk => ⟨(Nat.le_trans (below_size (LA HB.out)) hk), Kd.freshB (g := gb127) (o := .cells #[.int .i64 0, .int .i64 0, .string (⟨#[]⟩ : ByteArray)] 26 (0, 0)) (BA BK127.out) k_ hk, Kd.freshB (g := gb129) (o := .cells #[.int .i64 ((rd_T26 l0_2 0).f0), .int .i64 ((rd_T26 l0_2 0).f1), .string ((rd_T26 l0_2 0).f2)] 26 (0, 0)) (BA BK129.out) k_ hk⟩)); (case aO => exact (Kd.RA (Kd.R_mono HO132.out (fun _ hk => ⟨hk.1.1.1, ⟨hk.1.2, hk.2⟩⟩)))); (case aS => exact (below_size (LA HB.out))); (case aL => have := LMc24.out; omega); intro v139 w40 ho hb hg hat; rw [← Ny138.out] at ho; replace HO0_2 := Aside0.mk (Kd.V_afterv (ok := (fun k_ => (P0_2_ k_ ∨ w.heap.size ≤ k_) ∧ k_ ≠ gb125 ∧ k_ ≠ gb126 ∧ k_ ≠ gb127 ∧ k_ ≠ gb129)) (Kd.VA (Kd.V_mono HO0_2.out (fun _ hk => ⟨⟨hk.1.1.1.1.1, ⟨hk.1.1.1.1.2, ⟨hk.1.1.1.2, ⟨hk.1.1.2, hk.1.2⟩⟩⟩⟩, hk.2⟩))) hg hat); replace BK125 := Aside0.mk (blk_grown (g := gb125) (o := .cells #[.int .i64 a0_0, .bool a0_1, .slice (some ad128) l0_2.length c0_2] 24 (0, 0)) (BA BK125.out) hg (Kd.R_ne HO132.out BK125.out (by decide))); replace BK126 := Aside0.mk (blk_grown (g := gb126) (o := .cells #[.int .i64 0, .bool false, .slice none 0 0] 24 (0, 0)) (BA BK126.out) hg (Kd.R_ne HO132.out BK126.out (by decide))); replace BK127 := Aside0.mk (blk_grown (g := gb127) (o := .cells #[.int .i64 0, .int .i64 0, .string (⟨#[]⟩ : ByteArray)] 26 (0, 0)) (BA BK127.out) hg (Kd.R_away HO132.out (fun _ hk => hk.1.2))); replace BK129 := Aside0.mk (blk_grown (g := gb129) (o := .cells #[.int .i64 ((rd_T26 l0_2 0).f0), .int .i64 ((rd_T26 l0_2 0).f1), .string ((rd_T26 l0_2 0).f2)] 26 (0, 0)) (BA BK129.out) hg (Kd.R_away HO132.out (fun _ hk => hk.2))); replace HO137 := Aside0.mk (Kd.V_afterv (ok := (fun k_ => (P0_2_ k_ ∨ w.heap.size ≤ k_) ∧ k_ ≠ gb125 ∧ k_ ≠ gb126 ∧ k_ ≠ gb127 ∧ k_ ≠ gb129)) (Kd.VA (Kd.V_mono HO137.out (fun _ hk => ⟨⟨hk.1.1.1.1.1, ⟨hk.1.1.1.1.2, ⟨hk.1.1.1.2, ⟨hk.1.1.2, hk.1.2⟩⟩⟩⟩, hk.2⟩))) hg hat); replace HB := Aside0.mk (hb); have HO140 := Aside0.mk (ho); clear HO132; clear ho hb hg hat; obtain ⟨Ao41, co41, eo41⟩ := Kd.R_slice HO140.out; subst eo41; obtain ⟨hcz42_0, hcz42_1, hcz42_2, hfz42_0, hfz42_1, hfz42_2⟩ := cz3 BK125.out))
    have n0_ : Aside0 (Kd.V k26 26 (w40.setCell ⟨gb125, 2, none⟩ (.slice Ao41 y138.length co41)) w.heap.size (fun k_ => (P0_2_ k_ ∨ w.heap.size ≤ k_) ∧ some k_ ≠ (.slice Ao41 y138.length co41 : Value).ownBlock ∧ k_ ≠ gb125 ∧ k_ ≠ gb126 ∧ k_ ≠ gb127 ∧ k_ ≠ gb129) (.slice (some ad128) l0_2.length c0_2) l0_2) := ⟨by (with_reducible repeat (first | apply Kd.V_alloc | apply Kd.V_drewN | apply Kd.V_drew)); exact Kd.V_mono (Kd.V_far (p := ⟨gb125, 2, none⟩) (Kd.V_mono HO0_2.out (fun k_ hk => (⟨hk, hk.1.2.1⟩ : _ ∧ k_ ≠ gb125))) (fun _ hk => hk.2) (.slice Ao41 y138.length co41)) (fun _ hk => ⟨hk.1.1.1, ⟨hk.1.2, ⟨hk.1.1.2.1, ⟨hk.1.1.2.2.1, ⟨hk.1.1.2.2.2.1, hk.1.1.2.2.2.2⟩⟩⟩⟩⟩)⟩
    have n1_ : Aside0 (Kd.V k26 26 (w40.setCell ⟨gb125, 2, none⟩ (.slice Ao41 y138.length co41)) w.heap.size (fun k_ => (P0_2_ k_ ∨ w.heap.size ≤ k_) ∧ some k_ ≠ (.slice Ao41 y138.length co41 : Value).ownBlock ∧ k_ ≠ gb125 ∧ k_ ≠ gb126 ∧ k_ ≠ gb127 ∧ k_ ≠ gb129) (.slice A39 y133.length c39) y133) := ⟨by (with_reducible repeat (first | apply Kd.V_alloc | apply Kd.V_drewN | apply Kd.V_drew)); exact Kd.V_mono (Kd.V_far (p := ⟨gb125, 2, none⟩) (Kd.V_mono HO137.out (fun k_ hk => (⟨hk, hk.1.2.1⟩ : _ ∧ k_ ≠ gb125))) (fun _ hk => hk.2) (.slice Ao41 y138.length co41)) (fun _ hk => ⟨hk.1.1.1, ⟨hk.1.2, ⟨hk.1.1.2.1, ⟨hk.1.1.2.2.1, ⟨hk.1.1.2.2.2.1, hk.1.1.2.2.2.2⟩⟩⟩⟩⟩)⟩
    have n2_ : Aside0 (Kd.R k26 26 (w40.setCell ⟨gb125, 2, none⟩ (.slice Ao41 y138.length co41)) w.heap.size (fun k_ => (w.heap.size ≤ k_) ∧ k_ ≠ gb127 ∧ k_ ≠ gb129) (.slice Ao41 y138.length co41) y138) := ⟨by (with_reducible repeat (first | apply Kd.R_alloc | apply Kd.R_drewN | apply Kd.R_drew)); exact Kd.R_mono (Kd.R_far (p := ⟨gb125, 2, none⟩) (Kd.R_types HO140.out BK125.out (by decide)) (fun _ hk => hk.2) (.slice Ao41 y138.length co41)) (fun _ hk => ⟨hk.1.1, ⟨hk.1.2.1, hk.1.2.2⟩⟩)⟩
    have n3_ : Aside0 ((w40.setCell ⟨gb125, 2, none⟩ (.slice Ao41 y138.length co41)).heap[gb125]? = some (.cells #[.int .i64 a0_0, .bool a0_1, .slice Ao41 y138.length co41] 24 (0, 0))) := ⟨by (with_reducible repeat (first | refine blk_drewN ?_ _ | refine blk_drew ?_ | refine blk_alloc ?_ _)); refine blk_put (cs := #[.int .i64 a0_0, .bool a0_1, .slice (some ad128) l0_2.length c0_2]) ?_ 2 _ rfl; (with_reducible repeat (first | refine blk_drewN ?_ _ | refine blk_drew ?_ | refine blk_alloc ?_ _)); exact BK125.out⟩
    have n4_ : Aside0 ((w40.setCell ⟨gb125, 2, none⟩ (.slice Ao41 y138.length co41)).heap[gb126]? = some (.cells #[.int .i64 0, .bool false, .slice none 0 0] 24 (0, 0))) := ⟨by exact BF BK126.out NB126_125.out⟩
    have n5_ : Aside0 ((w40.setCell ⟨gb125, 2, none⟩ (.slice Ao41 y138.length co41)).heap[gb127]? = some (.cells #[.int .i64 0, .int .i64 0, .string (⟨#[]⟩ : ByteArray)] 26 (0, 0))) := ⟨by exact BF BK127.out NB127_125.out⟩
    have n6_ : Aside0 ((w40.setCell ⟨gb125, 2, none⟩ (.slice Ao41 y138.length co41)).heap[gb129]? = some (.cells #[.int .i64 ((rd_T26 l0_2 0).f0), .int .i64 ((rd_T26 l0_2 0).f1), .string ((rd_T26 l0_2 0).f2)] 26 (0, 0))) := ⟨by exact BF BK129.out NB129_125.out⟩
    have n7_ : Aside0 (Below w.heap.size w (w40.setCell ⟨gb125, 2, none⟩ (.slice Ao41 y138.length co41))) := ⟨LG HB.out (G1 GE125.out (G1 GE126.out (G1 GE127.out (G1 GE129.out G0))))⟩
    (try clear HO0_2)
    (try clear HO137)
    (try clear HO140)
    (try clear BK125)
    (try clear BK126)
    (try clear BK127)
    (try clear BK129)
    (try clear HB)
    generalize (w40.setCell ⟨gb125, 2, none⟩ (.slice Ao41 y138.length co41)) = w43 at n0_ n1_ n2_ n3_ n4_ n5_ n6_ n7_ ⊢
    have HO0_2 := n0_
    have HO137 := n1_
    have HO140 := n2_
    have BK125 := n3_
    have BK126 := n4_
    have BK127 := n5_
    have BK129 := n6_
    have HB := n7_
    clear n0_ n1_ n2_ n3_ n4_ n5_ n6_ n7_
    have n0_ := Aside0.mk (Kd.V_drew HO0_2.out)
    have n1_ := Aside0.mk (Kd.V_drew HO137.out)
    have n2_ := Aside0.mk (Kd.R_drew HO140.out)
    have n3_ := Aside0.mk (blk_drew BK125.out)
    have n4_ := Aside0.mk (blk_drew BK126.out)
    have n5_ := Aside0.mk (blk_drew BK127.out)
    have n6_ := Aside0.mk (blk_drew BK129.out)
    have n7_ := Aside0.mk (below_drew1 HB.out)
    clear HO0_2
    clear HO137
    clear HO140
    clear BK125
    clear BK126
    clear BK127
    clear BK129
    clear HB
    have HO0_2 := n0_
    have HO137 := n1_
    have HO140 := n2_
    have BK125 := n3_
    have BK126 := n4_
    have BK127 := n5_
    have BK129 := n6_
    have HB := n7_
    clear n0_ n1_ n2_ n3_ n4_ n5_ n6_ n7_
    refine start_ (n := 5) (S := fun w' => w'.cell? ⟨gb125, 0, none⟩ = some (.int .i64 a0_0) ∧ w'.cell? ⟨gb125, 1, none⟩ = some (.bool a0_1) ∧ w'.cell? ⟨gb125, 2, none⟩ = some (.slice Ao41 y138.length co41) ∧ w'.cell? ⟨gb129, 0, none⟩ = some (.int .i64 ((rd_T26 l0_2 0).f0)) ∧ w'.cell? ⟨gb129, 1, none⟩ = some (.int .i64 ((rd_T26 l0_2 0).f1)) ∧ w'.cell? ⟨gb129, 2, none⟩ = some (.string ((rd_T26 l0_2 0).f2))) (ds := []) #[false, false, false, false, false] (by kernel_rfl) rfl rfl ⟨(blk_cell BK125.out 0).trans rfl, (blk_cell BK125.out 1).trans rfl, (blk_cell BK125.out 2).trans rfl, (blk_cell BK129.out 0).trans rfl, (blk_cell BK129.out 1).trans rfl, (blk_cell BK129.out 2).trans rfl⟩ (fun hHeld => ?_)
    generalize w43.drew = w44 at HO0_2 HO137 HO140 BK125 BK126 BK127 BK129 HB hHeld ⊢
    refine take_ (i := 0) (N := some 26) (v := ?_) (a' := ?_) #[true, false, false, false, false] rfl rfl (by kernel_rfl) (fun _ _ _ h => h) (Or.inl ⟨by rfl, ?_⟩) hHeld ?_ ?_
    rotate_left
    · rintro w' ⟨s0, s1, s2, s3, s4, s5⟩
      go_simp
      with_reducible rfl
    rotate_left
    · simp only [Act.put, PU, i64_w, i32_w]
      rfl
    refine take_ (i := 1) (N := some 27) (v := ?_) (a' := ?_) #[true, true, false, false, false] rfl rfl (by kernel_rfl) (fun _ _ _ h => h) (Or.inl ⟨by rfl, ?_⟩) hHeld ?_ ?_
    rotate_left
    · rintro w' ⟨s0, s1, s2, s3, s4, s5⟩
      go_simp
      with_reducible rfl
    rotate_left
    · simp only [Act.put, PU, i64_w, i32_w]
      rfl
    refine one_ (i := 2) (N := none) #[true, true, true, false, false] rfl rfl (by kernel_rfl) (by decide) (fun K hK => ?_)
    have hs45 : w44.cell? ⟨gb126, 0, none⟩ = some (.int .i64 0) := (blk_cell BK126.out 0).trans rfl
    have hfs45 := blk_frozen BK126.out 0
    have hns45_0 := NB125_126.out
    have hns45_2 := NB127_126.out
    have hns45_3 := NB129_126.out
    have hms45_0 := NB126_125.out
    have hms45_2 := NB126_127.out
    have hms45_3 := NB126_129.out
    have hs46 : w44.cell? ⟨gb126, 1, none⟩ = some (.bool false) := (blk_cell BK126.out 1).trans rfl
    have hfs46 := blk_frozen BK126.out 1
    have hns46_0 := NB125_126.out
    have hns46_2 := NB127_126.out
    have hns46_3 := NB129_126.out
    have hms46_0 := NB126_125.out
    have hms46_2 := NB126_127.out
    have hms46_3 := NB126_129.out
    have hs47 : w44.cell? ⟨gb126, 2, none⟩ = some (.slice none 0 0) := (blk_cell BK126.out 2).trans rfl
    have hfs47 := blk_frozen BK126.out 2
    have hns47_0 := NB125_126.out
    have hns47_2 := NB127_126.out
    have hns47_3 := NB129_126.out
    have hms47_0 := NB126_125.out
    have hms47_2 := NB126_127.out
    have hms47_3 := NB126_129.out
    refine skip_ (w1 := ?_) (by rfl) rfl ?_ ?_
    rotate_left
    · go_simp
      rfl
    refine hK.out _ _ ⟨((cell_far (p := ⟨gb126, _, none⟩) NB125_126.out _).trans (((cell_far (p := ⟨gb126, _, none⟩) NB125_126.out _).trans (((cell_far (p := ⟨gb126, _, none⟩) NB125_126.out _).trans (hHeld.1)))))), ((cell_far (p := ⟨gb126, _, none⟩) NB125_126.out _).trans (((cell_far (p := ⟨gb126, _, none⟩) NB125_126.out _).trans (((cell_far (p := ⟨gb126, _, none⟩) NB125_126.out _).trans (hHeld.2.1)))))), ((cell_far (p := ⟨gb126, _, none⟩) NB125_126.out _).trans (((cell_far (p := ⟨gb126, _, none⟩) NB125_126.out _).trans (((cell_far (p := ⟨gb126, _, none⟩) NB125_126.out _).trans (hHeld.2.2.1)))))), ((cell_far (p := ⟨gb126, _, none⟩) NB129_126.out _).trans (((cell_far (p := ⟨gb126, _, none⟩) NB129_126.out _).trans (((cell_far (p := ⟨gb126, _, none⟩) NB129_126.out _).trans (hHeld.2.2.2.1)))))), ((cell_far (p := ⟨gb126, _, none⟩) NB129_126.out _).trans (((cell_far (p := ⟨gb126, _, none⟩) NB129_126.out _).trans (((cell_far (p := ⟨gb126, _, none⟩) NB129_126.out _).trans (hHeld.2.2.2.2.1)))))), ((cell_far (p := ⟨gb126, _, none⟩) NB129_126.out _).trans (((cell_far (p := ⟨gb126, _, none⟩) NB129_126.out _).trans (((cell_far (p := ⟨gb126, _, none⟩) NB129_126.out _).trans (hHeld.2.2.2.2.2))))))⟩ (fun hHeld => ?_)
    clear hK K
    refine one_ (i := 3) (N := none) #[true, true, true, true, false] rfl rfl (by kernel_rfl) (by decide) (fun K hK => ?_)
    have hs48 : w44.cell? ⟨gb127, 0, none⟩ = some (.int .i64 0) := (blk_cell BK127.out 0).trans rfl
    have hfs48 := blk_frozen BK127.out 0
    have hns48_0 := NB125_127.out
    have hns48_1 := NB126_127.out
    have hns48_3 := NB129_127.out
    have hms48_0 := NB127_125.out
    have hms48_1 := NB127_126.out
    have hms48_3 := NB127_129.out
    have hs49 : w44.cell? ⟨gb127, 1, none⟩ = some (.int .i64 0) := (blk_cell BK127.out 1).trans rfl
    have hfs49 := blk_frozen BK127.out 1
    have hns49_0 := NB125_127.out
    have hns49_1 := NB126_127.out
    have hns49_3 := NB129_127.out
    have hms49_0 := NB127_125.out
    have hms49_1 := NB127_126.out
    have hms49_3 := NB127_129.out
    have hs50 : w44.cell? ⟨gb127, 2, none⟩ = some (.string (⟨#[]⟩ : ByteArray)) := (blk_cell BK127.out 2).trans rfl
    have hfs50 := blk_frozen BK127.out 2
    have hns50_0 := NB125_127.out
    have hns50_1 := NB126_127.out
    have hns50_3 := NB129_127.out
    have hms50_0 := NB127_125.out
    have hms50_1 := NB127_126.out
    have hms50_3 := NB127_129.out
    refine skip_ (w1 := ?_) (by rfl) rfl ?_ ?_
    rotate_left
    · go_simp
      rfl
    refine hK.out _ _ ⟨((cell_far (p := ⟨gb127, _, none⟩) NB125_127.out _).trans (((cell_far (p := ⟨gb127, _, none⟩) NB125_127.out _).trans (((cell_far (p := ⟨gb127, _, none⟩) NB125_127.out _).trans (hHeld.1)))))), ((cell_far (p := ⟨gb127, _, none⟩) NB125_127.out _).trans (((cell_far (p := ⟨gb127, _, none⟩) NB125_127.out _).trans (((cell_far (p := ⟨gb127, _, none⟩) NB125_127.out _).trans (hHeld.2.1)))))), ((cell_far (p := ⟨gb127, _, none⟩) NB125_127.out _).trans (((cell_far (p := ⟨gb127, _, none⟩) NB125_127.out _).trans (((cell_far (p := ⟨gb127, _, none⟩) NB125_127.out _).trans (hHeld.2.2.1)))))), ((cell_far (p := ⟨gb127, _, none⟩) NB129_127.out _).trans (((cell_far (p := ⟨gb127, _, none⟩) NB129_127.out _).trans (((cell_far (p := ⟨gb127, _, none⟩) NB129_127.out _).trans (hHeld.2.2.2.1)))))), ((cell_far (p := ⟨gb127, _, none⟩) NB129_127.out _).trans (((cell_far (p := ⟨gb127, _, none⟩) NB129_127.out _).trans (((cell_far (p := ⟨gb127, _, none⟩) NB129_127.out _).trans (hHeld.2.2.2.2.1)))))), ((cell_far (p := ⟨gb127, _, none⟩) NB129_127.out _).trans (((cell_far (p := ⟨gb127, _, none⟩) NB129_127.out _).trans (((cell_far (p := ⟨gb127, _, none⟩) NB129_127.out _).trans (hHeld.2.2.2.2.2))))))⟩ (fun hHeld => ?_)
    clear hK K
    refine pure_ (i := 4) (N := some 4) (v := ?_) (a' := ?_) #[true, true, true, true, true] rfl rfl (by kernel_rfl) (fun _ _ _ h => h) (Or.inl ⟨by rfl, ?_⟩) ?_ ?_
    rotate_left
    · intro w'
      go_simp
      with_reducible rfl
    rotate_left
    · simp only [Act.put, PU, i64_w, i32_w]
      rfl
    refine done_ (by kernel_rfl) ?_
    try go_wp2
    refine bodyPost_ret (results_list (rs := [.cell 2 24, .cell 3 26, .tmp 4]) rfl (by simp) (.cell gb126 24 #[.int .i64 a0_0, .bool a0_1, .slice Ao41 y138.length co41] (0, 0) _ rfl (by (with_reducible repeat (first | refine blk_drewN ?_ _ | refine blk_drew ?_ | refine blk_alloc ?_ _)); refine blk_far ?_ NB126_127.out _; (with_reducible repeat (first | refine blk_drewN ?_ _ | refine blk_drew ?_ | refine blk_alloc ?_ _)); refine blk_far ?_ NB126_127.out _; (with_reducible repeat (first | refine blk_drewN ?_ _ | refine blk_drew ?_ | refine blk_alloc ?_ _)); refine blk_far ?_ NB126_127.out _; exact BP BK126.out (by rfl)) Try.underlying24 rfl (by kernel_rfl) (.cell gb127 26 #[.int .i64 ((rd_T26 l0_2 0).f0), .int .i64 ((rd_T26 l0_2 0).f1), .string ((rd_T26 l0_2 0).f2)] (0, 0) _ rfl (by (with_reducible repeat (first | refine blk_drewN ?_ _ | refine blk_drew ?_ | refine blk_alloc ?_ _)); refine blk_put (cs := #[.int .i64 ((rd_T26 l0_2 0).f0), .int .i64 ((rd_T26 l0_2 0).f1), .string (⟨#[]⟩ : ByteArray)]) ?_ 2 _ rfl; (with_reducible repeat (first | refine blk_drewN ?_ _ | refine blk_drew ?_ | refine blk_alloc ?_ _)); refine blk_put (cs := #[.int .i64 ((rd_T26 l0_2 0).f0), .int .i64 0, .string (⟨#[]⟩ : ByteArray)]) ?_ 1 _ rfl; (with_reducible repeat (first | refine blk_drewN ?_ _ | refine blk_drew ?_ | refine blk_alloc ?_ _)); refine blk_put (cs := #[.int .i64 0, .int .i64 0, .string (⟨#[]⟩ : ByteArray)]) ?_ 0 _ rfl; exact BF BK127.out NB127_126.out) Try.underlying26 rfl (by kernel_rfl) (.tmp .nil)))) rfl ?_
    exact ⟨_, by first | rfl | (simp [errW_none, errW_some] <;> rfl) | (simp [*, errW_none, errW_some] <;> rfl), Kd.V_mono (Kd.R_V (Kd.R_mono (Kd.R_ms (gs := [gb127, gb126]) (Kd.R_mono (Kd.R_types HO140.out BK126.out (by decide)) (fun k_ hk => (⟨hk, hk.1.2.1⟩ : _ ∧ k_ ≠ gb127))) (fun _ hk => N1 (hk.2) (N1 (hk.1.2) (N0)))) (fun _ hk => hk.1.1.1))) (fun k_ hk => by first | exact ⟨(.inr (hk.1)), hk.2⟩ | exact (.inr (hk))), LG HB.out (G1 GE125.out (G1 GE126.out (G1 GE127.out (G1 GE129.out G0))))⟩

/-! ### pipe_Item: function 22 -/
def pipe_Item.f (l0 : List (S36)) : Option ((List (S36))) := (some (([] : List (S36)) : List (S36))).bind fun y141 => (if y141.length + l0.length < 4398046511104 then (some (y141 ++ l0)) else (none))
set_option maxHeartbeats 8000000 in
set_option maxRecDepth 100000 in
theorem pipe_Item.calls (A0 : Option Addr) (c0 : Nat) (l0 : List (S36)) (r : List (S36)) (w : World) (hr0 : Kd.C k36 w A0 l0.length l0) (hc0 : l0.length ≤ c0) (h : pipe_Item.f l0 = some r) :
    Calls Try.prog 22 #[.slice A0 l0.length c0] w fun e w' => ∃ v0_ : Value, e = .returned (v0_) ∧ Kd.R k36 36 w' w.heap.size (fun _ => True) v0_ r ∧ Below w.heap.size w w' := by
  have q_nil : ∀ (w : World) (a : Option Addr) (n c n' c' : Nat), (binOp .eql 29 (.slice a n c) (.slice none n' c')).run Try.prog w = .ok (.bool a.isNone) w := fun w a n c n' c' => Lib.run_eql_slice_nil w _ _ a n c n' c' Try.underlying29
  cases A0 with
  | none =>
    have hz : l0 = [] := by
      cases l0 with
      | nil => rfl
      | cons x xs => obtain ⟨ad, e, _⟩ := hr0.2.2 (by simp); cases e
    subst hz
    have hr : r = [] := by
      unfold pipe_Item.f at h
      simp only [Option.bind_some, List.append_nil, List.length_nil] at h
      rw [if_pos (by decide)] at h
      exact (Option.some.inj h).symm
    subst hr
    clear h hr0 hc0
    go_enter Try.func22, Try.ntmps22
    go_wp2
    go_ret
    exact ⟨_, rfl, Kd.R_nil _ _ _ _ _, Below.refl _ _⟩
  | some ad0 =>
      have HR0 := Aside0.mk hr0
      have HC0 := Aside0.mk hc0
      clear hr0 hc0
      have HB := Aside0.mk (Below.refl w.heap.size w)
      have H : ((some (([] : List (S36)) : List (S36))).bind fun y141 => (if y141.length + l0.length < 4398046511104 then (some (y141 ++ l0)) else (none))) = some r := h
      clear h
      obtain ⟨y141, hy141⟩ : ∃ y_ : List (S36), y_ = (([] : List (S36))) := ⟨_, rfl⟩
      replace H : (if y141.length + l0.length < 4398046511104 then (some (y141 ++ l0)) else (none)) = some r := by first | (rw [hy141]; with_reducible exact H) | (have H2_ := (Option.bind_some _ _).symm.trans H; rw [hy141]; with_reducible exact H2_) | (have H2_ := (Option.bind_some _ _).symm.trans H; with_reducible exact H2_) | with_reducible exact H | (rw [hy141]; exact H) | exact H
      have Ny141 := Aside0.mk hy141
      clear hy141
      by_cases c2 : y141.length + l0.length < 4398046511104
      rotate_left
      · rw [if_neg c2] at H
        exact absurd H (by simp)
      rw [if_pos c2] at H
      have LMc2 := Aside0.mk c2
      clear c2
      obtain ⟨y144, hy144⟩ : ∃ y_ : List (S36), y_ = (y141 ++ l0) := ⟨_, rfl⟩
      replace H : (some y144) = some r := by first | (rw [hy144]; with_reducible exact H) | (have H2_ := (Option.bind_some _ _).symm.trans H; rw [hy144]; with_reducible exact H2_) | (have H2_ := (Option.bind_some _ _).symm.trans H; with_reducible exact H2_) | with_reducible exact H | (rw [hy144]; exact H) | exact H
      have Ny144 := Aside0.mk hy144
      clear hy144
      obtain rfl := Option.some.inj H
      go_enter Try.func22, Try.ntmps22
      go_wp2_with (first | ((with_reducible refine gate_dst (N := 5) rfl ?_); refine Kd.R_lit k36 _ 36 ?hg (N := 5) ?hd (xs := ([] : List (S36))) (inner := []) (ok := fun _ => True) (okp := fun _ => True) ?hr ?hp (fun _ hk => hk) trivial (Below.refl _ _) (Nat.le_refl _) (by simp) ?_; (case hd => rfl); (case hg => rfl); (case hr => first | (go_simp; done) | (go_simp; rfl)); (case hp => exact (Reps.none _ _)); intro v142 w3 ho4 hb hg_ hnew_; clear hg_ hnew_; (first | rw [← Ny141.out] at ho4 | (simp only [Int.reduceToNat] at ho4; rw [← Ny141.out] at ho4)); have HO143 := Aside0.mk (Kd.R_lower ho4 (below_size (LA HB.out))); replace HB := Aside0.mk (below_step (LA HB.out) hb); clear hb ho4) | ((with_reducible refine gate_builtin (b := .append) (xs := #[.tmp 5, .tmp 6]) rfl ?_); at_builtin; refine Kd.R_append_rows k36 (w0 := w) w.heap.size rfl (.tmp 5) (.tmp 6) 29 36 (.agg #[(.int .i64 0), (.int .i64 0), (.string ⟨#[]⟩)]) 32 rfl Try.underlying29 info36 rfl (by decide) (by omega) v142 y141 l0 _ _ _ (fun _ => True) (fun _ => False) rfl rfl ?aO ?aR (fun _ _ h => h) (fun _ h => h.elim) ?aF ?aB ?aS ?aL ?_; (case aR => repeat (first | exact (Kd.C_below HR0.out HB.out) | (with_reducible refine Kd.C_alloc ?_ _) | (with_reducible refine Kd.C_drewN ?_ _) | (with_reducible refine Kd.C_drew ?_))); (case aB => exact (LA HB.out)); (case aF => exact (fun _ _ => trivial)); (case aO => exact (Kd.RA HO143.out)); (case aS => exact (below_size (LA HB.out))); (case aL => have := LMc2.out; omega); intro v145 w5 ho hb hg hat; rw [← Ny144.out] at ho; replace HB := Aside0.mk (hb); have HO146 := Aside0.mk (ho); clear HO143; clear ho hb hg hat))
      go_ret
      exact ⟨_, by first | rfl | (simp [errW_none, errW_some] <;> rfl) | (simp [*, errW_none, errW_some] <;> rfl), by (with_reducible repeat (first | apply Kd.R_alloc | apply Kd.R_drewN | apply Kd.R_drew)); exact HO146.out, LA HB.out⟩

-- GIVEN pipe_Item

end Go.Proofs.Ytacncgpnimdfbaa.PPipeThrough
