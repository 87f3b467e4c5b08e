/- What the functions that the law reaches answer, each as a plain Lean function, with a proof that the call in memory comes to that answer. Written by wip/tools/given.py of this session out of the print.py of the kit, with stand-ins for some functions. -/
import Derived.Test.YthmnedlaecekkaaPFeedTellsx0
import Derived.Test.YthmnedlaecekkaaPFeedTellsx1
namespace Go.Proofs.Ythmnedlaecekkaa.PFeedTells
open Go.RowKit Go.Proofs.YthmnedlaecekkaaW.PrintWords Go.Proofs.YthmnedlaecekkaaW.PrintLast Go.Proofs.YthmnedlaecekkaaW.PrintMore
attribute [local go_sem] max2_int min2_int max_two min_two max_three min_three max_four min_four   -- for this text's walks alone
set_option linter.unusedVariables false
set_option linter.unusedSimpArgs false

attribute [local go_sem high] eqA36
/-! ### hopperref14_Tell: function 20 -/
mutual
def hopperref14_Tell.l0 : Nat → List (S36) → Int → Int → List (S36) → Int → Option (Int × (List (S36)) × Int)
  | 0, _, _, _, _, _ => none
  | k + 1, x1, x5, x367000, x367001, x367002 => if x5 < (x1.length : Int) then (if x367002 = 0 then (hopperref14_Tell.j1 k x1 x5 (decide ((x367001.length : Int) < x367000)) x367000 x367001 x367002) else (hopperref14_Tell.j1 k x1 x5 false x367000 x367001 x367002)) else (some (x367000, x367001, x367002))
def hopperref14_Tell.j1 : Nat → List (S36) → Int → Bool → Int → List (S36) → Int → Option (Int × (List (S36)) × Int)
  | 0, _, _, _, _, _, _ => none
  | k + 1, x1, x5, x23, x367000, x367001, x367002 => if x23 = true then ((some (([] : List (S36)) : List (S36))).bind fun y368 => (if y368.length + x367001.length < 1954687338268 then ((some (y368 ++ x367001 : List (S36))).bind fun y371 => (if 0 ≤ x5 then (if x5 < (x1.length : Int) then (if y371.length < 1954687338268 then (hopperref14_Tell.l0 k x1 (wrap64 (x5 + 1)) x367000 (y371 ++ [(⟨(rd_T36 x1 x5).f0, (⟨(rd_T36 x1 x5).f1.f0, (rd_T36 x1 x5).f1.f1, (rd_T36 x1 x5).f1.f2, (rd_T36 x1 x5).f1.f3, (rd_T36 x1 x5).f1.f4, (rd_T36 x1 x5).f1.f5⟩ : S34), (rd_T36 x1 x5).f2⟩ : S36)]) x367002) else (none)) else (none)) else (none))) else (none))) else (if x367002 ≥ 1099511627776 then (hopperref14_Tell.l0 k x1 (wrap64 (x5 + 1)) x367000 x367001 1099511627776) else (hopperref14_Tell.l0 k x1 (wrap64 (x5 + 1)) x367000 x367001 (wrap64 (x367002 + 1))))
end
def hopperref14_Tell.f (k : Nat) (a0_0 : Int) (l0_1 : List (S36)) (a0_2 : Int) (l1 : List (S36)) : Option (Int × (List (S36)) × Int) := hopperref14_Tell.l0 k l1 0 a0_0 l0_1 a0_2
theorem hopperref14_Tell.mono_l : ∀ k, (∀ y0 y1 y2 y3 y4, LeO (hopperref14_Tell.l0 k y0 y1 y2 y3 y4) (hopperref14_Tell.l0 (k + 1) y0 y1 y2 y3 y4)) ∧ (∀ y0 y1 y2 y3 y4 y5, LeO (hopperref14_Tell.j1 k y0 y1 y2 y3 y4 y5) (hopperref14_Tell.j1 (k + 1) y0 y1 y2 y3 y4 y5))
  | 0 => ⟨fun _ _ _ _ _ r h => by simp [hopperref14_Tell.l0] at h, fun _ _ _ _ _ _ r h => by simp [hopperref14_Tell.j1] at h⟩
  | k + 1 => by
    obtain ⟨ih0, ih1⟩ := hopperref14_Tell.mono_l k
    refine ⟨?_, ?_⟩
    · intro y0 y1 y2 y3 y4
      unfold hopperref14_Tell.l0
      repeat' first
      | (with_reducible exact ih0 _ _ _ _ _)
      | (with_reducible exact ih1 _ _ _ _ _ _)
      | (with_reducible exact LeO.refl _)
      | (with_reducible exact LeO.none _)
      | (with_reducible refine LeO.ite ?_ ?_)
      | (with_reducible refine LeO.bind ?_ (fun _ => ?_))
      | exact ih0 _ _ _ _ _
      | exact ih1 _ _ _ _ _ _
      | exact LeO.none _
      | refine LeO.ite ?_ ?_
      | refine LeO.bind ?_ (fun _ => ?_)
    · intro y0 y1 y2 y3 y4 y5
      unfold hopperref14_Tell.j1
      repeat' first
      | (with_reducible exact ih0 _ _ _ _ _)
      | (with_reducible exact ih1 _ _ _ _ _ _)
      | (with_reducible exact LeO.refl _)
      | (with_reducible exact LeO.none _)
      | (with_reducible refine LeO.ite ?_ ?_)
      | (with_reducible refine LeO.bind ?_ (fun _ => ?_))
      | exact ih0 _ _ _ _ _
      | exact ih1 _ _ _ _ _ _
      | exact LeO.none _
      | refine LeO.ite ?_ ?_
      | refine LeO.bind ?_ (fun _ => ?_)
theorem hopperref14_Tell.mono : ∀ a0 a1 a2 a3 k, LeO (hopperref14_Tell.f k a0 a1 a2 a3) (hopperref14_Tell.f (k + 1) a0 a1 a2 a3) := by
  intro a0 a1 a2 a3 k
  obtain ⟨ih0, ih1⟩ := hopperref14_Tell.mono_l k
  unfold hopperref14_Tell.f
  repeat' first
      | (with_reducible exact ih0 _ _ _ _ _)
      | (with_reducible exact ih1 _ _ _ _ _ _)
      | (with_reducible exact LeO.refl _)
      | (with_reducible exact LeO.none _)
      | (with_reducible refine LeO.ite ?_ ?_)
      | (with_reducible refine LeO.bind ?_ (fun _ => ?_))
      | exact ih0 _ _ _ _ _
      | exact ih1 _ _ _ _ _ _
      | exact LeO.none _
      | refine LeO.ite ?_ ?_
      | refine LeO.bind ?_ (fun _ => ?_)
set_option maxHeartbeats 8000000 in
set_option maxRecDepth 100000 in
theorem hopperref14_Tell.calls (k : Nat) (a0_0 : Int) (P0_1_ : Nat → Prop) (A0_1 : Option Addr) (c0_1 : Nat) (l0_1 : List (S36)) (a0_2 : Int) (A1 : Option Addr) (c1 : Nat) (l1 : List (S36)) (r1 : Int) (r2 : List (S36)) (r3 : Int) (w : World) (hs0_1 : Kd.V k36 36 w w.heap.size (fun k_ => P0_1_ k_) (.slice A0_1 l0_1.length c0_1) l0_1) (hr1 : Kd.C k36 w A1 l1.length l1) (hc1 : l1.length ≤ c1) (h : hopperref14_Tell.f k a0_0 l0_1 a0_2 l1 = some (r1, r2, r3)) :
    Calls Try.prog 20 #[.agg #[.int .i64 a0_0, .slice A0_1 l0_1.length c0_1, .int .i64 a0_2], .slice A1 l1.length c1] w fun e w' => ∃ v1_ : Value, e = .returned (.agg #[.int .i64 r1, v1_, .int .i64 r3]) ∧ Kd.V k36 36 w' w.heap.size (fun k_ => (P0_1_ k_ ∨ w.heap.size ≤ k_)) v1_ r2 ∧ Below w.heap.size w w' := by
  have hu24 := Try.underlying24
  have hu36 := Try.underlying36
  have HO0_1 := Aside0.mk (show Kd.V k36 36 w w.heap.size (fun k_ => (P0_1_ k_ ∨ w.heap.size ≤ k_)) (.slice A0_1 l0_1.length c0_1) l0_1 from Kd.V_mono hs0_1 (fun k_ hk => .inl hk))
  have HR1 := Aside0.mk hr1
  have HC1 := Aside0.mk hc1
  clear hr1 hc1
  have HB := Aside0.mk (Below.refl w.heap.size w)
  have H : (hopperref14_Tell.l0 k l1 0 a0_0 l0_1 a0_2) = some (r1, r2, r3) := h
  clear h
  have H' := Aside0.mk H
  clear H
  go_enter Try.func20, Try.ntmps20
  go_wp2_with (first | ((with_reducible refine gate_dst (N := 2) rfl ?_); (try (refine gate_guard (by rfl) ?_; dsimp only)); refine box_event ?hg (N := 2) ?hd (cs := #[.int .i64 a0_0, .slice A0_1 l0_1.length c0_1, .int .i64 a0_2]) (t := 24) ?hr ?_; (case hd => rfl); (case hg => rfl); (case hr => first | (go_simp; done) | (go_simp; rfl)); intro gb366 hg w3 hbox hb; replace HO0_1 := Aside0.mk (Kd.V_below (Kd.V_elderB (Kd.VA HO0_1.out) gb366 (Nat.le_of_eq hg.symm)) hb); have BK366 := Aside0.mk (hbox); have GE366 := Aside0.mk (ge1 hg (LA HB.out)); replace HB := Aside0.mk (below_step (LA HB.out) hb); clear hb hbox hg) | ((with_reducible refine gate_dst (N := 4) rfl ?_); (try (refine gate_guard (by rfl) ?_; dsimp only)); refine box_event ?hg (N := 4) ?hd (cs := #[.int .i64 0, .slice none 0 0, .int .i64 0]) (t := 24) ?hr ?_; (case hd => rfl); (case hg => rfl); (case hr => first | (go_simp; done) | (go_simp; rfl)); intro gb367 hg w4 hbox hb; replace HO0_1 := Aside0.mk (Kd.V_below (Kd.V_elderB (Kd.VA HO0_1.out) gb367 (Nat.le_of_eq hg.symm)) hb); have BK367 := Aside0.mk (hbox); have GE367 := Aside0.mk (ge1 hg (LA HB.out)); replace HB := Aside0.mk (below_step (LA HB.out) hb); have NB366_367 := Aside0.mk ((by rw [hg]; exact Nat.ne_of_lt (blk_lt (g := gb366) (o := .cells #[.int .i64 a0_0, .slice A0_1 l0_1.length c0_1, .int .i64 a0_2] 24 (0, 0)) (BA BK366.out)) : gb366 ≠ gb367)); have NB367_366 := Aside0.mk ((by rw [hg]; exact Nat.ne_of_gt (blk_lt (g := gb366) (o := .cells #[.int .i64 a0_0, .slice A0_1 l0_1.length c0_1, .int .i64 a0_2] 24 (0, 0)) (BA BK366.out)) : gb367 ≠ gb366)); replace BK366 := Aside0.mk (blk_below (BA BK366.out) hb); clear hb hbox hg))
  go_loopg [5] k (fun kq v5 w' => ∃ (x5_1 : Int) (x367001_1 : List (S36)) (x367002_1 : Int) (u367001 : Value), v5 = .int .i64 x5_1 ∧ Aside0 (hopperref14_Tell.l0 kq l1 x5_1 a0_0 x367001_1 x367002_1 = some (r1, r2, r3)) ∧ Aside0 (kq ≤ k) ∧ Aside0 (Kd.V k36 36 w' w.heap.size (fun k_ => (P0_1_ k_ ∨ w.heap.size ≤ k_) ∧ k_ ≠ gb366 ∧ k_ ≠ gb367) u367001 x367001_1) ∧ Aside0 (w'.heap[gb366]? = some (.cells #[.int .i64 a0_0, u367001, .int .i64 x367002_1] 24 (0, 0))) ∧ Aside0 (w'.heap[gb367]? = some (.cells #[.int .i64 0, (.slice none 0 0), .int .i64 0] 24 (0, 0))) ∧ Aside0 (Below w.heap.size w w'))
  case atStart => exact ⟨(0), (l0_1), (a0_2), (.slice A0_1 l0_1.length c0_1), (by first | rfl | (simp; done) | (simp [*]; done)), H', ⟨Nat.le_refl _⟩, ⟨by (with_reducible repeat (first | apply Kd.V_alloc | apply Kd.V_drewN | apply Kd.V_drew)); exact Kd.V_mono HO0_1.out (fun _ hk => ⟨hk.1.1, ⟨hk.1.2, hk.2⟩⟩)⟩, ⟨by (with_reducible repeat (first | refine blk_drewN ?_ _ | refine blk_drew ?_ | refine blk_alloc ?_ _)); exact BK366.out⟩, ⟨by (with_reducible repeat (first | refine blk_drewN ?_ _ | refine blk_drew ?_ | refine blk_alloc ?_ _)); exact BK367.out⟩, ⟨LG HB.out (G1 GE366.out (G1 GE367.out G0))⟩⟩
  case round =>
    clear H'
    try clear c1
    try clear c2
    try clear p2
    obtain ⟨x5_1, x367001_1, x367002_1, u367001, rfl, HA, HK1, HO_367001, BK366, BK367, HB⟩ := hrel
    cases gk with
    | zero => exact absurd HA.out (by simp [hopperref14_Tell.l0])
    | succ k1 =>
      have H := HA.out
      clear HA
      simp only [hopperref14_Tell.l0] at H
      by_cases c5 : x5_1 < (l1.length : Int)
      · rw [if_pos c5] at H
        have c5b0 : decide (x5_1 < (l1.length : Int)) = true := decide_eq_true c5
        clear c5
        have HC6 := Aside0.mk H
        clear H
        go_upto_region 4 with (fail)
        go_cut [23] (fun v23 wc => ∃ (kq : Nat) (x23_5 : Bool), v23 = .bool x23_5 ∧ Aside0 (hopperref14_Tell.j1 kq l1 x5_1 x23_5 a0_0 x367001_1 x367002_1 = some (r1, r2, r3)) ∧ Aside0 (kq ≤ k1) ∧ Aside0 (Kd.V k36 36 wc w.heap.size (fun k_ => (P0_1_ k_ ∨ w.heap.size ≤ k_) ∧ k_ ≠ gb366 ∧ k_ ≠ gb367) u367001 x367001_1) ∧ Aside0 (wc.heap[gb366]? = some (.cells #[.int .i64 a0_0, u367001, .int .i64 x367002_1] 24 (0, 0))) ∧ Aside0 (wc.heap[gb367]? = some (.cells #[.int .i64 0, (.slice none 0 0), .int .i64 0] 24 (0, 0))) ∧ Aside0 (Below w.heap.size w wc))
        case first =>
          have H := HC6.out
          clear HC6
          by_cases c7 : x367002_1 = 0
          · rw [if_pos c7] at H
            have c7b0 : (x367002_1 == 0) = true := beq_iff_eq.mpr c7
            have c7b1 : (x367002_1 != 0) = false := bne_eq_false_iff_eq.mpr c7
            clear c7
            (first | rw [c7b0] | (simp only [i64_w, i32_w]; rw [c7b0]) | skip)
            have H' := Aside0.mk H
            clear H
            have hnb8 := NB366_367.out
            have hnc8 := NB367_366.out
            have hcz9_0 : wr.cell? ⟨gb366, 0, none⟩ = some (.int .i64 a0_0) := (blk_cell BK366.out 0).trans rfl
            have hcz9_1 : wr.cell? ⟨gb366, 1, none⟩ = some (u367001) := (blk_cell BK366.out 1).trans rfl
            have hcz9_2 : wr.cell? ⟨gb366, 2, none⟩ = some (.int .i64 x367002_1) := (blk_cell BK366.out 2).trans rfl
            have hfz9_0 := blk_frozen BK366.out 0
            have hfz9_1 := blk_frozen BK366.out 1
            have hfz9_2 := blk_frozen BK366.out 2
            obtain ⟨Ao10, co10, eo10⟩ := Kd.V_slice HO_367001.out
            subst eo10
            go_wp2
            go_meet
            case rel => exact ⟨_, (decide ((x367001_1.length : Int) < a0_0)), (by first | rfl | (simp; done) | (simp [*]; done)), H', ⟨by have := HK1.out; first | omega | exact Nat.le_refl _⟩, ⟨by (with_reducible repeat (first | apply Kd.V_alloc | apply Kd.V_drewN | apply Kd.V_drew)); exact HO_367001.out⟩, ⟨by (with_reducible repeat (first | refine blk_drewN ?_ _ | refine blk_drew ?_ | refine blk_alloc ?_ _)); exact BK366.out⟩, ⟨by (with_reducible repeat (first | refine blk_drewN ?_ _ | refine blk_drew ?_ | refine blk_alloc ?_ _)); exact BK367.out⟩, ⟨LG HB.out (G1 GE366.out (G1 GE367.out G0))⟩⟩
          · rw [if_neg c7] at H
            have c7b0 : (x367002_1 == 0) = false := beq_eq_false_iff_ne.mpr c7
            have c7b1 : (x367002_1 != 0) = true := bne_iff_ne.mpr c7
            (first | rw [c7b0] | (simp only [i64_w, i32_w]; rw [c7b0]) | skip)
            have H' := Aside0.mk H
            clear H
            have hnb11 := NB366_367.out
            have hnc11 := NB367_366.out
            have hcz12_0 : wr.cell? ⟨gb366, 0, none⟩ = some (.int .i64 a0_0) := (blk_cell BK366.out 0).trans rfl
            have hcz12_1 : wr.cell? ⟨gb366, 1, none⟩ = some (u367001) := (blk_cell BK366.out 1).trans rfl
            have hcz12_2 : wr.cell? ⟨gb366, 2, none⟩ = some (.int .i64 x367002_1) := (blk_cell BK366.out 2).trans rfl
            have hfz12_0 := blk_frozen BK366.out 0
            have hfz12_1 := blk_frozen BK366.out 1
            have hfz12_2 := blk_frozen BK366.out 2
            go_wp2
            go_meet
            case rel => exact ⟨_, (false), (by first | rfl | (simp; done) | (simp [*]; done)), H', ⟨by have := HK1.out; first | omega | exact Nat.le_refl _⟩, ⟨by (with_reducible repeat (first | apply Kd.V_alloc | apply Kd.V_drewN | apply Kd.V_drew)); exact HO_367001.out⟩, ⟨by (with_reducible repeat (first | refine blk_drewN ?_ _ | refine blk_drew ?_ | refine blk_alloc ?_ _)); exact BK366.out⟩, ⟨by (with_reducible repeat (first | refine blk_drewN ?_ _ | refine blk_drew ?_ | refine blk_alloc ?_ _)); exact BK367.out⟩, ⟨LG HB.out (G1 GE366.out (G1 GE367.out G0))⟩⟩
        case rest =>
          clear HC6
          try clear c1
          try clear c2
          try clear p2
          try clear c5
          try clear c5b0
          try clear c7
          try clear c7b0
          try clear c7b1
          try clear c8
          try clear c11
          try clear hcz12_0
          try clear hcz12_1
          try clear hcz12_2
          try clear hcz9_0
          try clear hcz9_1
          try clear hcz9_2
          try clear hfz12_0
          try clear hfz12_1
          try clear hfz12_2
          try clear hfz9_0
          try clear hfz9_1
          try clear hfz9_2
          try clear p2
          obtain ⟨kq, x23_5, rfl, HA, HJ5, HO_367001, BK366, BK367, HB⟩ := hcut
          cases kq with
          | zero => exact absurd HA.out (by simp [hopperref14_Tell.j1])
          | succ kj5 =>
            have H := HA.out
            clear HA
            simp only [hopperref14_Tell.j1] at H
            by_cases c13 : x23_5 = true
            · subst c13
              have H1 : ((some (([] : List (S36)) : List (S36))).bind fun y368 => (if y368.length + x367001_1.length < 1954687338268 then ((some (y368 ++ x367001_1 : List (S36))).bind fun y371 => (if 0 ≤ x5_1 then (if x5_1 < (l1.length : Int) then (if y371.length < 1954687338268 then (hopperref14_Tell.l0 kj5 l1 (wrap64 (x5_1 + 1)) a0_0 (y371 ++ [(⟨(rd_T36 l1 x5_1).f0, (⟨(rd_T36 l1 x5_1).f1.f0, (rd_T36 l1 x5_1).f1.f1, (rd_T36 l1 x5_1).f1.f2, (rd_T36 l1 x5_1).f1.f3, (rd_T36 l1 x5_1).f1.f4, (rd_T36 l1 x5_1).f1.f5⟩ : S34), (rd_T36 l1 x5_1).f2⟩ : S36)]) x367002_1) else (none)) else (none)) else (none))) else (none))) = some (r1, r2, r3) := by rw [if_pos rfl] at H; exact H
              clear H
              have H := H1
              clear H1
              obtain ⟨y368, hy368⟩ : ∃ y_ : List (S36), y_ = (([] : List (S36))) := ⟨_, rfl⟩
              replace H : (if y368.length + x367001_1.length < 1954687338268 then ((some (y368 ++ x367001_1 : List (S36))).bind fun y371 => (if 0 ≤ x5_1 then (if x5_1 < (l1.length : Int) then (if y371.length < 1954687338268 then (hopperref14_Tell.l0 kj5 l1 (wrap64 (x5_1 + 1)) a0_0 (y371 ++ [(⟨(rd_T36 l1 x5_1).f0, (⟨(rd_T36 l1 x5_1).f1.f0, (rd_T36 l1 x5_1).f1.f1, (rd_T36 l1 x5_1).f1.f2, (rd_T36 l1 x5_1).f1.f3, (rd_T36 l1 x5_1).f1.f4, (rd_T36 l1 x5_1).f1.f5⟩ : S34), (rd_T36 l1 x5_1).f2⟩ : S36)]) x367002_1) else (none)) else (none)) else (none))) else (none)) = some (r1, r2, r3) := by first | (rw [hy368]; with_reducible exact H) | (have H2_ := (Option.bind_some _ _).symm.trans H; rw [hy368]; with_reducible exact H2_) | (have H2_ := (Option.bind_some _ _).symm.trans H; with_reducible exact H2_) | with_reducible exact H | (rw [hy368]; exact H) | exact H
              have Ny368 := Aside0.mk hy368
              clear hy368
              by_cases c14 : y368.length + x367001_1.length < 1954687338268
              rotate_left
              · rw [if_neg c14] at H
                exact absurd H (by simp)
              rw [if_pos c14] at H
              have LMc14 := Aside0.mk c14
              clear c14
              obtain ⟨y371, hy371⟩ : ∃ y_ : List (S36), y_ = (y368 ++ x367001_1) := ⟨_, rfl⟩
              replace H : (if 0 ≤ x5_1 then (if x5_1 < (l1.length : Int) then (if y371.length < 1954687338268 then (hopperref14_Tell.l0 kj5 l1 (wrap64 (x5_1 + 1)) a0_0 (y371 ++ [(⟨(rd_T36 l1 x5_1).f0, (⟨(rd_T36 l1 x5_1).f1.f0, (rd_T36 l1 x5_1).f1.f1, (rd_T36 l1 x5_1).f1.f2, (rd_T36 l1 x5_1).f1.f3, (rd_T36 l1 x5_1).f1.f4, (rd_T36 l1 x5_1).f1.f5⟩ : S34), (rd_T36 l1 x5_1).f2⟩ : S36)]) x367002_1) else (none)) else (none)) else (none)) = some (r1, r2, r3) := by first | (rw [hy371]; with_reducible exact H) | (have H2_ := (Option.bind_some _ _).symm.trans H; rw [hy371]; with_reducible exact H2_) | (have H2_ := (Option.bind_some _ _).symm.trans H; with_reducible exact H2_) | with_reducible exact H | (rw [hy371]; exact H) | exact H
              have Ny371 := Aside0.mk hy371
              clear hy371
              by_cases c15 : 0 ≤ x5_1
              rotate_left
              · rw [if_neg c15] at H
                exact absurd H (by simp)
              rw [if_pos c15] at H
              have c15b0 : decide (0 ≤ x5_1) = true := decide_eq_true c15
              clear c15
              by_cases c16 : x5_1 < (l1.length : Int)
              rotate_left
              · rw [if_neg c16] at H
                exact absurd H (by simp)
              rw [if_pos c16] at H
              have c16b0 : decide (x5_1 < (l1.length : Int)) = true := decide_eq_true c16
              clear c16
              by_cases c17 : y371.length < 1954687338268
              rotate_left
              · rw [if_neg c17] at H
                exact absurd H (by simp)
              rw [if_pos c17] at H
              have LMc17 := Aside0.mk c17
              clear c17
              obtain ⟨y375, hy375⟩ : ∃ y_ : List (S36), y_ = (y371 ++ [(⟨(rd_T36 l1 x5_1).f0, (⟨(rd_T36 l1 x5_1).f1.f0, (rd_T36 l1 x5_1).f1.f1, (rd_T36 l1 x5_1).f1.f2, (rd_T36 l1 x5_1).f1.f3, (rd_T36 l1 x5_1).f1.f4, (rd_T36 l1 x5_1).f1.f5⟩ : S34), (rd_T36 l1 x5_1).f2⟩ : S36)]) := ⟨_, rfl⟩
              replace H : (hopperref14_Tell.l0 kj5 l1 (wrap64 (x5_1 + 1)) a0_0 y375 x367002_1) = some (r1, r2, r3) := by first | (rw [hy375]; with_reducible exact H) | (have H2_ := (Option.bind_some _ _).symm.trans H; rw [hy375]; with_reducible exact H2_) | (have H2_ := (Option.bind_some _ _).symm.trans H; with_reducible exact H2_) | with_reducible exact H | (rw [hy375]; exact H) | exact H
              have Ny375 := Aside0.mk hy375
              clear hy375
              have H' := Aside0.mk H
              clear H
              go_wp2_with (first | ((with_reducible refine gate_dst (N := 24) rfl ?_); (try (refine gate_guard (by rfl) ?_; dsimp only)); refine Kd.R_lit k36 _ 36 ?hg (N := 24) ?hd (xs := ([] : List (S36))) (inner := []) (ok := fun _ => True) (okp := fun _ => True) ?hr ?hp (fun _ hk => hk) trivial (Below.refl _ _) (Nat.le_refl _) (by simp) ?_; (case hd => rfl); (case hg => rfl); (case hr => first | (go_simp; done) | (go_simp; rfl)); (case hp => exact (Reps.none _ _)); intro v369 w18 ho19 hb hg_ hnew_; clear hg_ hnew_; (first | rw [← Ny368.out] at ho19 | (simp only [Int.reduceToNat] at ho19; rw [← Ny368.out] at ho19)); replace HO_367001 := Aside0.mk (Kd.V_elder' (Kd.VA HO_367001.out) (Kd.R_base ho19) hb); have HO370 := Aside0.mk (Kd.R_lower (Kd.R_newM (M := fun k_ => (w.heap.size ≤ k_)) ho19 (below_size (LA HB.out)) (fun k_ h_ => h_)) (below_size (LA HB.out))); replace BK366 := Aside0.mk (blk_below (BA BK366.out) hb); replace BK367 := Aside0.mk (blk_below (BA BK367.out) hb); replace HB := Aside0.mk (below_step (LA HB.out) hb); clear hb ho19; have hnb20 := NB366_367.out; have hnc20 := NB367_366.out; obtain ⟨hcz21_0, hcz21_1, hcz21_2, hfz21_0, hfz21_1, hfz21_2⟩ := cz3 BK366.out; obtain ⟨Ao23, co23, eo23⟩ := Kd.V_slice HO_367001.out; subst eo23) | ((with_reducible refine gate_builtin (b := .append) (xs := #[.tmp 24, .tmp 26]) rfl ?_); (try (refine gate_guard (by rfl) ?_; dsimp only)); at_builtin; refine Kd.R_append_rows k36 (w0 := w) w.heap.size rfl (.tmp 24) (.tmp 26) 22 36 (.agg #[(.int .i64 0), (.int .i64 0), (.int .i64 0), (.int .i64 0), (.int .i64 0), (.int .i64 0), (.string ⟨#[]⟩), (.int .i64 0)]) 72 rfl Try.underlying22 info36 rfl (by decide) (by omega) v369 y368 x367001_1 _ _ _ (fun k_ => (w.heap.size ≤ k_)) (fun _ => False) rfl rfl ?aO ?aR (fun _ _ h => h) (fun _ h => h.elim) ?aF ?aB ?aS ?aL ?_; (case aR => repeat (first | exact (Kd.V_reads' HO_367001.out).2.2 | (with_reducible refine Kd.C_alloc ?_ _) | (with_reducible refine Kd.C_drewN ?_ _) | (with_reducible refine Kd.C_drew ?_))); (case aB => exact (LA HB.out)); (case aF => exact (fun k_ hk => (Nat.le_trans (below_size (LA HB.out)) hk))); (case aO => exact (Kd.RA (Kd.R_mono HO370.out (fun _ hk => hk.1)))); (case aS => exact (below_size (LA HB.out))); (case aL => have := LMc14.out; omega); intro v372 w22 ho hb hg hat; rw [← Ny371.out] at ho; replace BK366 := Aside0.mk (blk_grown (g := gb366) (o := .cells #[.int .i64 a0_0, .slice Ao23 x367001_1.length co23, .int .i64 x367002_1] 24 (0, 0)) (BA BK366.out) hg (Kd.R_ne HO370.out BK366.out (by decide))); replace BK367 := Aside0.mk (blk_grown (g := gb367) (o := .cells #[.int .i64 0, .slice none 0 0, .int .i64 0] 24 (0, 0)) (BA BK367.out) hg (Kd.R_ne HO370.out BK367.out (by decide))); replace HB := Aside0.mk (hb); have HO373 := Aside0.mk (ho); clear HO_367001 HO370; clear ho hb hg hat; have p374 : 0 ≤ (x5_1 : Int) := of_decide_eq_true (by first | (with_reducible assumption) | assumption); have q374 : x5_1 < (l1.length : Int) := of_decide_eq_true (by first | (with_reducible assumption) | assumption); obtain ⟨ad374, e374, hx374_0, hx374_1, hx374_2, hx374_3, hx374_4, hx374_5, hx374_6, hx374_7⟩ := at_T36 HR1.out x5_1 p374 q374; cases e374; replace hx374_0 := (HB.out.cell (World.block_lt_of_cell? w _ hx374_0)).trans hx374_0; replace hx374_1 := (HB.out.cell (World.block_lt_of_cell? w _ hx374_1)).trans hx374_1; replace hx374_2 := (HB.out.cell (World.block_lt_of_cell? w _ hx374_2)).trans hx374_2; replace hx374_3 := (HB.out.cell (World.block_lt_of_cell? w _ hx374_3)).trans hx374_3; replace hx374_4 := (HB.out.cell (World.block_lt_of_cell? w _ hx374_4)).trans hx374_4; replace hx374_5 := (HB.out.cell (World.block_lt_of_cell? w _ hx374_5)).trans hx374_5; replace hx374_6 := (HB.out.cell (World.block_lt_of_cell? w _ hx374_6)).trans hx374_6; replace hx374_7 := (HB.out.cell (World.block_lt_of_cell? w _ hx374_7)).trans hx374_7; replace p374 := eq_true p374; replace q374 := eq_true q374) | ((with_reducible refine gate_builtin (b := .append) (xs := #[.tmp 28, .tmp 33]) rfl ?_); (try (refine gate_guard (by rfl) ?_; dsimp only)); at_builtin; refine Kd.R_append k36 (w0 := w) w.heap.size rfl (.tmp 28) (.tmp 33) 22 36 (.agg #[(.int .i64 0), (.int .i64 0), (.int .i64 0), (.int .i64 0), (.int .i64 0), (.int .i64 0), (.string ⟨#[]⟩), (.int .i64 0)]) 72 rfl Try.underlying22 info36 rfl (by decide) (by omega) v372 y371 (⟨(rd_T36 l1 x5_1).f0, (⟨(rd_T36 l1 x5_1).f1.f0, (rd_T36 l1 x5_1).f1.f1, (rd_T36 l1 x5_1).f1.f2, (rd_T36 l1 x5_1).f1.f3, (rd_T36 l1 x5_1).f1.f4, (rd_T36 l1 x5_1).f1.f5⟩ : S34), (rd_T36 l1 x5_1).f2⟩ : S36) [.int .i64 ((rd_T36 l1 x5_1).f0), .int .i64 ((rd_T36 l1 x5_1).f1.f0), .int .i64 ((rd_T36 l1 x5_1).f1.f1), .int .i64 ((rd_T36 l1 x5_1).f1.f2), .int .i64 ((rd_T36 l1 x5_1).f1.f3), .int .i64 ((rd_T36 l1 x5_1).f1.f4), .string ((rd_T36 l1 x5_1).f1.f5), .int .i64 ((rd_T36 l1 x5_1).f2)] (fun k_ => (w.heap.size ≤ k_)) (fun _ => False) rfl rfl ?aP (fun _ hk => hk.elim) ?aF ?aO ?aB ?aS ?aL ?_; (case aP => exact k36_mkM _ _ _ (⟨(rd_T36 l1 x5_1).f0, (⟨(rd_T36 l1 x5_1).f1.f0, (rd_T36 l1 x5_1).f1.f1, (rd_T36 l1 x5_1).f1.f2, (rd_T36 l1 x5_1).f1.f3, (rd_T36 l1 x5_1).f1.f4, (rd_T36 l1 x5_1).f1.f5⟩ : S34), (rd_T36 l1 x5_1).f2⟩ : S36)); (case aB => exact (LA HB.out)); (case aF => exact (fun k_ hk => (Nat.le_trans (below_size (LA HB.out)) hk))); (case aO => exact (Kd.RA HO373.out)); (case aS => exact (below_size (LA HB.out))); (case aL => have := LMc17.out; omega); intro v376 w24 ho hb hg hat; rw [← Ny375.out] at ho; replace BK366 := Aside0.mk (blk_grown (g := gb366) (o := .cells #[.int .i64 a0_0, .slice Ao23 x367001_1.length co23, .int .i64 x367002_1] 24 (0, 0)) (BA BK366.out) hg (Kd.R_ne HO373.out BK366.out (by decide))); replace BK367 := Aside0.mk (blk_grown (g := gb367) (o := .cells #[.int .i64 0, .slice none 0 0, .int .i64 0] 24 (0, 0)) (BA BK367.out) hg (Kd.R_ne HO373.out BK367.out (by decide))); replace HB := Aside0.mk (hb); have HO377 := Aside0.mk (ho); clear HO373; (try clear HO_367001); clear ho hb hg hat; obtain ⟨Ao25, co25, eo25⟩ := Kd.R_slice HO377.out; subst eo25; obtain ⟨hcz26_0, hcz26_1, hcz26_2, hfz26_0, hfz26_1, hfz26_2⟩ := cz3 BK366.out))
              go_roundg kj5
              case measure => have := HK1.out; have := HJ5.out; omega
              case rel => exact ⟨(wrap64 (x5_1 + 1)), (y375), (x367002_1), (.slice Ao25 y375.length co25), (by first | rfl | (simp; done) | (simp [*]; done)), H', ⟨by have := HK1.out; have := HJ5.out; omega⟩, ⟨Kd.V_mono (Kd.R_V (Kd.RA (Kd.R_mono (Kd.R_far (p := ⟨gb366, 1, none⟩) (Kd.R_types (Kd.R_types (Kd.R_types HO377.out BK366.out (by decide)) BK367.out (by decide)) BK366.out (by decide)) (fun _ hk => hk.2) (.slice Ao25 y375.length co25)) (fun _ hk => (And.intro hk.1.1.1 (And.intro hk.1.1.2 hk.1.2)))))) (fun k_ hk => by first | exact ⟨(.inr (hk.1)), hk.2⟩ | exact (.inr (hk)))⟩, ⟨by (with_reducible repeat (first | refine blk_drewN ?_ _ | refine blk_drew ?_ | refine blk_alloc ?_ _)); refine blk_put (cs := #[.int .i64 a0_0, .slice Ao23 x367001_1.length co23, .int .i64 x367002_1]) ?_ 1 _ rfl; (with_reducible repeat (first | refine blk_drewN ?_ _ | refine blk_drew ?_ | refine blk_alloc ?_ _)); exact BK366.out⟩, ⟨by exact BF BK367.out NB367_366.out⟩, ⟨LG HB.out (G1 GE366.out (G1 GE367.out G0))⟩⟩
            · replace c13 := Bool.eq_false_iff.mpr c13
              subst c13
              have H1 : (if x367002_1 ≥ 1099511627776 then (hopperref14_Tell.l0 kj5 l1 (wrap64 (x5_1 + 1)) a0_0 x367001_1 1099511627776) else (hopperref14_Tell.l0 kj5 l1 (wrap64 (x5_1 + 1)) a0_0 x367001_1 (wrap64 (x367002_1 + 1)))) = some (r1, r2, r3) := by rw [if_neg (show ¬ (false = true) by decide)] at H; exact H
              clear H
              have H := H1
              clear H1
              by_cases c27 : x367002_1 ≥ 1099511627776
              · rw [if_pos c27] at H
                have c27b0 : decide (1099511627776 ≤ x367002_1) = true := decide_eq_true c27
                clear c27
                have H' := Aside0.mk H
                clear H
                have hnb28 := NB366_367.out
                have hnc28 := NB367_366.out
                have hcz29_0 : wc.cell? ⟨gb366, 0, none⟩ = some (.int .i64 a0_0) := (blk_cell BK366.out 0).trans rfl
                have hcz29_1 : wc.cell? ⟨gb366, 1, none⟩ = some (u367001) := (blk_cell BK366.out 1).trans rfl
                have hcz29_2 : wc.cell? ⟨gb366, 2, none⟩ = some (.int .i64 x367002_1) := (blk_cell BK366.out 2).trans rfl
                have hfz29_0 := blk_frozen BK366.out 0
                have hfz29_1 := blk_frozen BK366.out 1
                have hfz29_2 := blk_frozen BK366.out 2
                go_wp2
                go_roundg kj5
                case measure => have := HK1.out; have := HJ5.out; omega
                case rel => exact ⟨(wrap64 (x5_1 + 1)), (x367001_1), (1099511627776), (u367001), (by first | rfl | (simp; done) | (simp [*]; done)), H', ⟨by have := HK1.out; have := HJ5.out; omega⟩, ⟨by (with_reducible repeat (first | apply Kd.V_alloc | apply Kd.V_drewN | apply Kd.V_drew)); exact Kd.V_mono (Kd.V_far (p := ⟨gb366, 2, none⟩) (Kd.V_mono HO_367001.out (fun k_ hk => (⟨hk, hk.2.1⟩ : _ ∧ k_ ≠ gb366))) (fun _ hk => hk.2) (.int .i64 1099511627776)) (fun _ hk => ⟨hk.1.1, ⟨hk.1.2.1, hk.1.2.2⟩⟩)⟩, ⟨by (with_reducible repeat (first | refine blk_drewN ?_ _ | refine blk_drew ?_ | refine blk_alloc ?_ _)); refine blk_put (cs := #[.int .i64 a0_0, u367001, .int .i64 x367002_1]) ?_ 2 _ rfl; (with_reducible repeat (first | refine blk_drewN ?_ _ | refine blk_drew ?_ | refine blk_alloc ?_ _)); exact BK366.out⟩, ⟨by exact BF BK367.out NB367_366.out⟩, ⟨LG HB.out (G1 GE366.out (G1 GE367.out G0))⟩⟩
              · rw [if_neg c27] at H
                have c27b0 : decide (1099511627776 ≤ x367002_1) = false := decide_eq_false c27
                clear c27
                have H' := Aside0.mk H
                clear H
                have hnb30 := NB366_367.out
                have hnc30 := NB367_366.out
                have hcz31_0 : wc.cell? ⟨gb366, 0, none⟩ = some (.int .i64 a0_0) := (blk_cell BK366.out 0).trans rfl
                have hcz31_1 : wc.cell? ⟨gb366, 1, none⟩ = some (u367001) := (blk_cell BK366.out 1).trans rfl
                have hcz31_2 : wc.cell? ⟨gb366, 2, none⟩ = some (.int .i64 x367002_1) := (blk_cell BK366.out 2).trans rfl
                have hfz31_0 := blk_frozen BK366.out 0
                have hfz31_1 := blk_frozen BK366.out 1
                have hfz31_2 := blk_frozen BK366.out 2
                go_wp2
                go_roundg kj5
                case measure => have := HK1.out; have := HJ5.out; omega
                case rel => exact ⟨(wrap64 (x5_1 + 1)), (x367001_1), (wrap64 (x367002_1 + 1)), (u367001), (by first | rfl | (simp; done) | (simp [*]; done)), H', ⟨by have := HK1.out; have := HJ5.out; omega⟩, ⟨by (with_reducible repeat (first | apply Kd.V_alloc | apply Kd.V_drewN | apply Kd.V_drew)); exact Kd.V_mono (Kd.V_far (p := ⟨gb366, 2, none⟩) (Kd.V_mono HO_367001.out (fun k_ hk => (⟨hk, hk.2.1⟩ : _ ∧ k_ ≠ gb366))) (fun _ hk => hk.2) (.int .i64 (wrap64 (x367002_1 + 1)))) (fun _ hk => ⟨hk.1.1, ⟨hk.1.2.1, hk.1.2.2⟩⟩)⟩, ⟨by (with_reducible repeat (first | refine blk_drewN ?_ _ | refine blk_drew ?_ | refine blk_alloc ?_ _)); refine blk_put (cs := #[.int .i64 a0_0, u367001, .int .i64 x367002_1]) ?_ 2 _ rfl; (with_reducible repeat (first | refine blk_drewN ?_ _ | refine blk_drew ?_ | refine blk_alloc ?_ _)); exact BK366.out⟩, ⟨by exact BF BK367.out NB367_366.out⟩, ⟨LG HB.out (G1 GE366.out (G1 GE367.out G0))⟩⟩
      · rw [if_neg c5] at H
        have c5b0 : decide (x5_1 < (l1.length : Int)) = false := decide_eq_false c5
        clear c5
        simp only [Option.some.injEq, Prod.mk.injEq] at H
        obtain ⟨rfl, rfl, rfl⟩ := H
        have hnb32 := NB366_367.out
        have hnc32 := NB367_366.out
        have hcz33_0 : wr.cell? ⟨gb366, 0, none⟩ = some (.int .i64 a0_0) := (blk_cell BK366.out 0).trans rfl
        have hcz33_1 : wr.cell? ⟨gb366, 1, none⟩ = some (u367001) := (blk_cell BK366.out 1).trans rfl
        have hcz33_2 : wr.cell? ⟨gb366, 2, none⟩ = some (.int .i64 x367002_1) := (blk_cell BK366.out 2).trans rfl
        have hfz33_0 := blk_frozen BK366.out 0
        have hfz33_1 := blk_frozen BK366.out 1
        have hfz33_2 := blk_frozen BK366.out 2
        have hcz34_0 : wr.cell? ⟨gb367, 0, none⟩ = some (.int .i64 0) := (blk_cell BK367.out 0).trans rfl
        have hcz34_1 : wr.cell? ⟨gb367, 1, none⟩ = some (.slice none 0 0) := (blk_cell BK367.out 1).trans rfl
        have hcz34_2 : wr.cell? ⟨gb367, 2, none⟩ = some (.int .i64 0) := (blk_cell BK367.out 2).trans rfl
        have hfz34_0 := blk_frozen BK367.out 0
        have hfz34_1 := blk_frozen BK367.out 1
        have hfz34_2 := blk_frozen BK367.out 2
        obtain ⟨Ao35, co35, eo35⟩ := Kd.V_slice HO_367001.out
        subst eo35
        go_wp2
        refine bodyPost_ret (results_cell_row rfl _ _ gb367 24 #[.int .i64 a0_0, .slice Ao35 x367001_1.length co35, .int .i64 x367002_1] (0, 0) _ rfl (BP BK367.out (by rfl)) Try.underlying24 rfl (by kernel_rfl)) rfl ?_
        exact ⟨_, by first | rfl | (simp [errW_none, errW_some] <;> rfl) | (simp [*, errW_none, errW_some] <;> rfl), by (with_reducible repeat (first | apply Kd.V_alloc | apply Kd.V_drewN | apply Kd.V_drew)); exact Kd.V_mono (Kd.V_mv (g := gb367) (Kd.V_mono HO_367001.out (fun k_ hk => (⟨hk, hk.2.2⟩ : _ ∧ k_ ≠ gb367))) (fun _ hk => hk.2)) (fun _ hk => hk.1.1), LG HB.out (G1 GE366.out (G1 GE367.out G0))⟩

-- GIVEN hopperref14_Tell

/-! ### hopperref14_Covers: function 22 -/
mutual
def hopperref14_Covers.l0 : Nat → List (S36) → List (S36) → Int → Int → Option (Bool)
  | 0, _, _, _, _ => none
  | k + 1, x0, x1, x5, x6 => if x6 < (x0.length : Int) then (if 0 ≤ x6 then (if ((rd_T36 x0 x6).f0) = 4 then (if ((rd_T36 x0 x6).f2) < 1 then (hopperref14_Covers.j1 k x0 x1 x5 x6 true) else (hopperref14_Covers.j1 k x0 x1 x5 x6 (decide (((rd_T36 x0 x6).f2) > (wrap64 ((x1.length : Int) - x5)))))) else (if x5 ≥ (x1.length : Int) then (some false) else (if 0 ≤ x5 then (if x5 < (x1.length : Int) then (if (!(((rd_T36 x1 x5).f0) == ((rd_T36 x0 x6).f0)) || ((!(((rd_T36 x1 x5).f1.f0) == ((rd_T36 x0 x6).f1.f0)) || (!(((rd_T36 x1 x5).f1.f1) == ((rd_T36 x0 x6).f1.f1)) || (!(((rd_T36 x1 x5).f1.f2) == ((rd_T36 x0 x6).f1.f2)) || (!(((rd_T36 x1 x5).f1.f3) == ((rd_T36 x0 x6).f1.f3)) || (!(((rd_T36 x1 x5).f1.f4) == ((rd_T36 x0 x6).f1.f4)) || (!((((rd_T36 x1 x5).f1.f5).toList) == (((rd_T36 x0 x6).f1.f5).toList)))))))) || (!(((rd_T36 x1 x5).f2) == ((rd_T36 x0 x6).f2))))) = true then (some false) else (hopperref14_Covers.l0 k x0 x1 (wrap64 (x5 + 1)) (wrap64 (x6 + 1)))) else (none)) else (none)))) else (none)) else (some (x5 == (x1.length : Int)))
def hopperref14_Covers.j1 : Nat → List (S36) → List (S36) → Int → Int → Bool → Option (Bool)
  | 0, _, _, _, _, _ => none
  | k + 1, x0, x1, x5, x6, x36 => if x36 = true then (some false) else (if 0 ≤ x6 then (if x6 < (x0.length : Int) then (hopperref14_Covers.l0 k x0 x1 (wrap64 (x5 + ((rd_T36 x0 x6).f2))) (wrap64 (x6 + 1))) else (none)) else (none))
end
def hopperref14_Covers.f (k : Nat) (l0 : List (S36)) (l1 : List (S36)) : Option (Bool) := hopperref14_Covers.l0 k l0 l1 0 0
theorem hopperref14_Covers.mono_l : ∀ k, (∀ y0 y1 y2 y3, LeO (hopperref14_Covers.l0 k y0 y1 y2 y3) (hopperref14_Covers.l0 (k + 1) y0 y1 y2 y3)) ∧ (∀ y0 y1 y2 y3 y4, LeO (hopperref14_Covers.j1 k y0 y1 y2 y3 y4) (hopperref14_Covers.j1 (k + 1) y0 y1 y2 y3 y4))
  | 0 => ⟨fun _ _ _ _ r h => by simp [hopperref14_Covers.l0] at h, fun _ _ _ _ _ r h => by simp [hopperref14_Covers.j1] at h⟩
  | k + 1 => by
    obtain ⟨ih0, ih1⟩ := hopperref14_Covers.mono_l k
    refine ⟨?_, ?_⟩
    · intro y0 y1 y2 y3
      unfold hopperref14_Covers.l0
      repeat' first
      | (with_reducible exact ih0 _ _ _ _)
      | (with_reducible exact ih1 _ _ _ _ _)
      | (with_reducible exact LeO.refl _)
      | (with_reducible exact LeO.none _)
      | (with_reducible refine LeO.ite ?_ ?_)
      | (with_reducible refine LeO.bind ?_ (fun _ => ?_))
      | exact ih0 _ _ _ _
      | exact ih1 _ _ _ _ _
      | exact LeO.none _
      | refine LeO.ite ?_ ?_
      | refine LeO.bind ?_ (fun _ => ?_)
    · intro y0 y1 y2 y3 y4
      unfold hopperref14_Covers.j1
      repeat' first
      | (with_reducible exact ih0 _ _ _ _)
      | (with_reducible exact ih1 _ _ _ _ _)
      | (with_reducible exact LeO.refl _)
      | (with_reducible exact LeO.none _)
      | (with_reducible refine LeO.ite ?_ ?_)
      | (with_reducible refine LeO.bind ?_ (fun _ => ?_))
      | exact ih0 _ _ _ _
      | exact ih1 _ _ _ _ _
      | exact LeO.none _
      | refine LeO.ite ?_ ?_
      | refine LeO.bind ?_ (fun _ => ?_)
theorem hopperref14_Covers.mono : ∀ a0 a1 k, LeO (hopperref14_Covers.f k a0 a1) (hopperref14_Covers.f (k + 1) a0 a1) := by
  intro a0 a1 k
  obtain ⟨ih0, ih1⟩ := hopperref14_Covers.mono_l k
  unfold hopperref14_Covers.f
  repeat' first
      | (with_reducible exact ih0 _ _ _ _)
      | (with_reducible exact ih1 _ _ _ _ _)
      | (with_reducible exact LeO.refl _)
      | (with_reducible exact LeO.none _)
      | (with_reducible refine LeO.ite ?_ ?_)
      | (with_reducible refine LeO.bind ?_ (fun _ => ?_))
      | exact ih0 _ _ _ _
      | exact ih1 _ _ _ _ _
      | exact LeO.none _
      | refine LeO.ite ?_ ?_
      | refine LeO.bind ?_ (fun _ => ?_)
set_option maxHeartbeats 8000000 in
set_option maxRecDepth 100000 in
theorem hopperref14_Covers.calls (k : Nat) (A0 : Option Addr) (c0 : Nat) (l0 : List (S36)) (A1 : Option Addr) (c1 : Nat) (l1 : List (S36)) (r : Bool) (w : World) (hr0 : Kd.C k36 w A0 l0.length l0) (hc0 : l0.length ≤ c0) (hr1 : Kd.C k36 w A1 l1.length l1) (hc1 : l1.length ≤ c1) (h : hopperref14_Covers.f k l0 l1 = some r) :
    Calls Try.prog 22 #[.slice A0 l0.length c0, .slice A1 l1.length c1] w fun e w' => e = .returned (.bool r) ∧ Drawn0 w w' := by
  have hu36 := Try.underlying36
  have HR0 := Aside0.mk hr0
  have HC0 := Aside0.mk hc0
  clear hr0 hc0
  have HR1 := Aside0.mk hr1
  have HC1 := Aside0.mk hc1
  clear hr1 hc1
  have H : (hopperref14_Covers.l0 k l0 l1 0 0) = some r := h
  clear h
  have H' := Aside0.mk H
  clear H
  go_enter Try.func22, Try.ntmps22
  go_wp2
  repeat (go_quiet (fail); try go_wp2)
  go_loopg [5, 6] k (fun kq v5 v6 w' => ∃ (x5_1 : Int) (x6_1 : Int), v5 = .int .i64 x5_1 ∧ v6 = .int .i64 x6_1 ∧ Aside0 (hopperref14_Covers.l0 kq l0 l1 x5_1 x6_1 = some r) ∧ Aside0 (kq ≤ k) ∧ Drawn0 w w')
  case atStart => exact ⟨(0), (0), (by first | rfl | (simp; done) | (simp [*]; done)), (by first | rfl | (simp; done) | (simp [*]; done)), H', ⟨Nat.le_refl _⟩, by repeat (first | exact Drawn0.refl _ | apply Drawn0.step)⟩
  case round =>
    clear H'
    try clear c1
    try clear c2
    try clear p2
    obtain ⟨x5_1, x6_1, rfl, rfl, HA, HK1, ⟨m1, rfl⟩⟩ := hrel
    cases gk with
    | zero => exact absurd HA.out (by simp [hopperref14_Covers.l0])
    | succ k1 =>
      have H := HA.out
      clear HA
      simp only [hopperref14_Covers.l0] at H
      by_cases c3 : x6_1 < (l0.length : Int)
      rotate_left
      · rw [if_neg c3] at H
        have c3b0 : decide (x6_1 < (l0.length : Int)) = false := decide_eq_false c3
        clear c3
        obtain rfl := Option.some.inj H
        go_wp2
        repeat (go_quiet (fail); try go_wp2)
        go_ret
        exact ⟨by first | rfl | (simp; done) | (simp [*]; done), by repeat (first | exact Drawn0.refl _ | apply Drawn0.step)⟩
      rw [if_pos c3] at H
      have c3b0 : decide (x6_1 < (l0.length : Int)) = true := decide_eq_true c3
      clear c3
      by_cases c4 : 0 ≤ x6_1
      rotate_left
      · rw [if_neg c4] at H
        exact absurd H (by simp)
      rw [if_pos c4] at H
      have c4b0 : decide (0 ≤ x6_1) = true := decide_eq_true c4
      clear c4
      by_cases c5 : ((rd_T36 l0 x6_1).f0) = 4
      · rw [if_pos c5] at H
        have c5b0 : (((rd_T36 l0 x6_1).f0) == 4) = true := beq_iff_eq.mpr c5
        have c5b1 : (((rd_T36 l0 x6_1).f0) != 4) = false := bne_eq_false_iff_eq.mpr c5
        clear c5
        have HC6 := Aside0.mk H
        clear H
        have p378 : 0 ≤ (x6_1 : Int) := of_decide_eq_true (by first | (with_reducible assumption) | assumption)
        have q378 : x6_1 < (l0.length : Int) := of_decide_eq_true (by first | (with_reducible assumption) | assumption)
        obtain ⟨ad378, e378, hx378_0, hx378_1, hx378_2, hx378_3, hx378_4, hx378_5, hx378_6, hx378_7⟩ := at_T36 HR0.out x6_1 p378 q378
        cases e378
        replace p378 := eq_true p378
        replace q378 := eq_true q378
        go_upto_region 6 with (fail)
        repeat (go_quiet (fail); go_upto_region 6 with (fail))
        go_cut [36] (fun v36 wc => ∃ (kq : Nat) (x36_5 : Bool), v36 = .bool x36_5 ∧ Aside0 (hopperref14_Covers.j1 kq l0 l1 x5_1 x6_1 x36_5 = some r) ∧ Aside0 (kq ≤ k1) ∧ Drawn0 w wc)
        case first =>
          have H := HC6.out
          clear HC6
          by_cases c7 : ((rd_T36 l0 x6_1).f2) < 1
          · rw [if_pos c7] at H
            have c7b0 : decide (((rd_T36 l0 x6_1).f2) < 1) = true := decide_eq_true c7
            clear c7
            (first | rw [c7b0] | (simp only [i64_w, i32_w]; rw [c7b0]) | skip)
            have H' := Aside0.mk H
            clear H
            have p379 : 0 ≤ (x6_1 : Int) := of_decide_eq_true (by first | (with_reducible assumption) | assumption)
            have q379 : x6_1 < (l0.length : Int) := of_decide_eq_true (by first | (with_reducible assumption) | assumption)
            obtain ⟨ad379, e379, hx379_0, hx379_1, hx379_2, hx379_3, hx379_4, hx379_5, hx379_6, hx379_7⟩ := at_T36 HR0.out x6_1 p379 q379
            obtain rfl : ad378 = ad379 := (by injection e379)
            replace p379 := eq_true p379
            replace q379 := eq_true q379
            go_wp2
            repeat (go_quiet (fail); try go_wp2)
            go_meet
            case rel => exact ⟨_, (true), (by first | rfl | (simp; done) | (simp [*]; done)), H', ⟨by have := HK1.out; first | omega | exact Nat.le_refl _⟩, by repeat (first | exact Drawn0.refl _ | apply Drawn0.step)⟩
          · rw [if_neg c7] at H
            have c7b0 : decide (((rd_T36 l0 x6_1).f2) < 1) = false := decide_eq_false c7
            clear c7
            (first | rw [c7b0] | (simp only [i64_w, i32_w]; rw [c7b0]) | skip)
            have H' := Aside0.mk H
            clear H
            have p379 : 0 ≤ (x6_1 : Int) := of_decide_eq_true (by first | (with_reducible assumption) | assumption)
            have q379 : x6_1 < (l0.length : Int) := of_decide_eq_true (by first | (with_reducible assumption) | assumption)
            obtain ⟨ad379, e379, hx379_0, hx379_1, hx379_2, hx379_3, hx379_4, hx379_5, hx379_6, hx379_7⟩ := at_T36 HR0.out x6_1 p379 q379
            obtain rfl : ad378 = ad379 := (by injection e379)
            replace p379 := eq_true p379
            replace q379 := eq_true q379
            have p380 : 0 ≤ (x6_1 : Int) := of_decide_eq_true (by first | (with_reducible assumption) | assumption)
            have q380 : x6_1 < (l0.length : Int) := of_decide_eq_true (by first | (with_reducible assumption) | assumption)
            obtain ⟨ad380, e380, hx380_0, hx380_1, hx380_2, hx380_3, hx380_4, hx380_5, hx380_6, hx380_7⟩ := at_T36 HR0.out x6_1 p380 q380
            obtain rfl : ad378 = ad380 := (by injection e380)
            replace p380 := eq_true p380
            replace q380 := eq_true q380
            go_wp2
            repeat (go_quiet (fail); try go_wp2)
            go_meet
            case rel => exact ⟨_, (decide (((rd_T36 l0 x6_1).f2) > (wrap64 ((l1.length : Int) - x5_1)))), (by first | rfl | (simp; done) | (simp [*]; done)), H', ⟨by have := HK1.out; first | omega | exact Nat.le_refl _⟩, by repeat (first | exact Drawn0.refl _ | apply Drawn0.step)⟩
        case rest =>
          clear HC6
          try clear c1
          try clear c2
          try clear p2
          try clear c3
          try clear c3b0
          try clear p3
          try clear q3
          try clear hx3
          try clear c4
          try clear c4b0
          try clear c5
          try clear c5b0
          try clear c5b1
          try clear p6
          try clear c7
          try clear c7b0
          try clear hx378_0
          try clear hx378_1
          try clear hx378_2
          try clear hx378_3
          try clear hx378_4
          try clear hx378_5
          try clear hx378_6
          try clear hx378_7
          try clear hx379_0
          try clear hx379_1
          try clear hx379_2
          try clear hx379_3
          try clear hx379_4
          try clear hx379_5
          try clear hx379_6
          try clear hx379_7
          try clear hx380_0
          try clear hx380_1
          try clear hx380_2
          try clear hx380_3
          try clear hx380_4
          try clear hx380_5
          try clear hx380_6
          try clear hx380_7
          try clear p2
          try clear p378
          try clear p379
          try clear p380
          try clear q378
          try clear q379
          try clear q380
          obtain ⟨kq, x36_5, rfl, HA, HJ5, ⟨mc5, rfl⟩⟩ := hcut
          cases kq with
          | zero => exact absurd HA.out (by simp [hopperref14_Covers.j1])
          | succ kj5 =>
            have H := HA.out
            clear HA
            simp only [hopperref14_Covers.j1] at H
            by_cases c8 : x36_5 = true
            · subst c8
              have H1 : (some false) = some r := by rw [if_pos rfl] at H; exact H
              clear H
              have H := H1
              clear H1
              obtain rfl := Option.some.inj H
              go_wp2
              repeat (go_quiet (fail); try go_wp2)
              go_ret
              exact ⟨by first | rfl | (simp; done) | (simp [*]; done), by repeat (first | exact Drawn0.refl _ | apply Drawn0.step)⟩
            · replace c8 := Bool.eq_false_iff.mpr c8
              subst c8
              have H1 : (if 0 ≤ x6_1 then (if x6_1 < (l0.length : Int) then (hopperref14_Covers.l0 kj5 l0 l1 (wrap64 (x5_1 + ((rd_T36 l0 x6_1).f2))) (wrap64 (x6_1 + 1))) else (none)) else (none)) = some r := by rw [if_neg (show ¬ (false = true) by decide)] at H; exact H
              clear H
              have H := H1
              clear H1
              by_cases c9 : 0 ≤ x6_1
              rotate_left
              · rw [if_neg c9] at H
                exact absurd H (by simp)
              rw [if_pos c9] at H
              have c9b0 : decide (0 ≤ x6_1) = true := decide_eq_true c9
              clear c9
              by_cases c10 : x6_1 < (l0.length : Int)
              rotate_left
              · rw [if_neg c10] at H
                exact absurd H (by simp)
              rw [if_pos c10] at H
              have c10b0 : decide (x6_1 < (l0.length : Int)) = true := decide_eq_true c10
              clear c10
              have H' := Aside0.mk H
              clear H
              have p381 : 0 ≤ (x6_1 : Int) := of_decide_eq_true (by first | (with_reducible assumption) | assumption)
              have q381 : x6_1 < (l0.length : Int) := of_decide_eq_true (by first | (with_reducible assumption) | assumption)
              obtain ⟨ad381, e381, hx381_0, hx381_1, hx381_2, hx381_3, hx381_4, hx381_5, hx381_6, hx381_7⟩ := at_T36 HR0.out x6_1 p381 q381
              obtain rfl : ad378 = ad381 := (by injection e381)
              replace p381 := eq_true p381
              replace q381 := eq_true q381
              go_wp2
              repeat (go_quiet (fail); try go_wp2)
              go_roundg kj5
              case measure => have := HK1.out; have := HJ5.out; omega
              case rel => exact ⟨(wrap64 (x5_1 + ((rd_T36 l0 x6_1).f2))), (wrap64 (x6_1 + 1)), (by first | rfl | (simp; done) | (simp [*]; done)), (by first | rfl | (simp; done) | (simp [*]; done)), H', ⟨by have := HK1.out; have := HJ5.out; omega⟩, by repeat (first | exact Drawn0.refl _ | apply Drawn0.step)⟩
      · rw [if_neg c5] at H
        have c5b0 : (((rd_T36 l0 x6_1).f0) == 4) = false := beq_eq_false_iff_ne.mpr c5
        have c5b1 : (((rd_T36 l0 x6_1).f0) != 4) = true := bne_iff_ne.mpr c5
        by_cases c11 : x5_1 ≥ (l1.length : Int)
        · rw [if_pos c11] at H
          have c11b0 : decide ((l1.length : Int) ≤ x5_1) = true := decide_eq_true c11
          clear c11
          obtain rfl := Option.some.inj H
          have p378 : 0 ≤ (x6_1 : Int) := of_decide_eq_true (by first | (with_reducible assumption) | assumption)
          have q378 : x6_1 < (l0.length : Int) := of_decide_eq_true (by first | (with_reducible assumption) | assumption)
          obtain ⟨ad378, e378, hx378_0, hx378_1, hx378_2, hx378_3, hx378_4, hx378_5, hx378_6, hx378_7⟩ := at_T36 HR0.out x6_1 p378 q378
          cases e378
          replace p378 := eq_true p378
          replace q378 := eq_true q378
          go_wp2
          repeat (go_quiet (fail); try go_wp2)
          go_ret
          exact ⟨by first | rfl | (simp; done) | (simp [*]; done), by repeat (first | exact Drawn0.refl _ | apply Drawn0.step)⟩
        · rw [if_neg c11] at H
          have c11b0 : decide ((l1.length : Int) ≤ x5_1) = false := decide_eq_false c11
          clear c11
          by_cases c12 : 0 ≤ x5_1
          rotate_left
          · rw [if_neg c12] at H
            exact absurd H (by simp)
          rw [if_pos c12] at H
          have c12b0 : decide (0 ≤ x5_1) = true := decide_eq_true c12
          clear c12
          by_cases c13 : x5_1 < (l1.length : Int)
          rotate_left
          · rw [if_neg c13] at H
            exact absurd H (by simp)
          rw [if_pos c13] at H
          have c13b0 : decide (x5_1 < (l1.length : Int)) = true := decide_eq_true c13
          clear c13
          by_cases c14 : (!(((rd_T36 l1 x5_1).f0) == ((rd_T36 l0 x6_1).f0)) || ((!(((rd_T36 l1 x5_1).f1.f0) == ((rd_T36 l0 x6_1).f1.f0)) || (!(((rd_T36 l1 x5_1).f1.f1) == ((rd_T36 l0 x6_1).f1.f1)) || (!(((rd_T36 l1 x5_1).f1.f2) == ((rd_T36 l0 x6_1).f1.f2)) || (!(((rd_T36 l1 x5_1).f1.f3) == ((rd_T36 l0 x6_1).f1.f3)) || (!(((rd_T36 l1 x5_1).f1.f4) == ((rd_T36 l0 x6_1).f1.f4)) || (!((((rd_T36 l1 x5_1).f1.f5).toList) == (((rd_T36 l0 x6_1).f1.f5).toList)))))))) || (!(((rd_T36 l1 x5_1).f2) == ((rd_T36 l0 x6_1).f2))))) = true
          · rw [if_pos c14] at H
            have c14b0 : (!(((rd_T36 l1 x5_1).f0) == ((rd_T36 l0 x6_1).f0)) || ((!(((rd_T36 l1 x5_1).f1.f0) == ((rd_T36 l0 x6_1).f1.f0)) || (!(((rd_T36 l1 x5_1).f1.f1) == ((rd_T36 l0 x6_1).f1.f1)) || (!(((rd_T36 l1 x5_1).f1.f2) == ((rd_T36 l0 x6_1).f1.f2)) || (!(((rd_T36 l1 x5_1).f1.f3) == ((rd_T36 l0 x6_1).f1.f3)) || (!(((rd_T36 l1 x5_1).f1.f4) == ((rd_T36 l0 x6_1).f1.f4)) || (!((((rd_T36 l1 x5_1).f1.f5).toList) == (((rd_T36 l0 x6_1).f1.f5).toList)))))))) || (!(((rd_T36 l1 x5_1).f2) == ((rd_T36 l0 x6_1).f2))))) = true := c14
            clear c14
            obtain rfl := Option.some.inj H
            have p378 : 0 ≤ (x6_1 : Int) := of_decide_eq_true (by first | (with_reducible assumption) | assumption)
            have q378 : x6_1 < (l0.length : Int) := of_decide_eq_true (by first | (with_reducible assumption) | assumption)
            obtain ⟨ad378, e378, hx378_0, hx378_1, hx378_2, hx378_3, hx378_4, hx378_5, hx378_6, hx378_7⟩ := at_T36 HR0.out x6_1 p378 q378
            cases e378
            replace p378 := eq_true p378
            replace q378 := eq_true q378
            have p382 : 0 ≤ (x5_1 : Int) := of_decide_eq_true (by first | (with_reducible assumption) | assumption)
            have q382 : x5_1 < (l1.length : Int) := of_decide_eq_true (by first | (with_reducible assumption) | assumption)
            obtain ⟨ad382, e382, hx382_0, hx382_1, hx382_2, hx382_3, hx382_4, hx382_5, hx382_6, hx382_7⟩ := at_T36 HR1.out x5_1 p382 q382
            cases e382
            replace p382 := eq_true p382
            replace q382 := eq_true q382
            have p383 : 0 ≤ (x6_1 : Int) := of_decide_eq_true (by first | (with_reducible assumption) | assumption)
            have q383 : x6_1 < (l0.length : Int) := of_decide_eq_true (by first | (with_reducible assumption) | assumption)
            obtain ⟨ad383, e383, hx383_0, hx383_1, hx383_2, hx383_3, hx383_4, hx383_5, hx383_6, hx383_7⟩ := at_T36 HR0.out x6_1 p383 q383
            obtain rfl : ad378 = ad383 := (by injection e383)
            replace p383 := eq_true p383
            replace q383 := eq_true q383
            go_wp2
            repeat (go_quiet (fail); try go_wp2)
            go_ret
            exact ⟨by first | rfl | (simp; done) | (simp [*]; done), by repeat (first | exact Drawn0.refl _ | apply Drawn0.step)⟩
          · rw [if_neg c14] at H
            have c14b0 : (!(((rd_T36 l1 x5_1).f0) == ((rd_T36 l0 x6_1).f0)) || ((!(((rd_T36 l1 x5_1).f1.f0) == ((rd_T36 l0 x6_1).f1.f0)) || (!(((rd_T36 l1 x5_1).f1.f1) == ((rd_T36 l0 x6_1).f1.f1)) || (!(((rd_T36 l1 x5_1).f1.f2) == ((rd_T36 l0 x6_1).f1.f2)) || (!(((rd_T36 l1 x5_1).f1.f3) == ((rd_T36 l0 x6_1).f1.f3)) || (!(((rd_T36 l1 x5_1).f1.f4) == ((rd_T36 l0 x6_1).f1.f4)) || (!((((rd_T36 l1 x5_1).f1.f5).toList) == (((rd_T36 l0 x6_1).f1.f5).toList)))))))) || (!(((rd_T36 l1 x5_1).f2) == ((rd_T36 l0 x6_1).f2))))) = false := by simpa using c14
            clear c14
            have H' := Aside0.mk H
            clear H
            have p378 : 0 ≤ (x6_1 : Int) := of_decide_eq_true (by first | (with_reducible assumption) | assumption)
            have q378 : x6_1 < (l0.length : Int) := of_decide_eq_true (by first | (with_reducible assumption) | assumption)
            obtain ⟨ad378, e378, hx378_0, hx378_1, hx378_2, hx378_3, hx378_4, hx378_5, hx378_6, hx378_7⟩ := at_T36 HR0.out x6_1 p378 q378
            cases e378
            replace p378 := eq_true p378
            replace q378 := eq_true q378
            have p382 : 0 ≤ (x5_1 : Int) := of_decide_eq_true (by first | (with_reducible assumption) | assumption)
            have q382 : x5_1 < (l1.length : Int) := of_decide_eq_true (by first | (with_reducible assumption) | assumption)
            obtain ⟨ad382, e382, hx382_0, hx382_1, hx382_2, hx382_3, hx382_4, hx382_5, hx382_6, hx382_7⟩ := at_T36 HR1.out x5_1 p382 q382
            cases e382
            replace p382 := eq_true p382
            replace q382 := eq_true q382
            have p383 : 0 ≤ (x6_1 : Int) := of_decide_eq_true (by first | (with_reducible assumption) | assumption)
            have q383 : x6_1 < (l0.length : Int) := of_decide_eq_true (by first | (with_reducible assumption) | assumption)
            obtain ⟨ad383, e383, hx383_0, hx383_1, hx383_2, hx383_3, hx383_4, hx383_5, hx383_6, hx383_7⟩ := at_T36 HR0.out x6_1 p383 q383
            obtain rfl : ad378 = ad383 := (by injection e383)
            replace p383 := eq_true p383
            replace q383 := eq_true q383
            go_wp2
            repeat (go_quiet (fail); try go_wp2)
            go_roundg k1
            case measure => have := HK1.out; omega
            case rel => exact ⟨(wrap64 (x5_1 + 1)), (wrap64 (x6_1 + 1)), (by first | rfl | (simp; done) | (simp [*]; done)), (by first | rfl | (simp; done) | (simp [*]; done)), H', ⟨by have := HK1.out; omega⟩, by repeat (first | exact Drawn0.refl _ | apply Drawn0.step)⟩

end Go.Proofs.Ythmnedlaecekkaa.PFeedTells
