/- What the functions that the law reaches answer, each as a plain Lean function, with a proof that the call in memory comes to that answer. Written by wip/tools/given.py of this session out of the print.py of the kit, with stand-ins for some functions. -/
import Derived.Test.YthmnedlaecekkaaPFeedPartsx0
import Derived.Test.YthmnedlaecekkaaPFeedPartsx2
import Derived.Test.YthmnedlaecekkaaPFeedPartsx4
import Derived.Test.YthmnedlaecekkaaPFeedPartsx5
namespace Go.Proofs.Ythmnedlaecekkaa.PFeedParts
open Go.RowKit Go.Proofs.YthmnedlaecekkaaW.PrintWords Go.Proofs.YthmnedlaecekkaaW.PrintLast Go.Proofs.YthmnedlaecekkaaW.PrintMore
attribute [local go_sem] max2_int min2_int max_two min_two max_three min_three max_four min_four   -- for this text's walks alone
set_option linter.unusedVariables false
set_option linter.unusedSimpArgs false

/-! ### hopperlaw14_FeedParts: function 7 -/
mutual
def hopperlaw14_FeedParts.j0 : Nat → List (S36) → Int → List (S36) → List (S36) → Bool → Option (Bool)
  | 0, _, _, _, _, _ => none
  | k + 1, x1, x2, x7, x8, x36 => if x36 = true then ((hopperlaw14_live.f k).bind fun t333 => (some t333)) else ((some (([] : List (S36)) : List (S36))).bind fun y334 => (if y334.length + x7.length < 1954687338268 then ((some (y334 ++ x7 : List (S36))).bind fun y337 => (if y337.length + x8.length < 1954687338268 then (if 0 ≤ x2 then (if x2 ≤ (x1.length : Int) then ((feed_Covers.f k x7 (x1.take (x2 : Int).toNat)).bind fun t347 => (if t347 = true then ((feed_Covers.f k x8 (x1.drop (x2 : Int).toNat)).bind fun t352 => (if t352 = true then ((feed_Covers.f k (y337 ++ x8) x1).bind fun t353 => (hopperlaw14_FeedParts.j1 k x1 (!t353))) else (hopperlaw14_FeedParts.j1 k x1 false))) else (hopperlaw14_FeedParts.j1 k x1 false))) else (none)) else (none)) else (none))) else (none)))
def hopperlaw14_FeedParts.j1 : Nat → List (S36) → Bool → Option (Bool)
  | 0, _, _ => none
  | k + 1, x1, x61 => if x61 = true then (some false) else ((feed_Covers.f k (([(⟨4, (⟨0, 0, 0, 0, 0, (⟨#[]⟩ : ByteArray)⟩ : S34), (x1.length : Int)⟩ : S36)] : List (S36))) x1).bind fun t357 => (if (t357 == (decide ((x1.length : Int) > 0))) = true then ((hopperlaw14_live.f k).bind fun t358 => (some t358)) else (some false)))
end
def hopperlaw14_FeedParts.f (k : Nat) (l0_0 : List (S36)) (l0_1 : List (S36)) (l1 : List (S36)) (a2 : Int) : Option (Bool) := (hopperref14_Few.f k l0_0 40).bind fun t330 => (if t330 = true then ((hopperref14_Few.f k l0_1 40).bind fun t331 => (if t331 = true then ((hopperref14_Few.f k l1 40).bind fun t332 => (if t332 = true then (if a2 < 0 then (hopperlaw14_FeedParts.j0 k l1 a2 l0_0 l0_1 true) else (hopperlaw14_FeedParts.j0 k l1 a2 l0_0 l0_1 (decide (a2 > (l1.length : Int))))) else (hopperlaw14_FeedParts.j0 k l1 a2 l0_0 l0_1 true))) else (hopperlaw14_FeedParts.j0 k l1 a2 l0_0 l0_1 true))) else (hopperlaw14_FeedParts.j0 k l1 a2 l0_0 l0_1 true))
theorem hopperlaw14_FeedParts.mono_l : ∀ k, (∀ y0 y1 y2 y3 y4, LeO (hopperlaw14_FeedParts.j0 k y0 y1 y2 y3 y4) (hopperlaw14_FeedParts.j0 (k + 1) y0 y1 y2 y3 y4)) ∧ (∀ y0 y1, LeO (hopperlaw14_FeedParts.j1 k y0 y1) (hopperlaw14_FeedParts.j1 (k + 1) y0 y1))
  | 0 => ⟨fun _ _ _ _ _ r h => by simp [hopperlaw14_FeedParts.j0] at h, fun _ _ r h => by simp [hopperlaw14_FeedParts.j1] at h⟩
  | k + 1 => by
    obtain ⟨ih0, ih1⟩ := hopperlaw14_FeedParts.mono_l k
    refine ⟨?_, ?_⟩
    · intro y0 y1 y2 y3 y4
      unfold hopperlaw14_FeedParts.j0
      repeat' first
      | (with_reducible exact ih0 _ _ _ _ _)
      | (with_reducible exact ih1 _ _)
      | (with_reducible exact feed_Covers.mono _ _ _)
      | (with_reducible exact hopperlaw14_live.mono _)
      | (with_reducible exact hopperref14_Few.mono _ _ _)
      | (with_reducible exact LeO.refl _)
      | (with_reducible exact LeO.none _)
      | (with_reducible refine LeO.ite ?_ ?_)
      | (with_reducible refine LeO.bind ?_ (fun _ => ?_))
      | exact ih0 _ _ _ _ _
      | exact ih1 _ _
      | exact feed_Covers.mono _ _ _
      | exact hopperlaw14_live.mono _
      | exact hopperref14_Few.mono _ _ _
      | exact LeO.none _
      | refine LeO.ite ?_ ?_
      | refine LeO.bind ?_ (fun _ => ?_)
    · intro y0 y1
      unfold hopperlaw14_FeedParts.j1
      repeat' first
      | (with_reducible exact ih0 _ _ _ _ _)
      | (with_reducible exact ih1 _ _)
      | (with_reducible exact feed_Covers.mono _ _ _)
      | (with_reducible exact hopperlaw14_live.mono _)
      | (with_reducible exact hopperref14_Few.mono _ _ _)
      | (with_reducible exact LeO.refl _)
      | (with_reducible exact LeO.none _)
      | (with_reducible refine LeO.ite ?_ ?_)
      | (with_reducible refine LeO.bind ?_ (fun _ => ?_))
      | exact ih0 _ _ _ _ _
      | exact ih1 _ _
      | exact feed_Covers.mono _ _ _
      | exact hopperlaw14_live.mono _
      | exact hopperref14_Few.mono _ _ _
      | exact LeO.none _
      | refine LeO.ite ?_ ?_
      | refine LeO.bind ?_ (fun _ => ?_)
theorem hopperlaw14_FeedParts.mono : ∀ a0 a1 a2 a3 k, LeO (hopperlaw14_FeedParts.f k a0 a1 a2 a3) (hopperlaw14_FeedParts.f (k + 1) a0 a1 a2 a3) := by
  intro a0 a1 a2 a3 k
  obtain ⟨ih0, ih1⟩ := hopperlaw14_FeedParts.mono_l k
  unfold hopperlaw14_FeedParts.f
  repeat' first
      | (with_reducible exact ih0 _ _ _ _ _)
      | (with_reducible exact ih1 _ _)
      | (with_reducible exact feed_Covers.mono _ _ _)
      | (with_reducible exact hopperlaw14_live.mono _)
      | (with_reducible exact hopperref14_Few.mono _ _ _)
      | (with_reducible exact LeO.refl _)
      | (with_reducible exact LeO.none _)
      | (with_reducible refine LeO.ite ?_ ?_)
      | (with_reducible refine LeO.bind ?_ (fun _ => ?_))
      | exact ih0 _ _ _ _ _
      | exact ih1 _ _
      | exact feed_Covers.mono _ _ _
      | exact hopperlaw14_live.mono _
      | exact hopperref14_Few.mono _ _ _
      | exact LeO.none _
      | refine LeO.ite ?_ ?_
      | refine LeO.bind ?_ (fun _ => ?_)
set_option maxHeartbeats 8000000 in
set_option maxRecDepth 100000 in
theorem hopperlaw14_FeedParts.callsT (k : Nat) (A0_0 : Option Addr) (c0_0 : Nat) (l0_0 : List (S36)) (A0_1 : Option Addr) (c0_1 : Nat) (l0_1 : List (S36)) (A1 : Option Addr) (c1 : Nat) (l1 : List (S36)) (a2 : Int) (w : World) (hr0_0 : Kd.C k36 w A0_0 l0_0.length l0_0) (hc0_0 : l0_0.length ≤ c0_0) (hr0_1 : Kd.C k36 w A0_1 l0_1.length l0_1) (hc0_1 : l0_1.length ≤ c0_1) (hr1 : Kd.C k36 w A1 l1.length l1) (hc1 : l1.length ≤ c1) (h : hopperlaw14_FeedParts.f k l0_0 l0_1 l1 a2 = some true) :
    Calls Try.prog 7 #[.agg #[.slice A0_0 l0_0.length c0_0, .slice A0_1 l0_1.length c0_1], .slice A1 l1.length c1, .int .i64 a2] w fun e w' => e = .returned (.bool true) ∧ Below w.heap.size w w' := by
  have hu54 := Try.underlying54
  have hu36 := Try.underlying36
  have HR0_0 := Aside0.mk hr0_0
  have HC0_0 := Aside0.mk hc0_0
  clear hr0_0 hc0_0
  have HR0_1 := Aside0.mk hr0_1
  have HC0_1 := Aside0.mk hc0_1
  clear hr0_1 hc0_1
  have HR1 := Aside0.mk hr1
  have HC1 := Aside0.mk hc1
  clear hr1 hc1
  have HB := Aside0.mk (Below.refl w.heap.size w)
  have H : ((hopperref14_Few.f k l0_0 40).bind fun t330 => (if t330 = true then ((hopperref14_Few.f k l0_1 40).bind fun t331 => (if t331 = true then ((hopperref14_Few.f k l1 40).bind fun t332 => (if t332 = true then (if a2 < 0 then (hopperlaw14_FeedParts.j0 k l1 a2 l0_0 l0_1 true) else (hopperlaw14_FeedParts.j0 k l1 a2 l0_0 l0_1 (decide (a2 > (l1.length : Int))))) else (hopperlaw14_FeedParts.j0 k l1 a2 l0_0 l0_1 true))) else (hopperlaw14_FeedParts.j0 k l1 a2 l0_0 l0_1 true))) else (hopperlaw14_FeedParts.j0 k l1 a2 l0_0 l0_1 true))) = some true := h
  clear h
  have HC4 := Aside0.mk H
  clear H
  go_enter Try.func7, Try.ntmps7
  go_upto_region 3 with (first | ((with_reducible refine gate_dst (N := 3) rfl ?_); (try (refine gate_guard (by rfl) ?_; dsimp only)); refine box_event ?hg (N := 3) ?hd (cs := #[.slice A0_0 l0_0.length c0_0, .slice A0_1 l0_1.length c0_1]) (t := 54) ?hr ?_; (case hd => rfl); (case hg => rfl); (case hr => first | (go_simp; done) | (go_simp; rfl)); intro gb329 hg w5 hbox hb; have BK329 := Aside0.mk (hbox); have GE329 := Aside0.mk (ge1 hg (LA HB.out)); replace HB := Aside0.mk (below_step (LA HB.out) hb); clear hb hbox hg; obtain ⟨hcz6_0, hcz6_1, hfz6_0, hfz6_1⟩ := cz2 BK329.out))
  (try simp only [Act.put, PU])
  go_cut [36] (fun v36 wc => ∃ (kq : Nat) (x36_3 : Bool), v36 = .bool x36_3 ∧ Aside0 (hopperlaw14_FeedParts.j0 kq l1 a2 l0_0 l0_1 x36_3 = some true) ∧ Aside0 (kq ≤ k) ∧ Aside0 (wc.heap[gb329]? = some (.cells #[(.slice A0_0 l0_0.length c0_0), (.slice A0_1 l0_1.length c0_1)] 54 (0, 0))) ∧ Aside0 (Below w.heap.size w wc))
  case first =>
    have H := HC4.out
    clear HC4
    replace H := Option.bind_eq_some_iff.mp H
    obtain ⟨t330, A70, H⟩ := H
    try dsimp only at H
    have A7 := Aside0.mk A70
    clear A70
    by_cases c8 : t330 = true
    · subst c8
      have H1 : ((hopperref14_Few.f k l0_1 40).bind fun t331 => (if t331 = true then ((hopperref14_Few.f k l1 40).bind fun t332 => (if t332 = true then (if a2 < 0 then (hopperlaw14_FeedParts.j0 k l1 a2 l0_0 l0_1 true) else (hopperlaw14_FeedParts.j0 k l1 a2 l0_0 l0_1 (decide (a2 > (l1.length : Int))))) else (hopperlaw14_FeedParts.j0 k l1 a2 l0_0 l0_1 true))) else (hopperlaw14_FeedParts.j0 k l1 a2 l0_0 l0_1 true))) = some true := by rw [if_pos rfl] at H; exact H
      clear H
      have H := H1
      clear H1
      replace H := Option.bind_eq_some_iff.mp H
      obtain ⟨t331, A90, H⟩ := H
      try dsimp only at H
      have A9 := Aside0.mk A90
      clear A90
      by_cases c10 : t331 = true
      · subst c10
        have H1 : ((hopperref14_Few.f k l1 40).bind fun t332 => (if t332 = true then (if a2 < 0 then (hopperlaw14_FeedParts.j0 k l1 a2 l0_0 l0_1 true) else (hopperlaw14_FeedParts.j0 k l1 a2 l0_0 l0_1 (decide (a2 > (l1.length : Int))))) else (hopperlaw14_FeedParts.j0 k l1 a2 l0_0 l0_1 true))) = some true := by rw [if_pos rfl] at H; exact H
        clear H
        have H := H1
        clear H1
        replace H := Option.bind_eq_some_iff.mp H
        obtain ⟨t332, A110, H⟩ := H
        try dsimp only at H
        have A11 := Aside0.mk A110
        clear A110
        by_cases c12 : t332 = true
        · subst c12
          have H1 : (if a2 < 0 then (hopperlaw14_FeedParts.j0 k l1 a2 l0_0 l0_1 true) else (hopperlaw14_FeedParts.j0 k l1 a2 l0_0 l0_1 (decide (a2 > (l1.length : Int))))) = some true := by rw [if_pos rfl] at H; exact H
          clear H
          have H := H1
          clear H1
          by_cases c13 : a2 < 0
          · rw [if_pos c13] at H
            have c13b0 : decide (a2 < 0) = true := decide_eq_true c13
            clear c13
            (first | rw [c13b0] | (simp only [i64_w, i32_w]; rw [c13b0]) | skip)
            have H' := Aside0.mk H
            clear H
            go_wp2_with (first | ((with_reducible refine gate_callee (f := 9) rfl ?_); refine goesL_ (some 15) rfl rfl Try.func9 (by kernel_rfl) rfl #[.slice A0_0 l0_0.length c0_0, .int .i64 40] rfl (by (try simp only [List.map_toArray, List.map_cons, List.map_nil]); first | done | rfl | (simp only [List.length_drop, List.length_take]; rfl)) ?_; (with_reducible refine (hopperref14_Few.calls k _ _ l0_0 40 true _ ?side1 ?side2 A7.out).mono ?_); (case side1 => exact Kd.CA (Kd.C_below HR0_0.out HB.out)); (case side2 => exact HC0_0.out); rintro e w' ⟨rfl, ⟨nd, rfl⟩⟩; refine ⟨_, rfl, ?_⟩) | (go_at_call 9; (with_reducible refine (hopperref14_Few.calls k _ _ l0_1 40 true _ ?side1 ?side2 A9.out).mono ?_); (case side1 => exact (Kd.C_below HR0_1.out (LA HB.out))); (case side2 => exact HC0_1.out); rintro e w' ⟨rfl, ⟨nd, rfl⟩⟩) | (go_at_call 9; (with_reducible refine (hopperref14_Few.calls k _ _ l1 40 true _ ?side1 ?side2 A11.out).mono ?_); (case side1 => exact (Kd.C_below HR1.out (LA HB.out))); (case side2 => exact HC1.out); rintro e w' ⟨rfl, ⟨nd, rfl⟩⟩))
            go_meet
            case rel => exact ⟨_, (true), (by first | (rw [HR_.out]; done) | rfl | (rw [HR_.out]; rfl) | (simp [HR_.out]; done) | (simp; done) | (simp [*]; done)), H', ⟨by first | omega | exact Nat.le_refl _⟩, ⟨by (with_reducible repeat (first | refine blk_drewN ?_ _ | refine blk_drew ?_ | refine blk_alloc ?_ _)); exact BK329.out⟩, ⟨LG HB.out (G1 GE329.out G0)⟩⟩
          · rw [if_neg c13] at H
            have c13b0 : decide (a2 < 0) = false := decide_eq_false c13
            clear c13
            (first | rw [c13b0] | (simp only [i64_w, i32_w]; rw [c13b0]) | skip)
            have H' := Aside0.mk H
            clear H
            go_wp2_with (first | ((with_reducible refine gate_callee (f := 9) rfl ?_); refine goesL_ (some 15) rfl rfl Try.func9 (by kernel_rfl) rfl #[.slice A0_0 l0_0.length c0_0, .int .i64 40] rfl (by (try simp only [List.map_toArray, List.map_cons, List.map_nil]); first | done | rfl | (simp only [List.length_drop, List.length_take]; rfl)) ?_; (with_reducible refine (hopperref14_Few.calls k _ _ l0_0 40 true _ ?side1 ?side2 A7.out).mono ?_); (case side1 => exact Kd.CA (Kd.C_below HR0_0.out HB.out)); (case side2 => exact HC0_0.out); rintro e w' ⟨rfl, ⟨nd, rfl⟩⟩; refine ⟨_, rfl, ?_⟩) | (go_at_call 9; (with_reducible refine (hopperref14_Few.calls k _ _ l0_1 40 true _ ?side1 ?side2 A9.out).mono ?_); (case side1 => exact (Kd.C_below HR0_1.out (LA HB.out))); (case side2 => exact HC0_1.out); rintro e w' ⟨rfl, ⟨nd, rfl⟩⟩) | (go_at_call 9; (with_reducible refine (hopperref14_Few.calls k _ _ l1 40 true _ ?side1 ?side2 A11.out).mono ?_); (case side1 => exact (Kd.C_below HR1.out (LA HB.out))); (case side2 => exact HC1.out); rintro e w' ⟨rfl, ⟨nd, rfl⟩⟩))
            go_meet
            case rel => exact ⟨_, (decide (a2 > (l1.length : Int))), (by first | (rw [HR_.out]; done) | rfl | (rw [HR_.out]; rfl) | (simp [HR_.out]; done) | (simp; done) | (simp [*]; done)), H', ⟨by first | omega | exact Nat.le_refl _⟩, ⟨by (with_reducible repeat (first | refine blk_drewN ?_ _ | refine blk_drew ?_ | refine blk_alloc ?_ _)); exact BK329.out⟩, ⟨LG HB.out (G1 GE329.out G0)⟩⟩
        · replace c12 := Bool.eq_false_iff.mpr c12
          subst c12
          have H1 : (hopperlaw14_FeedParts.j0 k l1 a2 l0_0 l0_1 true) = some true := by rw [if_neg (show ¬ (false = true) by decide)] at H; exact H
          clear H
          have H := H1
          clear H1
          have H' := Aside0.mk H
          clear H
          go_wp2_with (first | ((with_reducible refine gate_callee (f := 9) rfl ?_); refine goesL_ (some 15) rfl rfl Try.func9 (by kernel_rfl) rfl #[.slice A0_0 l0_0.length c0_0, .int .i64 40] rfl (by (try simp only [List.map_toArray, List.map_cons, List.map_nil]); first | done | rfl | (simp only [List.length_drop, List.length_take]; rfl)) ?_; (with_reducible refine (hopperref14_Few.calls k _ _ l0_0 40 true _ ?side1 ?side2 A7.out).mono ?_); (case side1 => exact Kd.CA (Kd.C_below HR0_0.out HB.out)); (case side2 => exact HC0_0.out); rintro e w' ⟨rfl, ⟨nd, rfl⟩⟩; refine ⟨_, rfl, ?_⟩) | (go_at_call 9; (with_reducible refine (hopperref14_Few.calls k _ _ l0_1 40 true _ ?side1 ?side2 A9.out).mono ?_); (case side1 => exact (Kd.C_below HR0_1.out (LA HB.out))); (case side2 => exact HC0_1.out); rintro e w' ⟨rfl, ⟨nd, rfl⟩⟩) | (go_at_call 9; (with_reducible refine (hopperref14_Few.calls k _ _ l1 40 false _ ?side1 ?side2 A11.out).mono ?_); (case side1 => exact (Kd.C_below HR1.out (LA HB.out))); (case side2 => exact HC1.out); rintro e w' ⟨rfl, ⟨nd, rfl⟩⟩))
          go_meet
          case rel => exact ⟨_, (true), (by first | (rw [HR_.out]; done) | rfl | (rw [HR_.out]; rfl) | (simp [HR_.out]; done) | (simp; done) | (simp [*]; done)), H', ⟨by first | omega | exact Nat.le_refl _⟩, ⟨by (with_reducible repeat (first | refine blk_drewN ?_ _ | refine blk_drew ?_ | refine blk_alloc ?_ _)); exact BK329.out⟩, ⟨LG HB.out (G1 GE329.out G0)⟩⟩
      · replace c10 := Bool.eq_false_iff.mpr c10
        subst c10
        have H1 : (hopperlaw14_FeedParts.j0 k l1 a2 l0_0 l0_1 true) = some true := by rw [if_neg (show ¬ (false = true) by decide)] at H; exact H
        clear H
        have H := H1
        clear H1
        have H' := Aside0.mk H
        clear H
        go_wp2_with (first | ((with_reducible refine gate_callee (f := 9) rfl ?_); refine goesL_ (some 15) rfl rfl Try.func9 (by kernel_rfl) rfl #[.slice A0_0 l0_0.length c0_0, .int .i64 40] rfl (by (try simp only [List.map_toArray, List.map_cons, List.map_nil]); first | done | rfl | (simp only [List.length_drop, List.length_take]; rfl)) ?_; (with_reducible refine (hopperref14_Few.calls k _ _ l0_0 40 true _ ?side1 ?side2 A7.out).mono ?_); (case side1 => exact Kd.CA (Kd.C_below HR0_0.out HB.out)); (case side2 => exact HC0_0.out); rintro e w' ⟨rfl, ⟨nd, rfl⟩⟩; refine ⟨_, rfl, ?_⟩) | (go_at_call 9; (with_reducible refine (hopperref14_Few.calls k _ _ l0_1 40 false _ ?side1 ?side2 A9.out).mono ?_); (case side1 => exact (Kd.C_below HR0_1.out (LA HB.out))); (case side2 => exact HC0_1.out); rintro e w' ⟨rfl, ⟨nd, rfl⟩⟩))
        go_meet
        case rel => exact ⟨_, (true), (by first | (rw [HR_.out]; done) | rfl | (rw [HR_.out]; rfl) | (simp [HR_.out]; done) | (simp; done) | (simp [*]; done)), H', ⟨by first | omega | exact Nat.le_refl _⟩, ⟨by (with_reducible repeat (first | refine blk_drewN ?_ _ | refine blk_drew ?_ | refine blk_alloc ?_ _)); exact BK329.out⟩, ⟨LG HB.out (G1 GE329.out G0)⟩⟩
    · replace c8 := Bool.eq_false_iff.mpr c8
      subst c8
      have H1 : (hopperlaw14_FeedParts.j0 k l1 a2 l0_0 l0_1 true) = some true := by rw [if_neg (show ¬ (false = true) by decide)] at H; exact H
      clear H
      have H := H1
      clear H1
      have H' := Aside0.mk H
      clear H
      go_wp2_with (first | ((with_reducible refine gate_callee (f := 9) rfl ?_); refine goesL_ (some 15) rfl rfl Try.func9 (by kernel_rfl) rfl #[.slice A0_0 l0_0.length c0_0, .int .i64 40] rfl (by (try simp only [List.map_toArray, List.map_cons, List.map_nil]); first | done | rfl | (simp only [List.length_drop, List.length_take]; rfl)) ?_; (with_reducible refine (hopperref14_Few.calls k _ _ l0_0 40 false _ ?side1 ?side2 A7.out).mono ?_); (case side1 => exact Kd.CA (Kd.C_below HR0_0.out HB.out)); (case side2 => exact HC0_0.out); rintro e w' ⟨rfl, ⟨nd, rfl⟩⟩; refine ⟨_, rfl, ?_⟩))
      go_meet
      case rel => exact ⟨_, (true), (by first | (rw [HR_.out]; done) | rfl | (rw [HR_.out]; rfl) | (simp [HR_.out]; done) | (simp; done) | (simp [*]; done)), H', ⟨by first | omega | exact Nat.le_refl _⟩, ⟨by (with_reducible repeat (first | refine blk_drewN ?_ _ | refine blk_drew ?_ | refine blk_alloc ?_ _)); exact BK329.out⟩, ⟨LG HB.out (G1 GE329.out G0)⟩⟩
  case rest =>
    clear HC4
    try clear c1
    try clear p2
    try clear c7
    try clear c8
    try clear c9
    try clear c10
    try clear c12
    try clear c13
    try clear c13b0
    try clear hcz6_0
    try clear hcz6_1
    try clear hfz6_0
    try clear hfz6_1
    obtain ⟨kq, x36_3, rfl, HA, HJ3, BK329, HB⟩ := hcut
    cases kq with
    | zero => exact absurd HA.out (by simp [hopperlaw14_FeedParts.j0])
    | succ kj3 =>
      have H := HA.out
      clear HA
      simp only [hopperlaw14_FeedParts.j0] at H
      by_cases c14 : x36_3 = true
      · subst c14
        have H1 : ((hopperlaw14_live.f kj3).bind fun t333 => (some t333)) = some true := by rw [if_pos rfl] at H; exact H
        clear H
        have H := H1
        clear H1
        replace H := Option.bind_eq_some_iff.mp H
        obtain ⟨t333, A150, H⟩ := H
        try dsimp only at H
        have A15 := Aside0.mk A150
        clear A150
        have HR_ := Aside0.mk (Option.some.inj H)
        clear H
        go_wp2_with (first | ((with_reducible refine gate_callee (f := 10) rfl ?_); refine goesL_ (some 37) rfl rfl Try.func10 (by kernel_rfl) rfl #[] rfl (by (try simp only [List.map_toArray, List.map_cons, List.map_nil]); first | done | rfl | (simp only [List.length_drop, List.length_take]; rfl)) ?_; (with_reducible refine (hopperlaw14_live.calls kj3  t333 _ A15.out).mono ?_); rintro e w16 ⟨rfl, hb⟩; refine ⟨_, rfl, ?_⟩; replace HB := Aside0.mk (below_step (LA HB.out) hb); (try clear BK329); (try clear hb); (try clear hb2); (try clear hk); (try clear hi)))
        go_ret
        exact ⟨by first | exact (congrArg (fun b => Ending.returned (.bool b)) HR_.out) | (rw [HR_.out]; done) | rfl | (rw [HR_.out]; rfl) | (simp [HR_.out]; done) | (simp [errW_none, errW_some] <;> rfl) | (simp [*, errW_none, errW_some] <;> rfl), LG HB.out (G1 GE329.out G0)⟩
      · replace c14 := Bool.eq_false_iff.mpr c14
        subst c14
        have H1 : ((some (([] : List (S36)) : List (S36))).bind fun y334 => (if y334.length + l0_0.length < 1954687338268 then ((some (y334 ++ l0_0 : List (S36))).bind fun y337 => (if y337.length + l0_1.length < 1954687338268 then (if 0 ≤ a2 then (if a2 ≤ (l1.length : Int) then ((feed_Covers.f kj3 l0_0 (l1.take (a2 : Int).toNat)).bind fun t347 => (if t347 = true then ((feed_Covers.f kj3 l0_1 (l1.drop (a2 : Int).toNat)).bind fun t352 => (if t352 = true then ((feed_Covers.f kj3 (y337 ++ l0_1) l1).bind fun t353 => (hopperlaw14_FeedParts.j1 kj3 l1 (!t353))) else (hopperlaw14_FeedParts.j1 kj3 l1 false))) else (hopperlaw14_FeedParts.j1 kj3 l1 false))) else (none)) else (none)) else (none))) else (none))) = some true := by rw [if_neg (show ¬ (false = true) by decide)] at H; exact H
        clear H
        have H := H1
        clear H1
        obtain ⟨y334, hy334⟩ : ∃ y_ : List (S36), y_ = (([] : List (S36))) := ⟨_, rfl⟩
        replace H : (if y334.length + l0_0.length < 1954687338268 then ((some (y334 ++ l0_0 : List (S36))).bind fun y337 => (if y337.length + l0_1.length < 1954687338268 then (if 0 ≤ a2 then (if a2 ≤ (l1.length : Int) then ((feed_Covers.f kj3 l0_0 (l1.take (a2 : Int).toNat)).bind fun t347 => (if t347 = true then ((feed_Covers.f kj3 l0_1 (l1.drop (a2 : Int).toNat)).bind fun t352 => (if t352 = true then ((feed_Covers.f kj3 (y337 ++ l0_1) l1).bind fun t353 => (hopperlaw14_FeedParts.j1 kj3 l1 (!t353))) else (hopperlaw14_FeedParts.j1 kj3 l1 false))) else (hopperlaw14_FeedParts.j1 kj3 l1 false))) else (none)) else (none)) else (none))) else (none)) = some true := by first | (rw [hy334]; with_reducible exact H) | (have H2_ := (Option.bind_some _ _).symm.trans H; rw [hy334]; with_reducible exact H2_) | (have H2_ := (Option.bind_some _ _).symm.trans H; with_reducible exact H2_) | with_reducible exact H | (rw [hy334]; exact H) | exact H
        have Ny334 := Aside0.mk hy334
        clear hy334
        by_cases c17 : y334.length + l0_0.length < 1954687338268
        rotate_left
        · rw [if_neg c17] at H
          exact absurd H (by simp)
        rw [if_pos c17] at H
        have LMc17 := Aside0.mk c17
        clear c17
        obtain ⟨y337, hy337⟩ : ∃ y_ : List (S36), y_ = (y334 ++ l0_0) := ⟨_, rfl⟩
        replace H : (if y337.length + l0_1.length < 1954687338268 then (if 0 ≤ a2 then (if a2 ≤ (l1.length : Int) then ((feed_Covers.f kj3 l0_0 (l1.take (a2 : Int).toNat)).bind fun t347 => (if t347 = true then ((feed_Covers.f kj3 l0_1 (l1.drop (a2 : Int).toNat)).bind fun t352 => (if t352 = true then ((feed_Covers.f kj3 (y337 ++ l0_1) l1).bind fun t353 => (hopperlaw14_FeedParts.j1 kj3 l1 (!t353))) else (hopperlaw14_FeedParts.j1 kj3 l1 false))) else (hopperlaw14_FeedParts.j1 kj3 l1 false))) else (none)) else (none)) else (none)) = some true := by first | (rw [hy337]; with_reducible exact H) | (have H2_ := (Option.bind_some _ _).symm.trans H; rw [hy337]; with_reducible exact H2_) | (have H2_ := (Option.bind_some _ _).symm.trans H; with_reducible exact H2_) | with_reducible exact H | (rw [hy337]; exact H) | exact H
        have Ny337 := Aside0.mk hy337
        clear hy337
        by_cases c18 : y337.length + l0_1.length < 1954687338268
        rotate_left
        · rw [if_neg c18] at H
          exact absurd H (by simp)
        rw [if_pos c18] at H
        have LMc18 := Aside0.mk c18
        clear c18
        obtain ⟨y340, hy340⟩ : ∃ y_ : List (S36), y_ = (y337 ++ l0_1) := ⟨_, rfl⟩
        replace H : (if 0 ≤ a2 then (if a2 ≤ (l1.length : Int) then ((feed_Covers.f kj3 l0_0 (l1.take (a2 : Int).toNat)).bind fun t347 => (if t347 = true then ((feed_Covers.f kj3 l0_1 (l1.drop (a2 : Int).toNat)).bind fun t352 => (if t352 = true then ((feed_Covers.f kj3 y340 l1).bind fun t353 => (hopperlaw14_FeedParts.j1 kj3 l1 (!t353))) else (hopperlaw14_FeedParts.j1 kj3 l1 false))) else (hopperlaw14_FeedParts.j1 kj3 l1 false))) else (none)) else (none)) = some true := by first | (rw [hy340]; with_reducible exact H) | (have H2_ := (Option.bind_some _ _).symm.trans H; rw [hy340]; with_reducible exact H2_) | (have H2_ := (Option.bind_some _ _).symm.trans H; with_reducible exact H2_) | with_reducible exact H | (rw [hy340]; exact H) | exact H
        have Ny340 := Aside0.mk hy340
        clear hy340
        have HC19 := Aside0.mk H
        clear H
        go_upto_region 7 with (first | ((with_reducible refine gate_dst (N := 38) rfl ?_); (try (refine gate_guard (by rfl) ?_; dsimp only)); refine Kd.R_lit k36 _ 36 ?hg (N := 38) ?hd (xs := ([] : List (S36))) (inner := []) (ok := fun _ => True) (okp := fun _ => True) ?hr ?hp (fun _ hk => hk) trivial (Below.refl _ _) (Nat.le_refl _) (by simp) ?_; (case hd => rfl); (case hg => rfl); (case hr => first | (go_simp; done) | (go_simp; rfl)); (case hp => exact (Reps.none _ _)); intro v335 w20 ho21 hb hg_ hnew_; clear hg_ hnew_; (first | rw [← Ny334.out] at ho21 | (simp only [Int.reduceToNat] at ho21; rw [← Ny334.out] at ho21)); have HO336 := Aside0.mk (Kd.R_lower ho21 (below_size (LA HB.out))); replace BK329 := Aside0.mk (blk_below (BA BK329.out) hb); replace HB := Aside0.mk (below_step (LA HB.out) hb); clear hb ho21) | ((with_reducible refine gate_builtin (b := .append) (xs := #[.tmp 38, .tmp 39]) rfl ?_); (try (refine gate_guard (by rfl) ?_; dsimp only)); at_builtin; refine Kd.R_append_rows k36 (w0 := w) w.heap.size rfl (.tmp 38) (.tmp 39) 22 36 (.agg #[(.int .i64 0), (.int .i64 0), (.int .i64 0), (.int .i64 0), (.int .i64 0), (.int .i64 0), (.string ⟨#[]⟩), (.int .i64 0)]) 72 rfl Try.underlying22 info36 rfl (by decide) (by omega) v335 y334 l0_0 _ _ _ (fun _ => True) (fun _ => False) rfl rfl ?aO ?aR (fun _ _ h => h) (fun _ h => h.elim) ?aF ?aB ?aS ?aL ?_; (case aR => repeat (first | exact (Kd.C_below HR0_0.out HB.out) | (with_reducible refine Kd.C_alloc ?_ _) | (with_reducible refine Kd.C_drewN ?_ _) | (with_reducible refine Kd.C_drew ?_))); (case aB => exact (LA HB.out)); (case aF => exact (fun _ _ => trivial)); (case aO => exact (Kd.RA HO336.out)); (case aS => exact (below_size (LA HB.out))); (case aL => have := LMc17.out; omega); intro v338 w22 ho hb hg hat; rw [← Ny337.out] at ho; replace BK329 := Aside0.mk (blk_grown (g := gb329) (o := .cells #[.slice A0_0 l0_0.length c0_0, .slice A0_1 l0_1.length c0_1] 54 (0, 0)) (BA BK329.out) hg (Kd.R_ne HO336.out BK329.out (by decide))); replace HB := Aside0.mk (hb); have HO339 := Aside0.mk (ho); clear HO336; clear ho hb hg hat) | ((with_reducible refine gate_builtin (b := .append) (xs := #[.tmp 41, .tmp 42]) rfl ?_); (try (refine gate_guard (by rfl) ?_; dsimp only)); at_builtin; refine Kd.R_append_rows k36 (w0 := w) w.heap.size rfl (.tmp 41) (.tmp 42) 22 36 (.agg #[(.int .i64 0), (.int .i64 0), (.int .i64 0), (.int .i64 0), (.int .i64 0), (.int .i64 0), (.string ⟨#[]⟩), (.int .i64 0)]) 72 rfl Try.underlying22 info36 rfl (by decide) (by omega) v338 y337 l0_1 _ _ _ (fun _ => True) (fun _ => False) rfl rfl ?aO ?aR (fun _ _ h => h) (fun _ h => h.elim) ?aF ?aB ?aS ?aL ?_; (case aR => repeat (first | exact (Kd.C_below HR0_1.out HB.out) | (with_reducible refine Kd.C_alloc ?_ _) | (with_reducible refine Kd.C_drewN ?_ _) | (with_reducible refine Kd.C_drew ?_))); (case aB => exact (LA HB.out)); (case aF => exact (fun _ _ => trivial)); (case aO => exact (Kd.RA HO339.out)); (case aS => exact (below_size (LA HB.out))); (case aL => have := LMc18.out; omega); intro v341 w23 ho hb hg hat; rw [← Ny340.out] at ho; replace BK329 := Aside0.mk (blk_grown (g := gb329) (o := .cells #[.slice A0_0 l0_0.length c0_0, .slice A0_1 l0_1.length c0_1] 54 (0, 0)) (BA BK329.out) hg (Kd.R_ne HO339.out BK329.out (by decide))); replace HB := Aside0.mk (hb); have HO342 := Aside0.mk (ho); clear HO339; clear ho hb hg hat))
        (try simp only [Act.put, PU])
        go_cut [61] (fun v61 wc => ∃ (kq : Nat) (x61_18 : Bool), v61 = .bool x61_18 ∧ Aside0 (hopperlaw14_FeedParts.j1 kq l1 x61_18 = some true) ∧ Aside0 (kq ≤ kj3) ∧ Aside0 (wc.heap[gb329]? = some (.cells #[(.slice A0_0 l0_0.length c0_0), (.slice A0_1 l0_1.length c0_1)] 54 (0, 0))) ∧ Aside0 (Below w.heap.size w wc))
        case first =>
          have H := HC19.out
          clear HC19
          by_cases c24 : 0 ≤ a2
          rotate_left
          · rw [if_neg c24] at H
            exact absurd H (by simp)
          rw [if_pos c24] at H
          have c24b0 := eq_true c24
          have c24b1 : decide (0 ≤ a2) = true := decide_eq_true c24
          clear c24
          by_cases c25 : a2 ≤ (l1.length : Int)
          rotate_left
          · rw [if_neg c25] at H
            exact absurd H (by simp)
          rw [if_pos c25] at H
          have c25b0 := eq_true c25
          have c25b1 : decide (a2 ≤ (l1.length : Int)) = true := decide_eq_true c25
          clear c25
          obtain ⟨y343, hy343⟩ : ∃ y_ : List (S36), y_ = (l1.take (a2 : Int).toNat) := ⟨_, rfl⟩
          replace H : ((feed_Covers.f kj3 l0_0 y343).bind fun t347 => (if t347 = true then ((feed_Covers.f kj3 l0_1 (l1.drop (a2 : Int).toNat)).bind fun t352 => (if t352 = true then ((feed_Covers.f kj3 y340 l1).bind fun t353 => (hopperlaw14_FeedParts.j1 kj3 l1 (!t353))) else (hopperlaw14_FeedParts.j1 kj3 l1 false))) else (hopperlaw14_FeedParts.j1 kj3 l1 false))) = some true := by first | (rw [hy343]; with_reducible exact H) | (have H2_ := (Option.bind_some _ _).symm.trans H; rw [hy343]; with_reducible exact H2_) | (have H2_ := (Option.bind_some _ _).symm.trans H; with_reducible exact H2_) | with_reducible exact H | (rw [hy343]; exact H) | exact H
          have Ny343 := Aside0.mk hy343
          clear hy343
          replace H := Option.bind_eq_some_iff.mp H
          obtain ⟨t347, A260, H⟩ := H
          try dsimp only at H
          have A26 := Aside0.mk A260
          clear A260
          by_cases c27 : t347 = true
          · subst c27
            have H1 : ((feed_Covers.f kj3 l0_1 (l1.drop (a2 : Int).toNat)).bind fun t352 => (if t352 = true then ((feed_Covers.f kj3 y340 l1).bind fun t353 => (hopperlaw14_FeedParts.j1 kj3 l1 (!t353))) else (hopperlaw14_FeedParts.j1 kj3 l1 false))) = some true := by rw [if_pos rfl] at H; exact H
            clear H
            have H := H1
            clear H1
            have c28b0 := eq_true (of_decide_eq_true (by first | (with_reducible assumption) | assumption) : 0 ≤ a2)
            have c29b0 := eq_true (of_decide_eq_true (by first | (with_reducible assumption) | assumption) : a2 ≤ (l1.length : Int))
            obtain ⟨y348, hy348⟩ : ∃ y_ : List (S36), y_ = (l1.drop (a2 : Int).toNat) := ⟨_, rfl⟩
            replace H : ((feed_Covers.f kj3 l0_1 y348).bind fun t352 => (if t352 = true then ((feed_Covers.f kj3 y340 l1).bind fun t353 => (hopperlaw14_FeedParts.j1 kj3 l1 (!t353))) else (hopperlaw14_FeedParts.j1 kj3 l1 false))) = some true := by first | (rw [hy348]; with_reducible exact H) | (have H2_ := (Option.bind_some _ _).symm.trans H; rw [hy348]; with_reducible exact H2_) | (have H2_ := (Option.bind_some _ _).symm.trans H; with_reducible exact H2_) | with_reducible exact H | (rw [hy348]; exact H) | exact H
            have Ny348 := Aside0.mk hy348
            clear hy348
            replace H := Option.bind_eq_some_iff.mp H
            obtain ⟨t352, A300, H⟩ := H
            try dsimp only at H
            have A30 := Aside0.mk A300
            clear A300
            by_cases c31 : t352 = true
            · subst c31
              have H1 : ((feed_Covers.f kj3 y340 l1).bind fun t353 => (hopperlaw14_FeedParts.j1 kj3 l1 (!t353))) = some true := by rw [if_pos rfl] at H; exact H
              clear H
              have H := H1
              clear H1
              replace H := Option.bind_eq_some_iff.mp H
              obtain ⟨t353, A320, H⟩ := H
              try dsimp only at H
              have A32 := Aside0.mk A320
              clear A320
              have H' := Aside0.mk H
              clear H
              have q33 : (a2 : Int) ≤ ((l1.length : Int) : Int) := of_decide_eq_true (by first | (with_reducible assumption) | assumption)
              obtain ⟨i033, hi033, _, hsz33, _⟩ := info_parts info36
              have hroom33 : l1.length ≤ c1 := HC1.out
              have hC33 : Kd.C k36 _ A1 l1.length l1 := HR1.out
              have hcut33 := cut_to (P := Try.prog) 22 36 .i64 Try.underlying22 hi033 A1 l1.length c1 a2 (of_decide_eq_true (by first | (with_reducible assumption) | assumption)) q33 hroom33
              have hr33 := Kd.C_take (m := (a2 : Int).toNat) hC33 (by omega)
              have hy33 : y343.length = (a2 : Int).toNat := (by rw [Ny343.out, List.length_take]; omega)
              rw [← Ny343.out] at hr33
              rw [← hy33] at hcut33
              have HR346 := Aside0.mk hr33
              have HC346 := Aside0.mk (show y343.length ≤ c1 from by omega)
              clear hr33 hC33 hroom33 hi033 hsz33
              have KY33 := Aside0.mk hy33
              clear hy33
              replace q33 := eq_true q33
              go_wp2_with (first | ((with_reducible refine gate_callee (f := 21) rfl ?_); refine goesL_ (some 48) rfl rfl Try.func21 (by kernel_rfl) rfl #[.slice A0_0 l0_0.length c0_0, .slice A1 y343.length c1] rfl (by (try simp only [List.map_toArray, List.map_cons, List.map_nil]); first | done | rfl | (simp only [List.length_drop, List.length_take]; rfl)) ?_; (with_reducible refine (feed_Covers.calls kj3 _ _ l0_0 (fun k_ => k_ < w.heap.size) _ _ y343 true _ ?side1 ?side2 ?side3 A26.out).mono ?_); (case side1 => exact Kd.CA (Kd.C_below HR0_0.out HB.out)); (case side2 => exact HC0_0.out); (case side3 => exact Kd.V_mk HC346.out (Kd.F_below (Kd.C_F k36_heap HR346.out) (LA HB.out))); rintro e w34 ⟨rfl, hb⟩; refine ⟨_, rfl, ?_⟩; replace HO342 := Aside0.mk (Kd.R_below (Kd.RA HO342.out) hb); replace BK329 := Aside0.mk (blk_below (BA BK329.out) hb); replace HB := Aside0.mk (below_step (LA HB.out) hb); (try clear hb); (try clear hb2); (try clear hk); (try clear hi); have q35 : (a2 : Int) ≤ ((l1.length : Int) : Int) := of_decide_eq_true (by first | (with_reducible assumption) | assumption); obtain ⟨i035, hi035, _, hsz35, _⟩ := info_parts info36; have hroom35 : l1.length ≤ c1 := HC1.out; have hC35 : Kd.C k36 _ A1 l1.length l1 := HR1.out; have q035 : (0 : Int) ≤ (a2 : Int) := of_decide_eq_true (by first | (with_reducible assumption) | assumption); have hcut35 := cut_from (P := Try.prog) 22 36 .i64 Try.underlying22 hi035 8 hsz35 A1 l1.length c1 a2 q035 q35; have hr35 := Kd.C_drop (m := (a2 : Int).toNat) (c := c1) hC35 (by omega) hroom35; obtain ⟨A35, hA35⟩ : ∃ A_, A_ = (if c1 = (a2 : Int).toNat then A1 else (A1 : Option Addr).map (·.add ((a2 : Int).toNat * 8))) := ⟨_, rfl⟩; obtain ⟨c35, hc35⟩ : ∃ c_, c_ = c1 - (a2 : Int).toNat := ⟨_, rfl⟩; have hy35 : y348.length = l1.length - (a2 : Int).toNat := (by rw [Ny348.out, List.length_drop] <;> omega); rw [show (l1).drop (a2 : Int).toNat = y348 from Ny348.out.symm] at hr35; replace hr35 : Kd.C k36 _ A35 y348.length y348 := (by rw [hA35]; exact hr35); rw [← hy35, ← hA35, ← hc35] at hcut35; have HR351 := Aside0.mk hr35; have HC351 := Aside0.mk (show y348.length ≤ c35 from by rw [hy35, hc35]; exact Nat.sub_le_sub_right hroom35 _); clear hr35 hC35 hroom35 hi035 hsz35 hc35; have KY35 := Aside0.mk hy35; have KA35 := Aside0.mk hA35; clear hy35 hA35; replace q35 := eq_true q35) | (go_at_call 21; (with_reducible refine (feed_Covers.calls kj3 _ _ l0_1 (fun k_ => k_ < w.heap.size) _ _ y348 true _ ?side1 ?side2 ?side3 A30.out).mono ?_); (case side1 => exact Kd.CA (Kd.C_below HR0_1.out HB.out)); (case side2 => exact HC0_1.out); (case side3 => exact Kd.V_mk HC351.out (Kd.F_below (Kd.C_F k36_heap HR351.out) (LA HB.out))); rintro e w36 ⟨rfl, hb⟩; replace HO342 := Aside0.mk (Kd.R_below (Kd.RA HO342.out) hb); replace BK329 := Aside0.mk (blk_below (BA BK329.out) hb); replace HB := Aside0.mk (below_step (LA HB.out) hb); (try clear hb); (try clear hb2); (try clear hk); (try clear hi); obtain ⟨Ao37, co37, eo37⟩ := Kd.R_slice HO342.out; subst eo37) | (go_at_call 21; (with_reducible refine (feed_Covers.calls kj3 _ _ y340 (fun k_ => k_ < w.heap.size) _ _ l1 t353 _ ?side1 ?side2 ?side3 A32.out).mono ?_); (case side1 => exact Kd.CA (Kd.R_reads' HO342.out).2.2); (case side2 => exact (Kd.R_reads' HO342.out).2.1); (case side3 => exact Kd.V_mk HC1.out (Kd.F_below (Kd.C_F k36_heap HR1.out) (LA HB.out))); rintro e w38 ⟨rfl, hb⟩; replace BK329 := Aside0.mk (blk_below (BA BK329.out) hb); replace HB := Aside0.mk (below_step (LA HB.out) hb); clear HO342; (try clear hb); (try clear hb2); (try clear hk); (try clear hi)))
              go_meet
              case rel => exact ⟨_, (!t353), (by first | (rw [HR_.out]; done) | rfl | (rw [HR_.out]; rfl) | (simp [HR_.out]; done) | (simp; done) | (simp [*]; done)), H', ⟨by have := HJ3.out; first | omega | exact Nat.le_refl _⟩, ⟨by (with_reducible repeat (first | refine blk_drewN ?_ _ | refine blk_drew ?_ | refine blk_alloc ?_ _)); exact BK329.out⟩, ⟨LG HB.out (G1 GE329.out G0)⟩⟩
            · replace c31 := Bool.eq_false_iff.mpr c31
              subst c31
              have H1 : (hopperlaw14_FeedParts.j1 kj3 l1 false) = some true := by rw [if_neg (show ¬ (false = true) by decide)] at H; exact H
              clear H
              have H := H1
              clear H1
              have H' := Aside0.mk H
              clear H
              have q39 : (a2 : Int) ≤ ((l1.length : Int) : Int) := of_decide_eq_true (by first | (with_reducible assumption) | assumption)
              obtain ⟨i039, hi039, _, hsz39, _⟩ := info_parts info36
              have hroom39 : l1.length ≤ c1 := HC1.out
              have hC39 : Kd.C k36 _ A1 l1.length l1 := HR1.out
              have hcut39 := cut_to (P := Try.prog) 22 36 .i64 Try.underlying22 hi039 A1 l1.length c1 a2 (of_decide_eq_true (by first | (with_reducible assumption) | assumption)) q39 hroom39
              have hr39 := Kd.C_take (m := (a2 : Int).toNat) hC39 (by omega)
              have hy39 : y343.length = (a2 : Int).toNat := (by rw [Ny343.out, List.length_take]; omega)
              rw [← Ny343.out] at hr39
              rw [← hy39] at hcut39
              have HR346 := Aside0.mk hr39
              have HC346 := Aside0.mk (show y343.length ≤ c1 from by omega)
              clear hr39 hC39 hroom39 hi039 hsz39
              have KY39 := Aside0.mk hy39
              clear hy39
              replace q39 := eq_true q39
              go_wp2_with (first | ((with_reducible refine gate_callee (f := 21) rfl ?_); refine goesL_ (some 48) rfl rfl Try.func21 (by kernel_rfl) rfl #[.slice A0_0 l0_0.length c0_0, .slice A1 y343.length c1] rfl (by (try simp only [List.map_toArray, List.map_cons, List.map_nil]); first | done | rfl | (simp only [List.length_drop, List.length_take]; rfl)) ?_; (with_reducible refine (feed_Covers.calls kj3 _ _ l0_0 (fun k_ => k_ < w.heap.size) _ _ y343 true _ ?side1 ?side2 ?side3 A26.out).mono ?_); (case side1 => exact Kd.CA (Kd.C_below HR0_0.out HB.out)); (case side2 => exact HC0_0.out); (case side3 => exact Kd.V_mk HC346.out (Kd.F_below (Kd.C_F k36_heap HR346.out) (LA HB.out))); rintro e w40 ⟨rfl, hb⟩; refine ⟨_, rfl, ?_⟩; replace BK329 := Aside0.mk (blk_below (BA BK329.out) hb); replace HB := Aside0.mk (below_step (LA HB.out) hb); (try clear HO342); (try clear hb); (try clear hb2); (try clear hk); (try clear hi); have q41 : (a2 : Int) ≤ ((l1.length : Int) : Int) := of_decide_eq_true (by first | (with_reducible assumption) | assumption); obtain ⟨i041, hi041, _, hsz41, _⟩ := info_parts info36; have hroom41 : l1.length ≤ c1 := HC1.out; have hC41 : Kd.C k36 _ A1 l1.length l1 := HR1.out; have q041 : (0 : Int) ≤ (a2 : Int) := of_decide_eq_true (by first | (with_reducible assumption) | assumption); have hcut41 := cut_from (P := Try.prog) 22 36 .i64 Try.underlying22 hi041 8 hsz41 A1 l1.length c1 a2 q041 q41; have hr41 := Kd.C_drop (m := (a2 : Int).toNat) (c := c1) hC41 (by omega) hroom41; obtain ⟨A41, hA41⟩ : ∃ A_, A_ = (if c1 = (a2 : Int).toNat then A1 else (A1 : Option Addr).map (·.add ((a2 : Int).toNat * 8))) := ⟨_, rfl⟩; obtain ⟨c41, hc41⟩ : ∃ c_, c_ = c1 - (a2 : Int).toNat := ⟨_, rfl⟩; have hy41 : y348.length = l1.length - (a2 : Int).toNat := (by rw [Ny348.out, List.length_drop] <;> omega); rw [show (l1).drop (a2 : Int).toNat = y348 from Ny348.out.symm] at hr41; replace hr41 : Kd.C k36 _ A41 y348.length y348 := (by rw [hA41]; exact hr41); rw [← hy41, ← hA41, ← hc41] at hcut41; have HR351 := Aside0.mk hr41; have HC351 := Aside0.mk (show y348.length ≤ c41 from by rw [hy41, hc41]; exact Nat.sub_le_sub_right hroom41 _); clear hr41 hC41 hroom41 hi041 hsz41 hc41; have KY41 := Aside0.mk hy41; have KA41 := Aside0.mk hA41; clear hy41 hA41; replace q41 := eq_true q41) | (go_at_call 21; (with_reducible refine (feed_Covers.calls kj3 _ _ l0_1 (fun k_ => k_ < w.heap.size) _ _ y348 false _ ?side1 ?side2 ?side3 A30.out).mono ?_); (case side1 => exact Kd.CA (Kd.C_below HR0_1.out HB.out)); (case side2 => exact HC0_1.out); (case side3 => exact Kd.V_mk HC351.out (Kd.F_below (Kd.C_F k36_heap HR351.out) (LA HB.out))); rintro e w42 ⟨rfl, hb⟩; replace BK329 := Aside0.mk (blk_below (BA BK329.out) hb); replace HB := Aside0.mk (below_step (LA HB.out) hb); (try clear HO342); (try clear hb); (try clear hb2); (try clear hk); (try clear hi)))
              go_meet
              case rel => exact ⟨_, (false), (by first | (rw [HR_.out]; done) | rfl | (rw [HR_.out]; rfl) | (simp [HR_.out]; done) | (simp; done) | (simp [*]; done)), H', ⟨by have := HJ3.out; first | omega | exact Nat.le_refl _⟩, ⟨by (with_reducible repeat (first | refine blk_drewN ?_ _ | refine blk_drew ?_ | refine blk_alloc ?_ _)); exact BK329.out⟩, ⟨LG HB.out (G1 GE329.out G0)⟩⟩
          · replace c27 := Bool.eq_false_iff.mpr c27
            subst c27
            have H1 : (hopperlaw14_FeedParts.j1 kj3 l1 false) = some true := by rw [if_neg (show ¬ (false = true) by decide)] at H; exact H
            clear H
            have H := H1
            clear H1
            have H' := Aside0.mk H
            clear H
            have q43 : (a2 : Int) ≤ ((l1.length : Int) : Int) := of_decide_eq_true (by first | (with_reducible assumption) | assumption)
            obtain ⟨i043, hi043, _, hsz43, _⟩ := info_parts info36
            have hroom43 : l1.length ≤ c1 := HC1.out
            have hC43 : Kd.C k36 _ A1 l1.length l1 := HR1.out
            have hcut43 := cut_to (P := Try.prog) 22 36 .i64 Try.underlying22 hi043 A1 l1.length c1 a2 (of_decide_eq_true (by first | (with_reducible assumption) | assumption)) q43 hroom43
            have hr43 := Kd.C_take (m := (a2 : Int).toNat) hC43 (by omega)
            have hy43 : y343.length = (a2 : Int).toNat := (by rw [Ny343.out, List.length_take]; omega)
            rw [← Ny343.out] at hr43
            rw [← hy43] at hcut43
            have HR346 := Aside0.mk hr43
            have HC346 := Aside0.mk (show y343.length ≤ c1 from by omega)
            clear hr43 hC43 hroom43 hi043 hsz43
            have KY43 := Aside0.mk hy43
            clear hy43
            replace q43 := eq_true q43
            go_wp2_with (first | ((with_reducible refine gate_callee (f := 21) rfl ?_); refine goesL_ (some 48) rfl rfl Try.func21 (by kernel_rfl) rfl #[.slice A0_0 l0_0.length c0_0, .slice A1 y343.length c1] rfl (by (try simp only [List.map_toArray, List.map_cons, List.map_nil]); first | done | rfl | (simp only [List.length_drop, List.length_take]; rfl)) ?_; (with_reducible refine (feed_Covers.calls kj3 _ _ l0_0 (fun k_ => k_ < w.heap.size) _ _ y343 false _ ?side1 ?side2 ?side3 A26.out).mono ?_); (case side1 => exact Kd.CA (Kd.C_below HR0_0.out HB.out)); (case side2 => exact HC0_0.out); (case side3 => exact Kd.V_mk HC346.out (Kd.F_below (Kd.C_F k36_heap HR346.out) (LA HB.out))); rintro e w44 ⟨rfl, hb⟩; refine ⟨_, rfl, ?_⟩; replace BK329 := Aside0.mk (blk_below (BA BK329.out) hb); replace HB := Aside0.mk (below_step (LA HB.out) hb); (try clear HO342); (try clear hb); (try clear hb2); (try clear hk); (try clear hi)))
            go_meet
            case rel => exact ⟨_, (false), (by first | (rw [HR_.out]; done) | rfl | (rw [HR_.out]; rfl) | (simp [HR_.out]; done) | (simp; done) | (simp [*]; done)), H', ⟨by have := HJ3.out; first | omega | exact Nat.le_refl _⟩, ⟨by (with_reducible repeat (first | refine blk_drewN ?_ _ | refine blk_drew ?_ | refine blk_alloc ?_ _)); exact BK329.out⟩, ⟨LG HB.out (G1 GE329.out G0)⟩⟩
        case rest =>
          clear HC19
          try clear c1
          try clear c2
          try clear p2
          try clear c3
          try clear q3
          try clear c4
          try clear q4
          try clear c7
          try clear c8
          try clear c9
          try clear c10
          try clear c12
          try clear c13
          try clear c13b0
          try clear c14
          try clear c17
          try clear c18
          try clear c21
          try clear c24
          try clear c24b0
          try clear c24b1
          try clear c25
          try clear c25b0
          try clear c25b1
          try clear c27
          try clear c28
          try clear c28b0
          try clear c29
          try clear c29b0
          try clear c31
          try clear q33
          try clear c35
          try clear q35
          try clear q39
          try clear c41
          try clear q41
          try clear q43
          try clear hcz6_0
          try clear hcz6_1
          try clear hfz6_0
          try clear hfz6_1
          try clear p2
          try clear q035
          try clear q041
          try clear q33
          try clear q35
          try clear q39
          try clear q41
          try clear q43
          obtain ⟨kq, x61_18, rfl, HA, HJ18, BK329, HB⟩ := hcut
          cases kq with
          | zero => exact absurd HA.out (by simp [hopperlaw14_FeedParts.j1])
          | succ kj18 =>
            have H := HA.out
            clear HA
            simp only [hopperlaw14_FeedParts.j1] at H
            by_cases c45 : x61_18 = true
            · subst c45
              have H1 : (some false) = some true := by rw [if_pos rfl] at H; exact H
              clear H
              have H := H1
              clear H1
              exact absurd H (by simp)
            · replace c45 := Bool.eq_false_iff.mpr c45
              subst c45
              have H1 : ((feed_Covers.f kj18 (([(⟨4, (⟨0, 0, 0, 0, 0, (⟨#[]⟩ : ByteArray)⟩ : S34), (l1.length : Int)⟩ : S36)] : List (S36))) l1).bind fun t357 => (if (t357 == (decide ((l1.length : Int) > 0))) = true then ((hopperlaw14_live.f kj18).bind fun t358 => (some t358)) else (some false))) = some true := by rw [if_neg (show ¬ (false = true) by decide)] at H; exact H
              clear H
              have H := H1
              clear H1
              obtain ⟨y354, hy354⟩ : ∃ y_ : List (S36), y_ = (([(⟨4, (⟨0, 0, 0, 0, 0, (⟨#[]⟩ : ByteArray)⟩ : S34), (l1.length : Int)⟩ : S36)] : List (S36))) := ⟨_, rfl⟩
              replace H : ((feed_Covers.f kj18 y354 l1).bind fun t357 => (if (t357 == (decide ((l1.length : Int) > 0))) = true then ((hopperlaw14_live.f kj18).bind fun t358 => (some t358)) else (some false))) = some true := by first | (rw [hy354]; with_reducible exact H) | (have H2_ := (Option.bind_some _ _).symm.trans H; rw [hy354]; with_reducible exact H2_) | (have H2_ := (Option.bind_some _ _).symm.trans H; with_reducible exact H2_) | with_reducible exact H | (rw [hy354]; exact H) | exact H
              have Ny354 := Aside0.mk hy354
              clear hy354
              replace H := Option.bind_eq_some_iff.mp H
              obtain ⟨t357, A460, H⟩ := H
              try dsimp only at H
              have A46 := Aside0.mk A460
              clear A460
              by_cases c47 : (t357 == (decide ((l1.length : Int) > 0))) = true
              rotate_left
              · rw [if_neg c47] at H
                have c47b0 : (t357 == (decide ((l1.length : Int) > 0))) = false := by simpa using c47
                (try (have c47b1 : decide (t357 = (decide ((l1.length : Int) > 0))) = false := by simpa using c47))
                (try (have c47b2 : (t357 == (decide ((l1.length : Int) > 0))) = false := by simpa using c47))
                (try (have c47b3 : ¬ (t357 = (decide ((l1.length : Int) > 0))) := by simpa using c47))
                clear c47
                exact absurd H (by simp)
              rw [if_pos c47] at H
              have c47b0 : (t357 == (decide ((l1.length : Int) > 0))) = true := c47
              have c47n : (t357 = decide (0 < l1.length)) = True := eq_true ((beq_iff_eq.mp c47).trans (decide_eq_decide.mpr (by omega)))
              have c47m : (t357 == decide (0 < l1.length)) = true := beq_iff_eq.mpr (of_eq_true c47n)
              (try (have c47b1 : decide (t357 = (decide ((l1.length : Int) > 0))) = true := by simpa using c47))
              (try (have c47b2 : (t357 == (decide ((l1.length : Int) > 0))) = true := by simpa using c47))
              clear c47
              replace H := Option.bind_eq_some_iff.mp H
              obtain ⟨t358, A480, H⟩ := H
              try dsimp only at H
              have A48 := Aside0.mk A480
              clear A480
              have HR_ := Aside0.mk (Option.some.inj H)
              clear H
              go_wp2_with (first | ((with_reducible refine gate_dst (N := 65) rfl ?_); (try (refine gate_guard (by rfl) ?_; dsimp only)); refine Kd.R_lit k36 _ 36 ?hg (N := 65) ?hd (xs := ([(⟨4, (⟨0, 0, 0, 0, 0, (⟨#[]⟩ : ByteArray)⟩ : S34), (l1.length : Int)⟩ : S36)] : List (S36))) (inner := [.int .i64 4, .int .i64 0, .int .i64 0, .int .i64 0, .int .i64 0, .int .i64 0, .string (⟨#[]⟩ : ByteArray), .int .i64 (l1.length : Int)]) (ok := fun _ => True) (okp := fun _ => True) ?hr ?hp (fun _ hk => hk) trivial (Below.refl _ _) (Nat.le_refl _) (by simp) ?_; (case hd => rfl); (case hg => rfl); (case hr => first | (go_simp; done) | (go_simp; rfl)); (case hp => exact (Reps.c8 (show Kd.M k36 _ _ _ (⟨4, (⟨0, 0, 0, 0, 0, (⟨#[]⟩ : ByteArray)⟩ : S34), (l1.length : Int)⟩ : S36) [.int .i64 4, .int .i64 0, .int .i64 0, .int .i64 0, .int .i64 0, .int .i64 0, .string (⟨#[]⟩ : ByteArray), .int .i64 (l1.length : Int)] from (k36_mkM _ _ _ (⟨4, (⟨0, 0, 0, 0, 0, (⟨#[]⟩ : ByteArray)⟩ : S34), (l1.length : Int)⟩ : S36) )) (Reps.none _ _))); intro v355 w49 ho50 hb hg_ hnew_; clear hg_ hnew_; (first | rw [← Ny354.out] at ho50 | (simp only [Int.reduceToNat] at ho50; rw [← Ny354.out] at ho50)); have HO356 := Aside0.mk (Kd.R_lower ho50 (below_size (LA HB.out))); replace HB := Aside0.mk (below_step (LA HB.out) hb); (try clear BK329); clear hb ho50; obtain ⟨Ao51, co51, eo51⟩ := Kd.R_slice HO356.out; subst eo51) | ((with_reducible refine gate_callee (f := 21) rfl ?_); refine goesL_ (some 67) rfl rfl Try.func21 (by kernel_rfl) rfl #[.slice Ao51 y354.length co51, .slice A1 l1.length c1] rfl (by (try simp only [List.map_toArray, List.map_cons, List.map_nil]); first | done | rfl | (simp only [List.length_drop, List.length_take]; rfl)) ?_; (with_reducible refine (feed_Covers.calls kj18 _ _ y354 (fun k_ => k_ < w.heap.size) _ _ l1 t357 _ ?side1 ?side2 ?side3 A46.out).mono ?_); (case side1 => exact Kd.CA (Kd.R_reads' HO356.out).2.2); (case side2 => exact (Kd.R_reads' HO356.out).2.1); (case side3 => exact Kd.V_mk HC1.out (Kd.F_below (Kd.C_F k36_heap HR1.out) (LA HB.out))); rintro e w52 ⟨rfl, hb⟩; refine ⟨_, rfl, ?_⟩; replace HB := Aside0.mk (below_step (LA HB.out) hb); clear HO356; (try clear BK329); (try clear hb); (try clear hb2); (try clear hk); (try clear hi)) | (go_at_call 10; (with_reducible refine (hopperlaw14_live.calls kj18  t358 _ A48.out).mono ?_); rintro e w53 ⟨rfl, hb⟩; replace HB := Aside0.mk (below_step (LA HB.out) hb); (try clear HO356); (try clear BK329); (try clear hb); (try clear hb2); (try clear hk); (try clear hi)))
              go_ret
              exact ⟨by first | exact (congrArg (fun b => Ending.returned (.bool b)) HR_.out) | (rw [HR_.out]; done) | rfl | (rw [HR_.out]; rfl) | (simp [HR_.out]; done) | (simp [errW_none, errW_some] <;> rfl) | (simp [*, errW_none, errW_some] <;> rfl), LG HB.out (G1 GE329.out G0)⟩

-- GIVEN hopperlaw14_FeedParts

end Go.Proofs.Ythmnedlaecekkaa.PFeedParts
