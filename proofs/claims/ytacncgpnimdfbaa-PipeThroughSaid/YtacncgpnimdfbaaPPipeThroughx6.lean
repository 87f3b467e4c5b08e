/- What the functions that the law reaches answer, each as a plain Lean function, with a proof that the call in memory comes to that answer. Written by wip/tools/given.py of this session out of the print.py of the kit, with stand-ins for some functions. -/
import Derived.Test.YtacncgpnimdfbaaPPipeThroughx0
import Derived.Test.YtacncgpnimdfbaaPPipeThroughx3
import Derived.Test.YtacncgpnimdfbaaPPipeThroughx4
import Derived.Test.YtacncgpnimdfbaaPPipeThroughx5
namespace Go.Proofs.Ytacncgpnimdfbaa.PPipeThrough
open Go.RowKit Go.Proofs.YtacncgpnimdfbaaW.PrintWords Go.Proofs.YtacncgpnimdfbaaW.PrintLast Go.Proofs.YtacncgpnimdfbaaW.PrintMore
attribute [local go_sem] max2_int min2_int max_two min_two max_three min_three max_four min_four   -- for this text's walks alone
set_option linter.unusedVariables false
set_option linter.unusedSimpArgs false

/-! ### hopperlaw08_PipeThrough: function 6 -/
mutual
def hopperlaw08_PipeThrough.j0 : Nat → Int → List (S26) → Bool → Int → Bool → List (S36) → Option (Bool)
  | 0, _, _, _, _, _, _ => none
  | k + 1, x0, x1, x29, x270000, x270001, x270002 => if x29 = true then ((hopperlaw08_live.f).bind fun t270 => (some t270)) else (hopperlaw08_PipeThrough.l0 k x0 x1 ([] : List (S26)) 0 x270000 x270001 x270002)
def hopperlaw08_PipeThrough.l0 : Nat → Int → List (S26) → List (S26) → Int → Int → Bool → List (S36) → Option (Bool)
  | 0, _, _, _, _, _, _, _ => none
  | k + 1, x0, x1, x7, x8, x270000, x270001, x270002 => if x8 < (x1.length : Int) then (if 0 ≤ x8 then ((pipe_Pipe_Send.f x270000 x270001 x270002 ((rd_T26 x1 x8).f0) ((rd_T26 x1 x8).f1) ((rd_T26 x1 x8).f2)).bind fun bt272 => (if bt272.2.2.2 = 6 then ((pipe_Pipe_Take.f x270000 x270001 x270002).bind fun bt279 => (if x7.length < 4398046511104 then ((pipe_Pipe_Send.f bt279.1 bt279.2.1 bt279.2.2.1 ((rd_T26 x1 x8).f0) ((rd_T26 x1 x8).f1) ((rd_T26 x1 x8).f2)).bind fun bt294 => (if bt294.2.2.2 = 0 then (hopperlaw08_PipeThrough.l0 k x0 x1 (x7 ++ [(⟨bt279.2.2.2.1, bt279.2.2.2.2.1, bt279.2.2.2.2.2.1⟩ : S26)]) (wrap64 (x8 + 1)) bt294.1 bt294.2.1 bt294.2.2.1) else (some false))) else (none))) else (if bt272.2.2.2 = 0 then (hopperlaw08_PipeThrough.l0 k x0 x1 x7 (wrap64 (x8 + 1)) bt272.1 bt272.2.1 bt272.2.2.1) else (some false)))) else (none)) else (hopperlaw08_PipeThrough.l1 k x0 x1 x7 0 x270000 x270001 x270002)
def hopperlaw08_PipeThrough.l1 : Nat → Int → List (S26) → List (S26) → Int → Int → Bool → List (S36) → Option (Bool)
  | 0, _, _, _, _, _, _, _ => none
  | k + 1, x0, x1, x7, x14, x270000, x270001, x270002 => if x14 ≤ x0 then ((pipe_Pipe_Take.f x270000 x270001 x270002).bind fun bt300 => (if bt300.2.2.2.2.2.2 = 0 then (if x7.length < 4398046511104 then (hopperlaw08_PipeThrough.l1 k x0 x1 (x7 ++ [(⟨bt300.2.2.2.1, bt300.2.2.2.2.1, bt300.2.2.2.2.2.1⟩ : S26)]) (wrap64 (x14 + 1)) bt300.1 bt300.2.1 bt300.2.2.1) else (none)) else (hopperlaw08_PipeThrough.l1 k x0 x1 x7 (wrap64 (x14 + 1)) bt300.1 bt300.2.1 bt300.2.2.1))) else (if (x270002.length : Int) = 0 then ((hopperref08_Same.f k 0 false x7 0 false x1).bind fun t314 => (if t314 = true then ((hopperlaw08_live.f).bind fun t315 => (some t315)) else (some false))) else (some false))
end
def hopperlaw08_PipeThrough.f (k : Nat) (a0 : Int) (l1 : List (S26)) : Option (Bool) := (pipe_New.f a0).bind fun bt263 => (if (l1.length : Int) > 60 then (hopperlaw08_PipeThrough.j0 k a0 l1 true bt263.1 bt263.2.1 bt263.2.2.1) else (hopperlaw08_PipeThrough.j0 k a0 l1 (bt263.2.2.2 != 0) bt263.1 bt263.2.1 bt263.2.2.1))
theorem hopperlaw08_PipeThrough.mono_l : ∀ k, (∀ y0 y1 y2 y3 y4 y5, LeO (hopperlaw08_PipeThrough.j0 k y0 y1 y2 y3 y4 y5) (hopperlaw08_PipeThrough.j0 (k + 1) y0 y1 y2 y3 y4 y5)) ∧ (∀ y0 y1 y2 y3 y4 y5 y6, LeO (hopperlaw08_PipeThrough.l0 k y0 y1 y2 y3 y4 y5 y6) (hopperlaw08_PipeThrough.l0 (k + 1) y0 y1 y2 y3 y4 y5 y6)) ∧ (∀ y0 y1 y2 y3 y4 y5 y6, LeO (hopperlaw08_PipeThrough.l1 k y0 y1 y2 y3 y4 y5 y6) (hopperlaw08_PipeThrough.l1 (k + 1) y0 y1 y2 y3 y4 y5 y6))
  | 0 => ⟨fun _ _ _ _ _ _ r h => by simp [hopperlaw08_PipeThrough.j0] at h, fun _ _ _ _ _ _ _ r h => by simp [hopperlaw08_PipeThrough.l0] at h, fun _ _ _ _ _ _ _ r h => by simp [hopperlaw08_PipeThrough.l1] at h⟩
  | k + 1 => by
    obtain ⟨ih0, ih1, ih2⟩ := hopperlaw08_PipeThrough.mono_l k
    refine ⟨?_, ?_, ?_⟩
    · intro y0 y1 y2 y3 y4 y5
      unfold hopperlaw08_PipeThrough.j0
      repeat' first
      | (with_reducible exact ih0 _ _ _ _ _ _)
      | (with_reducible exact ih1 _ _ _ _ _ _ _)
      | (with_reducible exact ih2 _ _ _ _ _ _ _)
      | (with_reducible exact hopperref08_Same.mono _ _ _ _ _ _ _)
      | (with_reducible exact LeO.refl _)
      | (with_reducible exact LeO.none _)
      | (with_reducible refine LeO.ite ?_ ?_)
      | (with_reducible refine LeO.bind ?_ (fun _ => ?_))
      | exact ih0 _ _ _ _ _ _
      | exact ih1 _ _ _ _ _ _ _
      | exact ih2 _ _ _ _ _ _ _
      | exact hopperref08_Same.mono _ _ _ _ _ _ _
      | exact LeO.none _
      | refine LeO.ite ?_ ?_
      | refine LeO.bind ?_ (fun _ => ?_)
    · intro y0 y1 y2 y3 y4 y5 y6
      unfold hopperlaw08_PipeThrough.l0
      repeat' first
      | (with_reducible exact ih0 _ _ _ _ _ _)
      | (with_reducible exact ih1 _ _ _ _ _ _ _)
      | (with_reducible exact ih2 _ _ _ _ _ _ _)
      | (with_reducible exact hopperref08_Same.mono _ _ _ _ _ _ _)
      | (with_reducible exact LeO.refl _)
      | (with_reducible exact LeO.none _)
      | (with_reducible refine LeO.ite ?_ ?_)
      | (with_reducible refine LeO.bind ?_ (fun _ => ?_))
      | exact ih0 _ _ _ _ _ _
      | exact ih1 _ _ _ _ _ _ _
      | exact ih2 _ _ _ _ _ _ _
      | exact hopperref08_Same.mono _ _ _ _ _ _ _
      | exact LeO.none _
      | refine LeO.ite ?_ ?_
      | refine LeO.bind ?_ (fun _ => ?_)
    · intro y0 y1 y2 y3 y4 y5 y6
      unfold hopperlaw08_PipeThrough.l1
      repeat' first
      | (with_reducible exact ih0 _ _ _ _ _ _)
      | (with_reducible exact ih1 _ _ _ _ _ _ _)
      | (with_reducible exact ih2 _ _ _ _ _ _ _)
      | (with_reducible exact hopperref08_Same.mono _ _ _ _ _ _ _)
      | (with_reducible exact LeO.refl _)
      | (with_reducible exact LeO.none _)
      | (with_reducible refine LeO.ite ?_ ?_)
      | (with_reducible refine LeO.bind ?_ (fun _ => ?_))
      | exact ih0 _ _ _ _ _ _
      | exact ih1 _ _ _ _ _ _ _
      | exact ih2 _ _ _ _ _ _ _
      | exact hopperref08_Same.mono _ _ _ _ _ _ _
      | exact LeO.none _
      | refine LeO.ite ?_ ?_
      | refine LeO.bind ?_ (fun _ => ?_)
theorem hopperlaw08_PipeThrough.mono : ∀ a0 a1 k, LeO (hopperlaw08_PipeThrough.f k a0 a1) (hopperlaw08_PipeThrough.f (k + 1) a0 a1) := by
  intro a0 a1 k
  obtain ⟨ih0, ih1, ih2⟩ := hopperlaw08_PipeThrough.mono_l k
  unfold hopperlaw08_PipeThrough.f
  repeat' first
      | (with_reducible exact ih0 _ _ _ _ _ _)
      | (with_reducible exact ih1 _ _ _ _ _ _ _)
      | (with_reducible exact ih2 _ _ _ _ _ _ _)
      | (with_reducible exact hopperref08_Same.mono _ _ _ _ _ _ _)
      | (with_reducible exact LeO.refl _)
      | (with_reducible exact LeO.none _)
      | (with_reducible refine LeO.ite ?_ ?_)
      | (with_reducible refine LeO.bind ?_ (fun _ => ?_))
      | exact ih0 _ _ _ _ _ _
      | exact ih1 _ _ _ _ _ _ _
      | exact ih2 _ _ _ _ _ _ _
      | exact hopperref08_Same.mono _ _ _ _ _ _ _
      | exact LeO.none _
      | refine LeO.ite ?_ ?_
      | refine LeO.bind ?_ (fun _ => ?_)
def hopperlaw08_PipeThrough.T8 : Bool × List (List Nat × List Nat) := (true, [([], []), ([], []), ([], []), ([1, 2], [1, 2]), ([3], [3]), ([0, 4], [0, 4]), ([5], [5]), ([6], [6]), ([6], [6]), ([], []), ([9, 7, 5, 0, 1, 2, 3, 4, 5, 6, 7, 9], [7, 9]), ([8, 10, 0, 1, 2, 3, 4, 5, 6, 7, 8, 9, 10], [8])])
def hopperlaw08_PipeThrough.B8 : List Nat := [0, 0, 0, 6, 14, 31, 63, 127, 127, 0, 767, 2047]
theorem hopperlaw08_PipeThrough.tab8 : rtab .any (opsOf Try.f6 8) = hopperlaw08_PipeThrough.T8 := by kernel_rfl
theorem hopperlaw08_PipeThrough.bits8 : waitsOk hopperlaw08_PipeThrough.T8.2 hopperlaw08_PipeThrough.B8 = true := by kernel_rfl
def hopperlaw08_PipeThrough.T12 : Bool × List (List Nat × List Nat) := (true, [([], []), ([], []), ([], []), ([1, 2], [1, 2]), ([3], [3]), ([0, 4], [0, 4]), ([5], [5]), ([6], [6]), ([6], [6]), ([7, 5, 0, 1, 2, 3, 4, 5, 6, 7], [7]), ([8, 9, 0, 1, 2, 3, 4, 5, 6, 7, 8, 9], [8])])
def hopperlaw08_PipeThrough.B12 : List Nat := [0, 0, 0, 6, 14, 31, 63, 127, 127, 255, 1023]
theorem hopperlaw08_PipeThrough.tab12 : rtab .any (opsOf Try.f6 12) = hopperlaw08_PipeThrough.T12 := by kernel_rfl
theorem hopperlaw08_PipeThrough.bits12 : waitsOk hopperlaw08_PipeThrough.T12.2 hopperlaw08_PipeThrough.B12 = true := by kernel_rfl
set_option maxHeartbeats 60000000 in
set_option maxRecDepth 100000 in
theorem hopperlaw08_PipeThrough.callsT (k : Nat) (a0 : Int) (A1 : Option Addr) (c1 : Nat) (l1 : List (S26)) (w : World) (hr1 : Kd.C k26 w A1 l1.length l1) (hc1 : l1.length ≤ c1) (h : hopperlaw08_PipeThrough.f k a0 l1 = some true) :
    Calls Try.prog 6 #[.int .i64 a0, .slice A1 l1.length c1] w fun e w' => e = .returned (.bool true) ∧ Below w.heap.size w w' := by
  have hu31 := Try.underlying31
  have hu26 := Try.underlying26
  have hu36 := Try.underlying36
  have hu24 := Try.underlying24
  have HR1 := Aside0.mk hr1
  have HC1 := Aside0.mk hc1
  clear hr1 hc1
  have HB := Aside0.mk (Below.refl w.heap.size w)
  have H : ((pipe_New.f a0).bind fun bt263 => (if (l1.length : Int) > 60 then (hopperlaw08_PipeThrough.j0 k a0 l1 true bt263.1 bt263.2.1 bt263.2.2.1) else (hopperlaw08_PipeThrough.j0 k a0 l1 (bt263.2.2.2 != 0) bt263.1 bt263.2.1 bt263.2.2.1))) = some true := h
  clear h
  replace H := Option.bind_eq_some_iff.mp H
  obtain ⟨⟨t263, t264, t265, t268⟩, A30, H⟩ := H
  try dsimp only at H
  have A3 := Aside0.mk A30
  clear A30
  have HC4 := Aside0.mk H
  clear H
  go_enter Try.func6, Try.ntmps6
  go_upto_region 2 with (first | ((with_reducible refine gate_callee (f := 16) rfl ?_); refine goesL_ (some 20) rfl rfl Try.func16 (by kernel_rfl) rfl #[.int .i64 a0] rfl (by (try simp only [List.map_toArray, List.map_cons, List.map_nil]); first | done | rfl | (simp only [List.length_drop, List.length_take]; rfl)) ?_; (with_reducible refine (pipe_New.calls a0 t263 t264 t265 t268 _ A3.out).mono ?_); rintro e w5 ⟨v266, rfl, ho0, hb⟩; refine ⟨_, rfl, ?_⟩; have HO267 := Aside0.mk (Kd.R_lower ho0 (below_size (LA HB.out))); replace HB := Aside0.mk (below_step (LA HB.out) hb); (try clear hb); (try clear hb2); (try clear hk); (try clear hi); (try clear ho0)) | ((with_reducible refine gate_dst (N := 5) rfl ?_); refine box_event ?hg (N := 5) ?hd (cs := #[.int .i64 0, .bool false, .slice none 0 0]) (t := 31) ?hr ?_; (case hd => rfl); (case hg => rfl); (case hr => first | (go_simp; done) | (go_simp; rfl)); intro gb269 hg w6 hbox hb; replace HO267 := Aside0.mk (Kd.R_below (Kd.RA HO267.out) hb); have BK269 := Aside0.mk (hbox); have GE269 := Aside0.mk (ge1 hg (LA HB.out)); replace HB := Aside0.mk (below_step (LA HB.out) hb); clear hb hbox hg; obtain ⟨hcz7_0, hcz7_1, hcz7_2, hfz7_0, hfz7_1, hfz7_2⟩ := cz3 BK269.out; obtain ⟨Ao8, co8, eo8⟩ := Kd.R_slice HO267.out; subst eo8))
  (try simp only [Act.put, PU])
  go_cut [29] (fun v29 wc => ∃ (kq : Nat) (x29_3 : Bool), v29 = .bool x29_3 ∧ Aside0 (hopperlaw08_PipeThrough.j0 kq a0 l1 x29_3 t263 t264 t265 = some true) ∧ Aside0 (kq ≤ k) ∧ Aside0 (Kd.R k36 36 wc w.heap.size (fun _ => True) (.slice Ao8 t265.length co8) t265) ∧ Aside0 (wc.heap[gb269]? = some (.cells #[.int .i64 t263, .bool t264, (.slice Ao8 t265.length co8)] 31 (0, 0))) ∧ Aside0 (Below w.heap.size w wc))
  case first =>
    have H := HC4.out
    clear HC4
    by_cases c9 : (l1.length : Int) > 60
    · rw [if_pos c9] at H
      have c9b0 : decide (60 < (l1.length : Int)) = true := decide_eq_true c9
      have c9b1 : decide (60 < l1.length) = true := decide_eq_true (by omega)
      clear c9
      (first | rw [c9b0] | (simp only [i64_w, i32_w]; rw [c9b0]) | skip)
      have H' := Aside0.mk H
      clear H
      go_wp2
      go_meet
      case rel => exact ⟨_, (true), (by first | exact (congrArg (fun b => Ending.returned (.bool b)) HR_.out) | (rw [HR_.out]; done) | rfl | (rw [HR_.out]; rfl) | (simp [HR_.out]; done) | (simp; done) | (simp [*]; done)), H', ⟨by first | omega | exact Nat.le_refl _⟩, ⟨by (with_reducible repeat (first | apply Kd.R_alloc | apply Kd.R_drewN | apply Kd.R_drew)); exact Kd.R_mono (Kd.R_mv (g := gb269) (Kd.R_types HO267.out BK269.out (by decide)) (fun _ hk => hk.2)) (fun _ hk => trivial)⟩, ⟨by exact BP BK269.out (by rfl)⟩, ⟨LG HB.out (G1 GE269.out G0)⟩⟩
    · rw [if_neg c9] at H
      have c9b0 : decide (60 < (l1.length : Int)) = false := decide_eq_false c9
      have c9b1 : decide (60 < l1.length) = false := decide_eq_false (by omega)
      clear c9
      (first | rw [c9b0] | (simp only [i64_w, i32_w]; rw [c9b0]) | skip)
      have H' := Aside0.mk H
      clear H
      go_wp2
      go_meet
      case rel => exact ⟨_, ((t268 != 0)), (by first | exact (congrArg (fun b => Ending.returned (.bool b)) HR_.out) | (rw [HR_.out]; done) | rfl | (rw [HR_.out]; rfl) | (simp [HR_.out]; done) | (simp; done) | (simp [*]; done)), H', ⟨by first | omega | exact Nat.le_refl _⟩, ⟨by (with_reducible repeat (first | apply Kd.R_alloc | apply Kd.R_drewN | apply Kd.R_drew)); exact Kd.R_mono (Kd.R_mv (g := gb269) (Kd.R_types HO267.out BK269.out (by decide)) (fun _ hk => hk.2)) (fun _ hk => trivial)⟩, ⟨by exact BP BK269.out (by rfl)⟩, ⟨LG HB.out (G1 GE269.out G0)⟩⟩
  case rest =>
    clear HC4
    try clear c1
    try clear p2
    try clear c6
    try clear c9
    try clear c9b0
    try clear c9b1
    try clear hcz7_0
    try clear hcz7_1
    try clear hcz7_2
    try clear hfz7_0
    try clear hfz7_1
    try clear hfz7_2
    obtain ⟨kq, x29_3, rfl, HA, HJ3, HO_270002, BK269, HB⟩ := hcut
    cases kq with
    | zero => exact absurd HA.out (by simp [hopperlaw08_PipeThrough.j0])
    | succ kj3 =>
      have H := HA.out
      clear HA
      simp only [hopperlaw08_PipeThrough.j0] at H
      by_cases c10 : x29_3 = true
      · subst c10
        have H1 : ((hopperlaw08_live.f).bind fun t270 => (some t270)) = some true := by rw [if_pos rfl] at H; exact H
        clear H
        have H := H1
        clear H1
        replace H := Option.bind_eq_some_iff.mp H
        obtain ⟨t270, A110, H⟩ := H
        try dsimp only at H
        have A11 := Aside0.mk A110
        clear A110
        have HR_ := Aside0.mk (Option.some.inj H)
        clear H
        go_wp2_with (first | ((with_reducible refine gate_callee (f := 8) rfl ?_); refine goesL_ (some 30) rfl rfl Try.func8 (by kernel_rfl) rfl #[] rfl (by (try simp only [List.map_toArray, List.map_cons, List.map_nil]); first | done | rfl | (simp only [List.length_drop, List.length_take]; rfl)) ?_; (with_reducible refine (hopperlaw08_live.calls  t270 _ A11.out).mono ?_); rintro e w12 ⟨rfl, hb⟩; refine ⟨_, rfl, ?_⟩; replace HB := Aside0.mk (below_step (LA HB.out) hb); (try clear HO_270002); (try clear BK269); (try clear hb); (try clear hb2); (try clear hk); (try clear hi)))
        go_ret
        exact ⟨by first | exact (congrArg (fun b => Ending.returned (.bool b)) HR_.out) | (rw [HR_.out]; done) | rfl | (rw [HR_.out]; rfl) | (simp [HR_.out]; done) | (simp [errW_none, errW_some] <;> rfl) | (simp [*, errW_none, errW_some] <;> rfl), LG HB.out (G1 GE269.out G0)⟩
      · replace c10 := Bool.eq_false_iff.mpr c10
        subst c10
        have H1 : (hopperlaw08_PipeThrough.l0 kj3 a0 l1 ([] : List (S26)) 0 t263 t264 t265) = some true := by rw [if_neg (show ¬ (false = true) by decide)] at H; exact H
        clear H
        have H := H1
        clear H1
        have H' := Aside0.mk H
        clear H
        go_wp2
        go_loopg [7, 8] kj3 (fun kq v7 v8 w' => ∃ (x7_2 : List (S26)) (x8_2 : Int) (x270000_2 : Int) (x270001_2 : Bool) (x270002_2 : List (S36)) (u270002 : Value), v8 = .int .i64 x8_2 ∧ Aside0 (hopperlaw08_PipeThrough.l0 kq a0 l1 x7_2 x8_2 x270000_2 x270001_2 x270002_2 = some true) ∧ Aside0 (kq ≤ kj3) ∧ Aside0 (Kd.R k26 26 w' w.heap.size (fun _ => True) v7 x7_2) ∧ Aside0 (Kd.V k36 36 w' w.heap.size (fun k_ => some k_ ≠ (v7 : Value).ownBlock ∧ k_ ≠ gb269) u270002 x270002_2) ∧ Aside0 (w'.heap[gb269]? = some (.cells #[.int .i64 x270000_2, .bool x270001_2, u270002] 31 (0, 0))) ∧ Aside0 (Below w.heap.size w w'))
        case atStart => exact ⟨(([] : List (S26))), (0), (t263), (t264), (t265), (.slice Ao8 t265.length co8), (by first | exact (congrArg (fun b => Ending.returned (.bool b)) HR_.out) | (rw [HR_.out]; done) | rfl | (rw [HR_.out]; rfl) | (simp [HR_.out]; done) | (simp; done) | (simp [*]; done)), H', ⟨Nat.le_refl _⟩, ⟨by first | exact Kd.R_nil _ _ _ _ _ | exact Kd.N_nil _ _ _ _ _ | exact Kd.V_nil _ _ _ _ _ | exact Kd.Q_nil _ _ _ _ _ | exact Kd.S_nil _ _ _ _ _⟩, ⟨Kd.R_V (Kd.RA (Kd.R_mono (Kd.R_types HO_270002.out BK269.out (by decide)) (fun _ hk => ⟨(by simp [Value.ownBlock]), hk.2⟩)))⟩, ⟨by (with_reducible repeat (first | refine blk_drewN ?_ _ | refine blk_drew ?_ | refine blk_alloc ?_ _)); exact BK269.out⟩, ⟨LG HB.out (G1 GE269.out G0)⟩⟩
        case round =>
          clear H'
          try clear c1
          try clear p2
          try clear c6
          try clear c8
          try clear c9
          try clear c9b0
          try clear c9b1
          try clear c10
          try clear hcz7_0
          try clear hcz7_1
          try clear hcz7_2
          try clear hfz7_0
          try clear hfz7_1
          try clear hfz7_2
          try clear p2
          obtain ⟨x7_2, x8_2, x270000_2, x270001_2, x270002_2, u270002, rfl, HA, HK2, HO_7, HO_270002, BK269, HB⟩ := hrel
          cases gk with
          | zero => exact absurd HA.out (by simp [hopperlaw08_PipeThrough.l0])
          | succ k2 =>
            have H := HA.out
            clear HA
            simp only [hopperlaw08_PipeThrough.l0] at H
            by_cases c13 : x8_2 < (l1.length : Int)
            · rw [if_pos c13] at H
              have c13b0 : decide (x8_2 < (l1.length : Int)) = true := decide_eq_true c13
              clear c13
              by_cases c14 : 0 ≤ x8_2
              rotate_left
              · rw [if_neg c14] at H
                exact absurd H (by simp)
              rw [if_pos c14] at H
              have c14b0 : decide (0 ≤ x8_2) = true := decide_eq_true c14
              clear c14
              replace H := Option.bind_eq_some_iff.mp H
              obtain ⟨⟨t272, t273, t274, t277⟩, A150, H⟩ := H
              try dsimp only at H
              have A15 := Aside0.mk A150
              clear A150
              by_cases c16 : t277 = 6
              · rw [if_pos c16] at H
                have c16b0 : (t277 == 6) = true := beq_iff_eq.mpr c16
                have c16b1 : (t277 != 6) = false := bne_eq_false_iff_eq.mpr c16
                clear c16
                replace H := Option.bind_eq_some_iff.mp H
                obtain ⟨⟨t279, t280, t281, t284, t285, t286, t287⟩, A170, H⟩ := H
                try dsimp only at H
                have A17 := Aside0.mk A170
                clear A170
                by_cases c18 : x7_2.length < 4398046511104
                rotate_left
                · rw [if_neg c18] at H
                  exact absurd H (by simp)
                rw [if_pos c18] at H
                have LMc18 := Aside0.mk c18
                clear c18
                obtain ⟨y290, hy290⟩ : ∃ y_ : List (S26), y_ = (x7_2 ++ [(⟨t284, t285, t286⟩ : S26)]) := ⟨_, rfl⟩
                replace H : ((pipe_Pipe_Send.f t279 t280 t281 ((rd_T26 l1 x8_2).f0) ((rd_T26 l1 x8_2).f1) ((rd_T26 l1 x8_2).f2)).bind fun bt294 => (if bt294.2.2.2 = 0 then (hopperlaw08_PipeThrough.l0 k2 a0 l1 y290 (wrap64 (x8_2 + 1)) bt294.1 bt294.2.1 bt294.2.2.1) else (some false))) = some true := by first | (rw [hy290]; with_reducible exact H) | (have H2_ := (Option.bind_some _ _).symm.trans H; rw [hy290]; with_reducible exact H2_) | (have H2_ := (Option.bind_some _ _).symm.trans H; with_reducible exact H2_) | with_reducible exact H | (rw [hy290]; exact H) | exact H
                have Ny290 := Aside0.mk hy290
                clear hy290
                replace H := Option.bind_eq_some_iff.mp H
                obtain ⟨⟨t294, t295, t296, t299⟩, A190, H⟩ := H
                try dsimp only at H
                have A19 := Aside0.mk A190
                clear A190
                by_cases c20 : t299 = 0
                rotate_left
                · rw [if_neg c20] at H
                  have c20b0 : (t299 == 0) = false := beq_eq_false_iff_ne.mpr c20
                  have c20b1 : (t299 != 0) = true := bne_iff_ne.mpr c20
                  exact absurd H (by simp)
                rw [if_pos c20] at H
                have c20b0 : (t299 == 0) = true := beq_iff_eq.mpr c20
                have c20b1 : (t299 != 0) = false := bne_eq_false_iff_eq.mpr c20
                clear c20
                have H' := Aside0.mk H
                clear H
                obtain ⟨Ao21, co21, eo21⟩ := Kd.V_slice HO_270002.out
                subst eo21
                try go_wp2
                have n0_ := Aside0.mk (Kd.R_drew HO_7.out)
                have n1_ := Aside0.mk (Kd.V_drew HO_270002.out)
                have n2_ := Aside0.mk (blk_drew BK269.out)
                have n3_ := Aside0.mk (below_drew1 HB.out)
                clear HO_7
                clear HO_270002
                clear BK269
                clear HB
                have HO_7 := n0_
                have HO_270002 := n1_
                have BK269 := n2_
                have HB := n3_
                clear n0_ n1_ n2_ n3_
                have p271 : 0 ≤ (x8_2 : Int) := of_decide_eq_true (by first | (with_reducible assumption) | assumption)
                have q271 : x8_2 < (l1.length : Int) := of_decide_eq_true (by first | (with_reducible assumption) | assumption)
                obtain ⟨ad271, e271, hx271_0, hx271_1, hx271_2⟩ := at_T26 HR1.out x8_2 p271 q271
                have hw271_2 := hx271_2
                have hw271_1 := hx271_1
                have hw271_0 := hx271_0
                cases e271
                replace hx271_0 := (HB.out.cell (World.block_lt_of_cell? w _ hx271_0)).trans hx271_0
                replace hx271_1 := (HB.out.cell (World.block_lt_of_cell? w _ hx271_1)).trans hx271_1
                replace hx271_2 := (HB.out.cell (World.block_lt_of_cell? w _ hx271_2)).trans hx271_2
                replace p271 := eq_true p271
                replace q271 := eq_true q271
                refine start_ (n := 12) (S := fun w' => w'.cell? ⟨gb269, 0, none⟩ = some (.int .i64 x270000_2) ∧ w'.cell? ⟨gb269, 1, none⟩ = some (.bool x270001_2) ∧ w'.cell? ⟨gb269, 2, none⟩ = some (.slice Ao21 x270002_2.length co21) ∧ w'.cell? (ad271.add ((x8_2).toNat * 3)) = some (.int .i64 ((rd_T26 l1 x8_2).f0)) ∧ w'.cell? ⟨(ad271.add ((x8_2).toNat * 3)).block, (ad271.add ((x8_2).toNat * 3)).off + 1, none⟩ = some (.int .i64 ((rd_T26 l1 x8_2).f1)) ∧ w'.cell? ⟨(ad271.add ((x8_2).toNat * 3)).block, (ad271.add ((x8_2).toNat * 3)).off + 2, none⟩ = some (.string ((rd_T26 l1 x8_2).f2))) (ds := []) (tf 0 12) (by kernel_rfl) rfl rfl ⟨(blk_cell BK269.out 0).trans rfl, (blk_cell BK269.out 1).trans rfl, (blk_cell BK269.out 2).trans rfl, ((HB.out.cell (World.block_lt_of_cell? w _ hw271_0)).trans hw271_0), ((HB.out.cell (World.block_lt_of_cell? w _ hw271_1)).trans hw271_1), ((HB.out.cell (World.block_lt_of_cell? w _ hw271_2)).trans hw271_2)⟩ (fun hHeld => ?_); refine with_tabW hopperlaw08_PipeThrough.tab8 hopperlaw08_PipeThrough.bits8 (fun HT_ HW_ => ?_)
                generalize wr.drew = w22 at HO_7 HO_270002 BK269 HB hx271_0 hx271_1 hx271_2 hHeld ⊢
                refine pure_ (i := 1) (N := some 39) (v := ?_) (a' := ?_) #[false, true, false, false, false, false, false, false, false, false, false, false] rfl rfl (any_of HT_.out (by kernel_rfl)) (fun _ _ _ h => h) (Or.inl ⟨by rfl, ?_⟩) ?_ ?_
                rotate_left
                · intro w'
                  go_simp
                  with_reducible rfl
                rotate_left
                · simp only [Act.put, PU, i64_w, i32_w]
                  rfl
                refine pure_ (i := 2) (N := some 40) (v := ?_) (a' := ?_) #[false, true, true, false, false, false, false, false, false, false, false, false] rfl rfl (any_of HT_.out (by kernel_rfl)) (fun _ _ _ h => h) (Or.inl ⟨by rfl, ?_⟩) ?_ ?_
                rotate_left
                · intro w'
                  go_simp
                  with_reducible rfl
                rotate_left
                · simp only [Act.put, PU, i64_w, i32_w]
                  rfl
                refine pure_ (i := 3) (N := some 41) (v := ?_) (a' := ?_) #[false, true, true, true, false, false, false, false, false, false, false, false] rfl rfl (any_of HT_.out (by kernel_rfl)) (fun _ _ _ h => h) (Or.inl ⟨by rfl, ?_⟩) ?_ ?_
                rotate_left
                · intro w'
                  go_simp
                  with_reducible rfl
                rotate_left
                · simp only [Act.put, PU, i64_w, i32_w]
                  rfl
                refine take_ (i := 0) (N := some 38) (v := ?_) (a' := ?_) (tf 4 12) rfl rfl (take_ofW HT_.out HW_.out (by kernel_rfl)) (fun _ _ _ h => h) (Or.inl ⟨by rfl, ?_⟩) hHeld ?_ ?_
                rotate_left
                · rintro w' ⟨s0, s1, s2, s3, s4, s5⟩
                  go_simp
                  with_reducible rfl
                rotate_left
                · simp only [Act.put, PU, i64_w, i32_w]
                  rfl
                refine take_ (i := 4) (N := some 42) (v := ?_) (a' := ?_) (tf 5 12) rfl rfl (take_ofW HT_.out HW_.out (by kernel_rfl)) (fun _ _ _ h => h) (Or.inl ⟨by rfl, ?_⟩) hHeld ?_ ?_
                rotate_left
                · rintro w' ⟨s0, s1, s2, s3, s4, s5⟩
                  go_simp
                  with_reducible rfl
                rotate_left
                · simp only [Act.put, PU, i64_w, i32_w]
                  rfl
                refine join_ (σ := Value × Nat) 2 (tf 10 12) (fun s_ => [(43, .tuple #[.agg #[.int .i64 t272, .bool t273, s_.1], .int .i64 t277]), (9, .pointer (some ⟨s_.2, 0, none⟩)), (37, .tuple #[.agg #[.int .i64 t272, .bool t273, s_.1], .int .i64 t277]), (44, .agg #[.int .i64 t272, .bool t273, s_.1]), (45, .int .i64 t277)]) (fun s_ w' => (w'.cell? ⟨gb269, 0, none⟩ = some (.int .i64 x270000_2) ∧ w'.cell? ⟨gb269, 1, none⟩ = some (.bool x270001_2) ∧ w'.cell? ⟨gb269, 2, none⟩ = some (.slice Ao21 x270002_2.length co21) ∧ w'.cell? (ad271.add ((x8_2).toNat * 3)) = some (.int .i64 ((rd_T26 l1 x8_2).f0)) ∧ w'.cell? ⟨(ad271.add ((x8_2).toNat * 3)).block, (ad271.add ((x8_2).toNat * 3)).off + 1, none⟩ = some (.int .i64 ((rd_T26 l1 x8_2).f1)) ∧ w'.cell? ⟨(ad271.add ((x8_2).toNat * 3)).block, (ad271.add ((x8_2).toNat * 3)).off + 2, none⟩ = some (.string ((rd_T26 l1 x8_2).f2))) ∧ (Kd.V k36 36 w' w.heap.size (fun k_ => some k_ ≠ (u7 : Value).ownBlock ∧ k_ ≠ gb269 ∧ k_ ≠ s_.2) s_.1 t274) ∧ (Kd.V k36 36 w' w.heap.size (fun k_ => some k_ ≠ (u7 : Value).ownBlock ∧ k_ ≠ gb269 ∧ k_ ≠ s_.2) (.slice Ao21 x270002_2.length co21) x270002_2) ∧ (Kd.R k26 26 w' w.heap.size (fun _ => True) u7 x7_2) ∧ (w'.heap[gb269]? = some (.cells #[.int .i64 x270000_2, .bool x270001_2, .slice Ao21 x270002_2.length co21] 31 (0, 0))) ∧ (w'.heap[s_.2]? = some (.cells #[.int .i64 0, .bool false, .slice none 0 0] 31 (0, 0))) ∧ (w.heap.size ≤ s_.2) ∧ (w.heap.size ≤ s_.2) ∧ (gb269 ≠ s_.2) ∧ (s_.2 ≠ gb269) ∧ (Below w.heap.size w w')) ?_ ?_
                rotate_left
                · intro hCont
                  refine two_ (i := 5) (j := 9) (Ni := some 43) (Nj := some 9) (tf 6 12) #[true, true, true, true, true, false, false, false, false, true, false, false] rfl rfl rfl rfl (two_of HT_.out (by kernel_rfl)) (by decide) (by decide) (fun K hK => ?_) (fun K hK => ?_)
                  · skip
                    refine goes_ Try.func10 (by kernel_rfl) rfl #[.agg #[.int .i64 x270000_2, .bool x270001_2, .slice Ao21 x270002_2.length co21], .agg #[.int .i64 ((rd_T26 l1 x8_2).f0), .int .i64 ((rd_T26 l1 x8_2).f1), .string ((rd_T26 l1 x8_2).f2)]] (by rfl) rfl rfl (by (try simp only [List.map_toArray, List.map_cons, List.map_nil]); first | done | rfl | (simp only [List.length_drop, List.length_take]; rfl)) ?_
                    with_reducible refine (pipe_Pipe_Send.calls x270000_2 x270001_2 (fun k_ => (some k_ ≠ (u7 : Value).ownBlock ∧ k_ ≠ gb269)) _ _ x270002_2 ((rd_T26 l1 x8_2).f0) ((rd_T26 l1 x8_2).f1) ((rd_T26 l1 x8_2).f2) t272 t273 t274 t277 _ ?side1 A15.out).mono ?_
                    (case side1 => exact HO_270002.out)
                    rintro e w23 ⟨v275, rfl, ho0, hb⟩
                    refine ⟨_, rfl, ?_⟩
                    have n0_ := Aside0.mk (Kd.R_below (Kd.RA HO_7.out) hb)
                    have n1_ := Aside0.mk (Kd.V_below (Kd.VA HO_270002.out) hb)
                    have n2_ := Aside0.mk (Kd.V_lower (Kd.V_mono (ok' := fun k_ => some k_ ≠ (u7 : Value).ownBlock ∧ k_ ≠ gb269) ho0 (fun k_ hk_ => ⟨Or.elim hk_ (fun hs_ => hs_.1) (fun hn_ => (Kd.fresh' (Kd.R_lt (Kd.RA HO_7.out)) k_ hn_)), Or.elim hk_ (fun hs_ => hs_.2) (fun hn_ => (Kd.freshB (g := gb269) (o := .cells #[.int .i64 x270000_2, .bool x270001_2, .slice Ao21 x270002_2.length co21] 31 (0, 0)) (BA BK269.out) k_ hn_))⟩)) (below_size (LG HB.out (G1 GE269.out G0))))
                    have n3_ := Aside0.mk (blk_below (BA BK269.out) hb)
                    have n4_ := Aside0.mk (below_step (LG HB.out (G1 GE269.out G0)) hb)
                    clear HO_7
                    clear HO_270002
                    clear BK269
                    clear HB
                    have HO_7 := n0_
                    have HO_270002 := n1_
                    have HO276 := n2_
                    have BK269 := n3_
                    have HB := n4_
                    clear n0_ n1_ n2_ n3_ n4_
                    (try clear hb)
                    (try clear hb2)
                    (try clear hk)
                    (try clear hi)
                    (try clear ho0)
                    refine hK.out _ _ ⟨(blk_cell BK269.out 0).trans rfl, (blk_cell BK269.out 1).trans rfl, (blk_cell BK269.out 2).trans rfl, ((HB.out.cell (World.block_lt_of_cell? w _ hw271_0)).trans hw271_0), ((HB.out.cell (World.block_lt_of_cell? w _ hw271_1)).trans hw271_1), ((HB.out.cell (World.block_lt_of_cell? w _ hw271_2)).trans hw271_2)⟩ (fun hHeld => ?_)
                    clear hK K
                    refine norm_ (a' := ?_) ?_ ?_
                    rotate_left
                    · show Act.put _ (some 43) _ = _
                      simp only [Act.put, PU, i64_w, i32_w]
                      rfl
                    refine pure_ (i := 6) (N := some 37) (v := ?_) (a' := ?_) (tf 7 12) rfl rfl (any_of HT_.out (by kernel_rfl)) (fun _ _ _ h => h) (Or.inl ⟨by rfl, ?_⟩) ?_ ?_
                    rotate_left
                    · intro w'
                      go_simp
                      with_reducible rfl
                    rotate_left
                    · simp only [Act.put, PU, i64_w, i32_w]
                      rfl
                    refine pure_ (i := 7) (N := some 44) (v := ?_) (a' := ?_) (tf 8 12) rfl rfl (any_of HT_.out (by kernel_rfl)) (fun _ _ _ h => h) (Or.inl ⟨by rfl, ?_⟩) ?_ ?_
                    rotate_left
                    · intro w'
                      go_simp
                      with_reducible rfl
                    rotate_left
                    · simp only [Act.put, PU, i64_w, i32_w]
                      rfl
                    refine pure_ (i := 8) (N := some 45) (v := ?_) (a' := ?_) (tf 9 12) rfl rfl (any_of HT_.out (by kernel_rfl)) (fun _ _ _ h => h) (Or.inl ⟨by rfl, ?_⟩) ?_ ?_
                    rotate_left
                    · intro w'
                      go_simp
                      with_reducible rfl
                    rotate_left
                    · simp only [Act.put, PU, i64_w, i32_w]
                      rfl
                    refine one_ (i := 9) (N := some 9) (tf 10 12) rfl rfl (one_of HT_.out (by kernel_rfl)) (by decide) (fun K hK => ?_)
                    refine box_step ?hg (N := 9) ?hd (cs := #[.int .i64 0, .bool false, .slice none 0 0]) (t := 31) ?hr ?_; (case hd => rfl); (case hg => rfl); (case hr => first | (go_simp; done) | (go_simp; rfl))
                    intro gb278 hg w24 hbox hb
                    have n0_ := Aside0.mk (Kd.R_below (Kd.RA HO_7.out) hb)
                    have n1_ := Aside0.mk (Kd.V_below (Kd.V_elderB (Kd.VA HO_270002.out) gb278 (Nat.le_of_eq hg.symm)) hb)
                    have n2_ := Aside0.mk (Kd.V_below (Kd.V_elderB (Kd.VA HO276.out) gb278 (Nat.le_of_eq hg.symm)) hb)
                    have n3_ := Aside0.mk (blk_below (BA BK269.out) hb)
                    have n4_ := Aside0.mk (below_step (LG HB.out (G1 GE269.out G0)) hb)
                    have n5_ := Aside0.mk (hbox)
                    have n6_ := Aside0.mk (ge1 hg (LG HB.out (G1 GE269.out G0)))
                    have n7_ := Aside0.mk (ge1 hg (LG HB.out (G1 GE269.out G0)))
                    have n8_ := Aside0.mk ((by rw [hg]; exact Nat.ne_of_lt (blk_lt (g := gb269) (o := .cells #[.int .i64 x270000_2, .bool x270001_2, .slice Ao21 x270002_2.length co21] 31 (0, 0)) (BA BK269.out)) : gb269 ≠ gb278))
                    have n9_ := Aside0.mk ((by rw [hg]; exact Nat.ne_of_gt (blk_lt (g := gb269) (o := .cells #[.int .i64 x270000_2, .bool x270001_2, .slice Ao21 x270002_2.length co21] 31 (0, 0)) (BA BK269.out)) : gb278 ≠ gb269))
                    clear HO_7
                    clear HO_270002
                    clear HO276
                    clear BK269
                    clear HB
                    have HO_7 := n0_
                    have HO_270002 := n1_
                    have HO276 := n2_
                    have BK269 := n3_
                    have HB := n4_
                    have BK278 := n5_
                    have GW278 := n6_
                    have GE278 := n7_
                    have NB269_278 := n8_
                    have NB278_269 := n9_
                    clear n0_ n1_ n2_ n3_ n4_ n5_ n6_ n7_ n8_ n9_
                    clear hb hbox hg
                    refine hK.out _ _ ⟨(blk_cell BK269.out 0).trans rfl, (blk_cell BK269.out 1).trans rfl, (blk_cell BK269.out 2).trans rfl, ((HB.out.cell (World.block_lt_of_cell? w _ hw271_0)).trans hw271_0), ((HB.out.cell (World.block_lt_of_cell? w _ hw271_1)).trans hw271_1), ((HB.out.cell (World.block_lt_of_cell? w _ hw271_2)).trans hw271_2)⟩ (fun hHeld => ?_)
                    clear hK K
                    refine norm_ (a' := ?_) ?_ ?_
                    rotate_left
                    · show Act.put _ (some 9) _ = _
                      simp only [Act.put, PU, i64_w, i32_w]
                      rfl
                    exact norm_ (by simp only [putAll, Act.put, PU]) (hCont (v275, gb278) _ ⟨hHeld, (Kd.VA (Kd.V_mono HO276.out (fun _ hk => ⟨hk.1.1, ⟨hk.1.2, hk.2⟩⟩))), (Kd.VA (Kd.V_mono HO_270002.out (fun _ hk => ⟨hk.1.1, ⟨hk.1.2, hk.2⟩⟩))), (Kd.RA HO_7.out), (BA BK269.out), (BA BK278.out), GW278.out, GE278.out, NB269_278.out, NB278_269.out, (LG HB.out (G1 GE269.out (G1 GE278.out G0)))⟩)
                  · skip
                    refine box_step ?hg (N := 9) ?hd (cs := #[.int .i64 0, .bool false, .slice none 0 0]) (t := 31) ?hr ?_; (case hd => rfl); (case hg => rfl); (case hr => first | (go_simp; done) | (go_simp; rfl))
                    intro gb278 hg w23 hbox hb
                    have n0_ := Aside0.mk (Kd.R_below (Kd.RA HO_7.out) hb)
                    have n1_ := Aside0.mk (Kd.V_below (Kd.V_elderB (Kd.VA HO_270002.out) gb278 (Nat.le_of_eq hg.symm)) hb)
                    have n2_ := Aside0.mk (blk_below (BA BK269.out) hb)
                    have n3_ := Aside0.mk (below_step (LG HB.out (G1 GE269.out G0)) hb)
                    have n4_ := Aside0.mk (hbox)
                    have n5_ := Aside0.mk (ge1 hg (LG HB.out (G1 GE269.out G0)))
                    have n6_ := Aside0.mk (ge1 hg (LG HB.out (G1 GE269.out G0)))
                    have n7_ := Aside0.mk ((by rw [hg]; exact Nat.ne_of_lt (blk_lt (g := gb269) (o := .cells #[.int .i64 x270000_2, .bool x270001_2, .slice Ao21 x270002_2.length co21] 31 (0, 0)) (BA BK269.out)) : gb269 ≠ gb278))
                    have n8_ := Aside0.mk ((by rw [hg]; exact Nat.ne_of_gt (blk_lt (g := gb269) (o := .cells #[.int .i64 x270000_2, .bool x270001_2, .slice Ao21 x270002_2.length co21] 31 (0, 0)) (BA BK269.out)) : gb278 ≠ gb269))
                    clear HO_7
                    clear HO_270002
                    clear BK269
                    clear HB
                    have HO_7 := n0_
                    have HO_270002 := n1_
                    have BK269 := n2_
                    have HB := n3_
                    have BK278 := n4_
                    have GW278 := n5_
                    have GE278 := n6_
                    have NB269_278 := n7_
                    have NB278_269 := n8_
                    clear n0_ n1_ n2_ n3_ n4_ n5_ n6_ n7_ n8_
                    clear hb hbox hg
                    refine hK.out _ _ ⟨(blk_cell BK269.out 0).trans rfl, (blk_cell BK269.out 1).trans rfl, (blk_cell BK269.out 2).trans rfl, ((HB.out.cell (World.block_lt_of_cell? w _ hw271_0)).trans hw271_0), ((HB.out.cell (World.block_lt_of_cell? w _ hw271_1)).trans hw271_1), ((HB.out.cell (World.block_lt_of_cell? w _ hw271_2)).trans hw271_2)⟩ (fun hHeld => ?_)
                    clear hK K
                    refine norm_ (a' := ?_) ?_ ?_
                    rotate_left
                    · show Act.put _ (some 9) _ = _
                      simp only [Act.put, PU, i64_w, i32_w]
                      rfl
                    refine one_ (i := 5) (N := some 43) #[true, true, true, true, true, true, false, false, false, true, false, false] rfl rfl (one_of HT_.out (by kernel_rfl)) (by decide) (fun K hK => ?_)
                    refine goes_ Try.func10 (by kernel_rfl) rfl #[.agg #[.int .i64 x270000_2, .bool x270001_2, .slice Ao21 x270002_2.length co21], .agg #[.int .i64 ((rd_T26 l1 x8_2).f0), .int .i64 ((rd_T26 l1 x8_2).f1), .string ((rd_T26 l1 x8_2).f2)]] (by rfl) rfl rfl (by (try simp only [List.map_toArray, List.map_cons, List.map_nil]); first | done | rfl | (simp only [List.length_drop, List.length_take]; rfl)) ?_
                    with_reducible refine (pipe_Pipe_Send.calls x270000_2 x270001_2 (fun k_ => ((some k_ ≠ (u7 : Value).ownBlock ∧ k_ ≠ gb269) ∧ k_ ≠ gb278)) _ _ x270002_2 ((rd_T26 l1 x8_2).f0) ((rd_T26 l1 x8_2).f1) ((rd_T26 l1 x8_2).f2) t272 t273 t274 t277 _ ?side1 A15.out).mono ?_
                    (case side1 => exact HO_270002.out)
                    rintro e w24 ⟨v275, rfl, ho0, hb⟩
                    refine ⟨_, rfl, ?_⟩
                    have n0_ := Aside0.mk (Kd.R_below (Kd.RA HO_7.out) hb)
                    have n1_ := Aside0.mk (Kd.V_below (Kd.VA HO_270002.out) hb)
                    have n2_ := Aside0.mk (Kd.V_lower (Kd.V_mono (ok' := fun k_ => some k_ ≠ (u7 : Value).ownBlock ∧ k_ ≠ gb269 ∧ k_ ≠ gb278) ho0 (fun k_ hk_ => ⟨Or.elim hk_ (fun hs_ => hs_.1.1) (fun hn_ => (Kd.fresh' (Kd.R_lt (Kd.RA HO_7.out)) k_ hn_)), Or.elim hk_ (fun hs_ => hs_.1.2) (fun hn_ => (Kd.freshB (g := gb269) (o := .cells #[.int .i64 x270000_2, .bool x270001_2, .slice Ao21 x270002_2.length co21] 31 (0, 0)) (BA BK269.out) k_ hn_)), Or.elim hk_ (fun hs_ => hs_.2) (fun hn_ => (Kd.freshB (g := gb278) (o := .cells #[.int .i64 0, .bool false, .slice none 0 0] 31 (0, 0)) (BA BK278.out) k_ hn_))⟩)) (below_size (LG HB.out (G1 GE269.out (G1 GE278.out G0)))))
                    have n3_ := Aside0.mk (blk_below (BA BK269.out) hb)
                    have n4_ := Aside0.mk (blk_below (BA BK278.out) hb)
                    have n5_ := Aside0.mk (below_step (LG HB.out (G1 GE269.out (G1 GE278.out G0))) hb)
                    clear HO_7
                    clear HO_270002
                    clear BK269
                    clear BK278
                    clear HB
                    have HO_7 := n0_
                    have HO_270002 := n1_
                    have HO276 := n2_
                    have BK269 := n3_
                    have BK278 := n4_
                    have HB := n5_
                    clear n0_ n1_ n2_ n3_ n4_ n5_
                    (try clear hb)
                    (try clear hb2)
                    (try clear hk)
                    (try clear hi)
                    (try clear ho0)
                    refine hK.out _ _ ⟨(blk_cell BK269.out 0).trans rfl, (blk_cell BK269.out 1).trans rfl, (blk_cell BK269.out 2).trans rfl, ((HB.out.cell (World.block_lt_of_cell? w _ hw271_0)).trans hw271_0), ((HB.out.cell (World.block_lt_of_cell? w _ hw271_1)).trans hw271_1), ((HB.out.cell (World.block_lt_of_cell? w _ hw271_2)).trans hw271_2)⟩ (fun hHeld => ?_)
                    clear hK K
                    refine norm_ (a' := ?_) ?_ ?_
                    rotate_left
                    · show Act.put _ (some 43) _ = _
                      simp only [Act.put, PU, i64_w, i32_w]
                      rfl
                    refine pure_ (i := 6) (N := some 37) (v := ?_) (a' := ?_) #[true, true, true, true, true, true, true, false, false, true, false, false] rfl rfl (any_of HT_.out (by kernel_rfl)) (fun _ _ _ h => h) (Or.inl ⟨by rfl, ?_⟩) ?_ ?_
                    rotate_left
                    · intro w'
                      go_simp
                      with_reducible rfl
                    rotate_left
                    · simp only [Act.put, PU, i64_w, i32_w]
                      rfl
                    refine pure_ (i := 7) (N := some 44) (v := ?_) (a' := ?_) #[true, true, true, true, true, true, true, true, false, true, false, false] rfl rfl (any_of HT_.out (by kernel_rfl)) (fun _ _ _ h => h) (Or.inl ⟨by rfl, ?_⟩) ?_ ?_
                    rotate_left
                    · intro w'
                      go_simp
                      with_reducible rfl
                    rotate_left
                    · simp only [Act.put, PU, i64_w, i32_w]
                      rfl
                    refine pure_ (i := 8) (N := some 45) (v := ?_) (a' := ?_) (tf 10 12) rfl rfl (any_of HT_.out (by kernel_rfl)) (fun _ _ _ h => h) (Or.inl ⟨by rfl, ?_⟩) ?_ ?_
                    rotate_left
                    · intro w'
                      go_simp
                      with_reducible rfl
                    rotate_left
                    · simp only [Act.put, PU, i64_w, i32_w]
                      rfl
                    exact norm_ (by simp only [putAll, Act.put, PU]) (hCont (v275, gb278) _ ⟨hHeld, (Kd.VA HO276.out), (Kd.VA (Kd.V_mono HO_270002.out (fun _ hk => ⟨hk.1.1, ⟨hk.1.2, hk.2⟩⟩))), (Kd.RA HO_7.out), (BA BK269.out), (BA BK278.out), GW278.out, GE278.out, NB269_278.out, NB278_269.out, (LG HB.out (G1 GE269.out (G1 GE278.out G0)))⟩)
                rintro ⟨v275, gb278⟩ w25 ⟨hS_, h0_, h1_, h2_, h3_, h4_, h5_, h6_, h7_, h8_, h9_⟩
                have n0_ : Aside0 (Kd.V k36 36 w25 w.heap.size (fun k_ => some k_ ≠ (u7 : Value).ownBlock ∧ k_ ≠ gb269 ∧ k_ ≠ gb278) v275 t274) := ⟨h0_⟩
                have n1_ : Aside0 (Kd.V k36 36 w25 w.heap.size (fun k_ => some k_ ≠ (u7 : Value).ownBlock ∧ k_ ≠ gb269 ∧ k_ ≠ gb278) (.slice Ao21 x270002_2.length co21) x270002_2) := ⟨h1_⟩
                have n2_ : Aside0 (Kd.R k26 26 w25 w.heap.size (fun _ => True) u7 x7_2) := ⟨h2_⟩
                have n3_ : Aside0 (w25.heap[gb269]? = some (.cells #[.int .i64 x270000_2, .bool x270001_2, .slice Ao21 x270002_2.length co21] 31 (0, 0))) := ⟨h3_⟩
                have n4_ : Aside0 (w25.heap[gb278]? = some (.cells #[.int .i64 0, .bool false, .slice none 0 0] 31 (0, 0))) := ⟨h4_⟩
                have n5_ : Aside0 (w.heap.size ≤ gb278) := ⟨h5_⟩
                have n6_ : Aside0 (w.heap.size ≤ gb278) := ⟨h6_⟩
                have n7_ : Aside0 (gb269 ≠ gb278) := ⟨h7_⟩
                have n8_ : Aside0 (gb278 ≠ gb269) := ⟨h8_⟩
                have n9_ : Aside0 (Below w.heap.size w w25) := ⟨h9_⟩
                clear HO_7
                clear HO_270002
                clear BK269
                clear HB
                clear h0_ h1_ h2_ h3_ h4_ h5_ h6_ h7_ h8_ h9_
                have HO276 := n0_
                have HO_270002 := n1_
                have HO_7 := n2_
                have BK269 := n3_
                have BK278 := n4_
                have GW278 := n5_
                have GE278 := n6_
                have NB269_278 := n7_
                have NB278_269 := n8_
                have HB := n9_
                clear n0_ n1_ n2_ n3_ n4_ n5_ n6_ n7_ n8_ n9_
                have hHeld : w25.cell? ⟨gb269, 0, none⟩ = some (.int .i64 x270000_2) ∧ w25.cell? ⟨gb269, 1, none⟩ = some (.bool x270001_2) ∧ w25.cell? ⟨gb269, 2, none⟩ = some (.slice Ao21 x270002_2.length co21) ∧ w25.cell? (ad271.add ((x8_2).toNat * 3)) = some (.int .i64 ((rd_T26 l1 x8_2).f0)) ∧ w25.cell? ⟨(ad271.add ((x8_2).toNat * 3)).block, (ad271.add ((x8_2).toNat * 3)).off + 1, none⟩ = some (.int .i64 ((rd_T26 l1 x8_2).f1)) ∧ w25.cell? ⟨(ad271.add ((x8_2).toNat * 3)).block, (ad271.add ((x8_2).toNat * 3)).off + 2, none⟩ = some (.string ((rd_T26 l1 x8_2).f2)) := hS_
                obtain ⟨Ao28, co28, eo28⟩ := Kd.V_slice HO276.out
                (first | subst eo28 | (injection eo28 with f1_ f2_ f3_; have f4_ := f1_.symm; have f5_ := f3_.symm; clear f1_ f2_ f3_; subst f4_; subst f5_))
                refine norm_ (a' := ?_) ?_ ?_
                rotate_left
                · simp only [putAll, Act.put, PU]
                  rfl
                refine one_ (i := 10) (N := none) (tf 11 12) rfl rfl (one_of HT_.out (by kernel_rfl)) (by decide) (fun K hK => ?_)
                have hs26 : w25.cell? ⟨gb278, 0, none⟩ = some (.int .i64 0) := (blk_cell BK278.out 0).trans rfl
                have hfs26 := blk_frozen BK278.out 0
                have hns26_0 := NB269_278.out
                have hms26_0 := NB278_269.out
                have hs27 : w25.cell? ⟨gb278, 1, none⟩ = some (.bool false) := (blk_cell BK278.out 1).trans rfl
                have hfs27 := blk_frozen BK278.out 1
                have hns27_0 := NB269_278.out
                have hms27_0 := NB278_269.out
                have hs29 : w25.cell? ⟨gb278, 2, none⟩ = some (.slice none 0 0) := (blk_cell BK278.out 2).trans rfl
                have hfs29 := blk_frozen BK278.out 2
                have hns29_0 := NB269_278.out
                have hms29_0 := NB278_269.out
                refine skip_ (w1 := ?_) (by rfl) rfl ?_ ?_
                rotate_left
                · go_simp
                  rfl
                refine hK.out _ _ ⟨((cell_far (p := ⟨gb278, _, none⟩) NB269_278.out _).trans (((cell_far (p := ⟨gb278, _, none⟩) NB269_278.out _).trans (((cell_far (p := ⟨gb278, _, none⟩) NB269_278.out _).trans (hHeld.1)))))), ((cell_far (p := ⟨gb278, _, none⟩) NB269_278.out _).trans (((cell_far (p := ⟨gb278, _, none⟩) NB269_278.out _).trans (((cell_far (p := ⟨gb278, _, none⟩) NB269_278.out _).trans (hHeld.2.1)))))), ((cell_far (p := ⟨gb278, _, none⟩) NB269_278.out _).trans (((cell_far (p := ⟨gb278, _, none⟩) NB269_278.out _).trans (((cell_far (p := ⟨gb278, _, none⟩) NB269_278.out _).trans (hHeld.2.2.1)))))), ((cell_far (p := ⟨gb278, _, none⟩) (by first | exact Nat.ne_of_lt (Nat.lt_of_lt_of_le (by have := World.block_lt_of_cell? _ _ hw271_0; first | rwa [add_block] at this | exact this) GW278.out) | (rw [add_block]; exact Nat.ne_of_lt (Nat.lt_of_lt_of_le (by have := World.block_lt_of_cell? _ _ hw271_0; first | rwa [add_block] at this | exact this) GW278.out)) | (show (Addr.add _ _).block ≠ _; rw [add_block]; exact Nat.ne_of_lt (Nat.lt_of_lt_of_le (by have := World.block_lt_of_cell? _ _ hw271_0; first | rwa [add_block] at this | exact this) GW278.out)) | (dsimp only; exact Nat.ne_of_lt (Nat.lt_of_lt_of_le (by have := World.block_lt_of_cell? _ _ hw271_0; first | rwa [add_block] at this | exact this) GW278.out))) _).trans (((cell_far (p := ⟨gb278, _, none⟩) (by first | exact Nat.ne_of_lt (Nat.lt_of_lt_of_le (by have := World.block_lt_of_cell? _ _ hw271_0; first | rwa [add_block] at this | exact this) GW278.out) | (rw [add_block]; exact Nat.ne_of_lt (Nat.lt_of_lt_of_le (by have := World.block_lt_of_cell? _ _ hw271_0; first | rwa [add_block] at this | exact this) GW278.out)) | (show (Addr.add _ _).block ≠ _; rw [add_block]; exact Nat.ne_of_lt (Nat.lt_of_lt_of_le (by have := World.block_lt_of_cell? _ _ hw271_0; first | rwa [add_block] at this | exact this) GW278.out)) | (dsimp only; exact Nat.ne_of_lt (Nat.lt_of_lt_of_le (by have := World.block_lt_of_cell? _ _ hw271_0; first | rwa [add_block] at this | exact this) GW278.out))) _).trans (((cell_far (p := ⟨gb278, _, none⟩) (by first | exact Nat.ne_of_lt (Nat.lt_of_lt_of_le (by have := World.block_lt_of_cell? _ _ hw271_0; first | rwa [add_block] at this | exact this) GW278.out) | (rw [add_block]; exact Nat.ne_of_lt (Nat.lt_of_lt_of_le (by have := World.block_lt_of_cell? _ _ hw271_0; first | rwa [add_block] at this | exact this) GW278.out)) | (show (Addr.add _ _).block ≠ _; rw [add_block]; exact Nat.ne_of_lt (Nat.lt_of_lt_of_le (by have := World.block_lt_of_cell? _ _ hw271_0; first | rwa [add_block] at this | exact this) GW278.out)) | (dsimp only; exact Nat.ne_of_lt (Nat.lt_of_lt_of_le (by have := World.block_lt_of_cell? _ _ hw271_0; first | rwa [add_block] at this | exact this) GW278.out))) _).trans (hHeld.2.2.2.1)))))), ((cell_far (p := ⟨gb278, _, none⟩) (by first | exact Nat.ne_of_lt (Nat.lt_of_lt_of_le (by have := World.block_lt_of_cell? _ _ hw271_1; first | rwa [add_block] at this | exact this) GW278.out) | (rw [add_block]; exact Nat.ne_of_lt (Nat.lt_of_lt_of_le (by have := World.block_lt_of_cell? _ _ hw271_1; first | rwa [add_block] at this | exact this) GW278.out)) | (show (Addr.add _ _).block ≠ _; rw [add_block]; exact Nat.ne_of_lt (Nat.lt_of_lt_of_le (by have := World.block_lt_of_cell? _ _ hw271_1; first | rwa [add_block] at this | exact this) GW278.out)) | (dsimp only; exact Nat.ne_of_lt (Nat.lt_of_lt_of_le (by have := World.block_lt_of_cell? _ _ hw271_1; first | rwa [add_block] at this | exact this) GW278.out))) _).trans (((cell_far (p := ⟨gb278, _, none⟩) (by first | exact Nat.ne_of_lt (Nat.lt_of_lt_of_le (by have := World.block_lt_of_cell? _ _ hw271_1; first | rwa [add_block] at this | exact this) GW278.out) | (rw [add_block]; exact Nat.ne_of_lt (Nat.lt_of_lt_of_le (by have := World.block_lt_of_cell? _ _ hw271_1; first | rwa [add_block] at this | exact this) GW278.out)) | (show (Addr.add _ _).block ≠ _; rw [add_block]; exact Nat.ne_of_lt (Nat.lt_of_lt_of_le (by have := World.block_lt_of_cell? _ _ hw271_1; first | rwa [add_block] at this | exact this) GW278.out)) | (dsimp only; exact Nat.ne_of_lt (Nat.lt_of_lt_of_le (by have := World.block_lt_of_cell? _ _ hw271_1; first | rwa [add_block] at this | exact this) GW278.out))) _).trans (((cell_far (p := ⟨gb278, _, none⟩) (by first | exact Nat.ne_of_lt (Nat.lt_of_lt_of_le (by have := World.block_lt_of_cell? _ _ hw271_1; first | rwa [add_block] at this | exact this) GW278.out) | (rw [add_block]; exact Nat.ne_of_lt (Nat.lt_of_lt_of_le (by have := World.block_lt_of_cell? _ _ hw271_1; first | rwa [add_block] at this | exact this) GW278.out)) | (show (Addr.add _ _).block ≠ _; rw [add_block]; exact Nat.ne_of_lt (Nat.lt_of_lt_of_le (by have := World.block_lt_of_cell? _ _ hw271_1; first | rwa [add_block] at this | exact this) GW278.out)) | (dsimp only; exact Nat.ne_of_lt (Nat.lt_of_lt_of_le (by have := World.block_lt_of_cell? _ _ hw271_1; first | rwa [add_block] at this | exact this) GW278.out))) _).trans (hHeld.2.2.2.2.1)))))), ((cell_far (p := ⟨gb278, _, none⟩) (by first | exact Nat.ne_of_lt (Nat.lt_of_lt_of_le (by have := World.block_lt_of_cell? _ _ hw271_2; first | rwa [add_block] at this | exact this) GW278.out) | (rw [add_block]; exact Nat.ne_of_lt (Nat.lt_of_lt_of_le (by have := World.block_lt_of_cell? _ _ hw271_2; first | rwa [add_block] at this | exact this) GW278.out)) | (show (Addr.add _ _).block ≠ _; rw [add_block]; exact Nat.ne_of_lt (Nat.lt_of_lt_of_le (by have := World.block_lt_of_cell? _ _ hw271_2; first | rwa [add_block] at this | exact this) GW278.out)) | (dsimp only; exact Nat.ne_of_lt (Nat.lt_of_lt_of_le (by have := World.block_lt_of_cell? _ _ hw271_2; first | rwa [add_block] at this | exact this) GW278.out))) _).trans (((cell_far (p := ⟨gb278, _, none⟩) (by first | exact Nat.ne_of_lt (Nat.lt_of_lt_of_le (by have := World.block_lt_of_cell? _ _ hw271_2; first | rwa [add_block] at this | exact this) GW278.out) | (rw [add_block]; exact Nat.ne_of_lt (Nat.lt_of_lt_of_le (by have := World.block_lt_of_cell? _ _ hw271_2; first | rwa [add_block] at this | exact this) GW278.out)) | (show (Addr.add _ _).block ≠ _; rw [add_block]; exact Nat.ne_of_lt (Nat.lt_of_lt_of_le (by have := World.block_lt_of_cell? _ _ hw271_2; first | rwa [add_block] at this | exact this) GW278.out)) | (dsimp only; exact Nat.ne_of_lt (Nat.lt_of_lt_of_le (by have := World.block_lt_of_cell? _ _ hw271_2; first | rwa [add_block] at this | exact this) GW278.out))) _).trans (((cell_far (p := ⟨gb278, _, none⟩) (by first | exact Nat.ne_of_lt (Nat.lt_of_lt_of_le (by have := World.block_lt_of_cell? _ _ hw271_2; first | rwa [add_block] at this | exact this) GW278.out) | (rw [add_block]; exact Nat.ne_of_lt (Nat.lt_of_lt_of_le (by have := World.block_lt_of_cell? _ _ hw271_2; first | rwa [add_block] at this | exact this) GW278.out)) | (show (Addr.add _ _).block ≠ _; rw [add_block]; exact Nat.ne_of_lt (Nat.lt_of_lt_of_le (by have := World.block_lt_of_cell? _ _ hw271_2; first | rwa [add_block] at this | exact this) GW278.out)) | (dsimp only; exact Nat.ne_of_lt (Nat.lt_of_lt_of_le (by have := World.block_lt_of_cell? _ _ hw271_2; first | rwa [add_block] at this | exact this) GW278.out))) _).trans (hHeld.2.2.2.2.2))))))⟩ (fun hHeld => ?_)
                clear hK K
                refine pure_ (i := 11) (N := some 10) (v := ?_) (a' := ?_) (tf 12 12) rfl rfl (any_of HT_.out (by kernel_rfl)) (fun _ _ _ h => h) (Or.inl ⟨by rfl, ?_⟩) ?_ ?_
                rotate_left
                · intro w'
                  go_simp
                  with_reducible rfl
                rotate_left
                · simp only [Act.put, PU, i64_w, i32_w]
                  rfl
                refine done_ (done_of HT_.out (by kernel_rfl)) ?_
                have n0_ : Aside0 (Kd.R k26 26 (((w25.setCell ⟨gb278, 0, none⟩ (.int .i64 t272)).setCell ⟨gb278, 1, none⟩ (.bool t273)).setCell ⟨gb278, 2, none⟩ (.slice Ao28 t274.length co28)) w.heap.size (fun _ => True) u7 x7_2) := ⟨by (with_reducible repeat (first | apply Kd.R_alloc | apply Kd.R_drewN | apply Kd.R_drew)); exact Kd.R_mono (Kd.R_mv (g := gb278) (Kd.R_types HO_7.out BK278.out (by decide)) (fun _ hk => hk.2)) (fun _ hk => trivial)⟩
                have n1_ : Aside0 (Kd.V k36 36 (((w25.setCell ⟨gb278, 0, none⟩ (.int .i64 t272)).setCell ⟨gb278, 1, none⟩ (.bool t273)).setCell ⟨gb278, 2, none⟩ (.slice Ao28 t274.length co28)) w.heap.size (fun k_ => some k_ ≠ (u7 : Value).ownBlock ∧ k_ ≠ gb269 ∧ k_ ≠ gb278) (.slice Ao21 x270002_2.length co21) x270002_2) := ⟨by (with_reducible repeat (first | apply Kd.V_alloc | apply Kd.V_drewN | apply Kd.V_drew)); exact Kd.V_mono (Kd.V_mv (g := gb278) (Kd.V_mono HO_270002.out (fun k_ hk => (⟨hk, hk.2.2⟩ : _ ∧ k_ ≠ gb278))) (fun _ hk => hk.2)) (fun _ hk => ⟨hk.1.1, ⟨hk.1.2.1, hk.1.2.2⟩⟩)⟩
                have n2_ : Aside0 (Kd.V k36 36 (((w25.setCell ⟨gb278, 0, none⟩ (.int .i64 t272)).setCell ⟨gb278, 1, none⟩ (.bool t273)).setCell ⟨gb278, 2, none⟩ (.slice Ao28 t274.length co28)) w.heap.size (fun k_ => some k_ ≠ (u7 : Value).ownBlock ∧ k_ ≠ gb269 ∧ k_ ≠ gb278) (.slice Ao28 t274.length co28) t274) := ⟨by (with_reducible repeat (first | apply Kd.V_alloc | apply Kd.V_drewN | apply Kd.V_drew)); exact Kd.V_mono (Kd.V_mv (g := gb278) (Kd.V_mono HO276.out (fun k_ hk => (⟨hk, hk.2.2⟩ : _ ∧ k_ ≠ gb278))) (fun _ hk => hk.2)) (fun _ hk => ⟨hk.1.1, ⟨hk.1.2.1, hk.1.2.2⟩⟩)⟩
                have n3_ : Aside0 ((((w25.setCell ⟨gb278, 0, none⟩ (.int .i64 t272)).setCell ⟨gb278, 1, none⟩ (.bool t273)).setCell ⟨gb278, 2, none⟩ (.slice Ao28 t274.length co28)).heap[gb269]? = some (.cells #[.int .i64 x270000_2, .bool x270001_2, .slice Ao21 x270002_2.length co21] 31 (0, 0))) := ⟨by exact BF BK269.out NB269_278.out⟩
                have n4_ : Aside0 ((((w25.setCell ⟨gb278, 0, none⟩ (.int .i64 t272)).setCell ⟨gb278, 1, none⟩ (.bool t273)).setCell ⟨gb278, 2, none⟩ (.slice Ao28 t274.length co28)).heap[gb278]? = some (.cells #[.int .i64 t272, .bool t273, .slice Ao28 t274.length co28] 31 (0, 0))) := ⟨by exact BP BK278.out (by rfl)⟩
                have n5_ : Aside0 (Below w.heap.size w (((w25.setCell ⟨gb278, 0, none⟩ (.int .i64 t272)).setCell ⟨gb278, 1, none⟩ (.bool t273)).setCell ⟨gb278, 2, none⟩ (.slice Ao28 t274.length co28))) := ⟨LG HB.out (G1 GE269.out (G1 GE278.out G0))⟩
                (try clear HO_7)
                (try clear HO_270002)
                (try clear HO276)
                (try clear BK269)
                (try clear BK278)
                (try clear HB)
                generalize (((w25.setCell ⟨gb278, 0, none⟩ (.int .i64 t272)).setCell ⟨gb278, 1, none⟩ (.bool t273)).setCell ⟨gb278, 2, none⟩ (.slice Ao28 t274.length co28)) = w30 at n0_ n1_ n2_ n3_ n4_ n5_ ⊢
                have HO_7 := n0_
                have HO_270002 := n1_
                have HO276 := n2_
                have BK269 := n3_
                have BK278 := n4_
                have HB := n5_
                clear n0_ n1_ n2_ n3_ n4_ n5_
                have hnb31 := NB269_278.out
                have hnc31 := NB278_269.out
                have hcz32_0 : w30.cell? ⟨gb269, 0, none⟩ = some (.int .i64 x270000_2) := (blk_cell BK269.out 0).trans rfl
                have hcz32_1 : w30.cell? ⟨gb269, 1, none⟩ = some (.bool x270001_2) := (blk_cell BK269.out 1).trans rfl
                have hcz32_2 : w30.cell? ⟨gb269, 2, none⟩ = some (.slice Ao21 x270002_2.length co21) := (blk_cell BK269.out 2).trans rfl
                have hfz32_0 := blk_frozen BK269.out 0
                have hfz32_1 := blk_frozen BK269.out 1
                have hfz32_2 := blk_frozen BK269.out 2
                try go_wp2_with (first | ((with_reducible refine gate_callee (f := 12) rfl ?_); refine goesL_ (some 50) rfl rfl Try.func12 (by kernel_rfl) rfl #[.agg #[.int .i64 x270000_2, .bool x270001_2, .slice Ao21 x270002_2.length co21]] rfl (by (try simp only [List.map_toArray, List.map_cons, List.map_nil]); first | done | rfl | (simp only [List.length_drop, List.length_take]; rfl)) ?_; (with_reducible refine (pipe_Pipe_Take.calls x270000_2 x270001_2 (fun k_ => (some k_ ≠ (u7 : Value).ownBlock ∧ (k_ ≠ gb269 ∧ k_ ≠ gb278))) _ _ x270002_2 t279 t280 t281 t284 t285 t286 t287 _ ?side1 A17.out).mono ?_); (case side1 => exact HO_270002.out); rintro e w33 ⟨v282, rfl, ho0, hb⟩; refine ⟨_, rfl, ?_⟩; replace HO_270002 := Aside0.mk (Kd.V_below (Kd.VA HO_270002.out) hb); replace HO276 := Aside0.mk (Kd.V_below (Kd.VA HO276.out) hb); have HO283 := Aside0.mk (Kd.V_lower (Kd.V_mono (ok' := fun k_ => some k_ ≠ (u7 : Value).ownBlock ∧ k_ ≠ gb269 ∧ k_ ≠ gb278) ho0 (fun k_ hk_ => ⟨Or.elim hk_ (fun hs_ => hs_.1) (fun hn_ => (Kd.fresh' (Kd.R_lt (Kd.RA HO_7.out)) k_ hn_)), Or.elim hk_ (fun hs_ => hs_.2.1) (fun hn_ => (Kd.freshB (g := gb269) (o := .cells #[.int .i64 x270000_2, .bool x270001_2, .slice Ao21 x270002_2.length co21] 31 (0, 0)) (BA BK269.out) k_ hn_)), Or.elim hk_ (fun hs_ => hs_.2.2) (fun hn_ => (Kd.freshB (g := gb278) (o := .cells #[.int .i64 t272, .bool t273, .slice Ao28 t274.length co28] 31 (0, 0)) (BA BK278.out) k_ hn_))⟩)) (below_size (LA HB.out))); replace HO_7 := Aside0.mk (Kd.R_below (Kd.RA HO_7.out) hb); replace BK269 := Aside0.mk (blk_below (BA BK269.out) hb); replace BK278 := Aside0.mk (blk_below (BA BK278.out) hb); replace HB := Aside0.mk (below_step (LA HB.out) hb); (try clear hb); (try clear hb2); (try clear hk); (try clear hi); (try clear ho0)) | ((with_reducible refine gate_dst (N := 11) rfl ?_); refine box_event ?hg (N := 11) ?hd (cs := #[.int .i64 0, .bool false, .slice none 0 0]) (t := 31) ?hr ?_; (case hd => rfl); (case hg => rfl); (case hr => first | (go_simp; done) | (go_simp; rfl)); intro gb288 hg w34 hbox hb; replace HO_7 := Aside0.mk (Kd.R_below (Kd.RA HO_7.out) hb); replace HO_270002 := Aside0.mk (Kd.V_below (Kd.V_elderB (Kd.VA HO_270002.out) gb288 (Nat.le_of_eq hg.symm)) hb); replace HO276 := Aside0.mk (Kd.V_below (Kd.V_elderB (Kd.VA HO276.out) gb288 (Nat.le_of_eq hg.symm)) hb); replace HO283 := Aside0.mk (Kd.V_below (Kd.V_elderB (Kd.VA HO283.out) gb288 (Nat.le_of_eq hg.symm)) hb); have BK288 := Aside0.mk (hbox); have GE288 := Aside0.mk (ge1 hg (LA HB.out)); replace HB := Aside0.mk (below_step (LA HB.out) hb); have NB269_288 := Aside0.mk ((by rw [hg]; exact Nat.ne_of_lt (blk_lt (g := gb269) (o := .cells #[.int .i64 x270000_2, .bool x270001_2, .slice Ao21 x270002_2.length co21] 31 (0, 0)) (BA BK269.out)) : gb269 ≠ gb288)); have NB288_269 := Aside0.mk ((by rw [hg]; exact Nat.ne_of_gt (blk_lt (g := gb269) (o := .cells #[.int .i64 x270000_2, .bool x270001_2, .slice Ao21 x270002_2.length co21] 31 (0, 0)) (BA BK269.out)) : gb288 ≠ gb269)); replace BK269 := Aside0.mk (blk_below (BA BK269.out) hb); have NB278_288 := Aside0.mk ((by rw [hg]; exact Nat.ne_of_lt (blk_lt (g := gb278) (o := .cells #[.int .i64 t272, .bool t273, .slice Ao28 t274.length co28] 31 (0, 0)) (BA BK278.out)) : gb278 ≠ gb288)); have NB288_278 := Aside0.mk ((by rw [hg]; exact Nat.ne_of_gt (blk_lt (g := gb278) (o := .cells #[.int .i64 t272, .bool t273, .slice Ao28 t274.length co28] 31 (0, 0)) (BA BK278.out)) : gb288 ≠ gb278)); replace BK278 := Aside0.mk (blk_below (BA BK278.out) hb); clear hb hbox hg) | ((with_reducible refine gate_dst (N := 12) rfl ?_); refine box_event ?hg (N := 12) ?hd (cs := #[.int .i64 0, .int .i64 0, .string (⟨#[]⟩ : ByteArray)]) (t := 36) ?hr ?_; (case hd => rfl); (case hg => rfl); (case hr => first | (go_simp; done) | (go_simp; rfl)); intro gb289 hg w35 hbox hb; replace HO_7 := Aside0.mk (Kd.R_below (Kd.RA HO_7.out) hb); replace HO_270002 := Aside0.mk (Kd.V_below (Kd.V_elderB (Kd.VA HO_270002.out) gb289 (Nat.le_of_eq hg.symm)) hb); replace HO276 := Aside0.mk (Kd.V_below (Kd.V_elderB (Kd.VA HO276.out) gb289 (Nat.le_of_eq hg.symm)) hb); replace HO283 := Aside0.mk (Kd.V_below (Kd.V_elderB (Kd.VA HO283.out) gb289 (Nat.le_of_eq hg.symm)) hb); have BK289 := Aside0.mk (hbox); have GE289 := Aside0.mk (ge1 hg (LA HB.out)); replace HB := Aside0.mk (below_step (LA HB.out) hb); have NB269_289 := Aside0.mk ((by rw [hg]; exact Nat.ne_of_lt (blk_lt (g := gb269) (o := .cells #[.int .i64 x270000_2, .bool x270001_2, .slice Ao21 x270002_2.length co21] 31 (0, 0)) (BA BK269.out)) : gb269 ≠ gb289)); have NB289_269 := Aside0.mk ((by rw [hg]; exact Nat.ne_of_gt (blk_lt (g := gb269) (o := .cells #[.int .i64 x270000_2, .bool x270001_2, .slice Ao21 x270002_2.length co21] 31 (0, 0)) (BA BK269.out)) : gb289 ≠ gb269)); replace BK269 := Aside0.mk (blk_below (BA BK269.out) hb); have NB278_289 := Aside0.mk ((by rw [hg]; exact Nat.ne_of_lt (blk_lt (g := gb278) (o := .cells #[.int .i64 t272, .bool t273, .slice Ao28 t274.length co28] 31 (0, 0)) (BA BK278.out)) : gb278 ≠ gb289)); have NB289_278 := Aside0.mk ((by rw [hg]; exact Nat.ne_of_gt (blk_lt (g := gb278) (o := .cells #[.int .i64 t272, .bool t273, .slice Ao28 t274.length co28] 31 (0, 0)) (BA BK278.out)) : gb289 ≠ gb278)); replace BK278 := Aside0.mk (blk_below (BA BK278.out) hb); have NB288_289 := Aside0.mk ((by rw [hg]; exact Nat.ne_of_lt (blk_lt (g := gb288) (o := .cells #[.int .i64 0, .bool false, .slice none 0 0] 31 (0, 0)) (BA BK288.out)) : gb288 ≠ gb289)); have NB289_288 := Aside0.mk ((by rw [hg]; exact Nat.ne_of_gt (blk_lt (g := gb288) (o := .cells #[.int .i64 0, .bool false, .slice none 0 0] 31 (0, 0)) (BA BK288.out)) : gb289 ≠ gb288)); replace BK288 := Aside0.mk (blk_below (BA BK288.out) hb); clear hb hbox hg; have hnb36 := NB288_269.out; have hnc36 := NB269_288.out; have hnb37 := NB288_278.out; have hnc37 := NB278_288.out; have hnb38 := NB288_289.out; have hnc38 := NB289_288.out; obtain ⟨hcz39_0, hcz39_1, hcz39_2, hfz39_0, hfz39_1, hfz39_2⟩ := cz3 BK288.out; obtain ⟨Ao40, co40, eo40⟩ := Kd.V_slice HO283.out; subst eo40; have hnb41 := NB289_269.out; have hnc41 := NB269_289.out; have hnb42 := NB289_278.out; have hnc42 := NB278_289.out; obtain ⟨hcz43_0, hcz43_1, hcz43_2, hfz43_0, hfz43_1, hfz43_2⟩ := cz3 BK289.out) | ((with_reducible refine gate_builtin (b := .append) (xs := #[.tmp 54, .tmp 56]) rfl ?_); at_builtin; refine Kd.R_append k26 (w0 := w) w.heap.size rfl (.tmp 54) (.tmp 56) 22 26 (.agg #[(.int .i64 0), (.int .i64 0), (.string ⟨#[]⟩)]) 32 rfl Try.underlying22 info26 rfl (by decide) (by omega) u7 x7_2 (⟨t284, t285, t286⟩ : S26) [.int .i64 t284, .int .i64 t285, .string t286] (fun _ => True) (fun _ => False) rfl (by first | (go_simp; done) | (go_simp; rfl)) ?aP (fun _ hk => hk.elim) ?aF ?aO ?aB ?aS ?aL ?_; (case aP => exact k26_mkM _ _ _ (⟨t284, t285, t286⟩ : S26)); (case aB => exact (LG HB.out (G1 GE288.out (G1 GE289.out G0)))); (case aF => exact (fun _ _ => trivial)); (case aO => exact (Kd.R_mono (Kd.R_ms (gs := [gb289, gb288]) (Kd.R_types (Kd.R_types HO_7.out BK288.out (by decide)) BK289.out (by decide)) (fun _ hk => N1 (hk.2) (N1 (hk.1.2) (N0)))) (fun _ hk => trivial))); (case aS => exact (below_size (LG HB.out (G1 GE288.out (G1 GE289.out G0))))); (case aL => have := LMc18.out; omega); intro v291 w44 ho hb hg hat; rw [← Ny290.out] at ho; replace HO_270002 := Aside0.mk (Kd.V_afterv (ok := (fun k_ => k_ ≠ gb269 ∧ k_ ≠ gb278 ∧ k_ ≠ gb288 ∧ k_ ≠ gb289)) (Kd.V_mono (Kd.V_ms (gs := [gb289, gb288]) (Kd.V_mono (Kd.V_mono HO_270002.out (fun k_ hk => (⟨hk, hk.1.2⟩ : _ ∧ k_ ≠ gb288))) (fun k_ hk => (⟨hk, hk.1.2⟩ : _ ∧ k_ ≠ gb289))) (fun _ hk => N1 (hk.2) (N1 (hk.1.2) (N0)))) (fun _ hk => ⟨⟨hk.1.1.1.1.2.1, ⟨hk.1.1.1.1.2.2, ⟨hk.1.1.1.2, hk.1.1.2⟩⟩⟩, hk.1.1.1.1.1⟩)) hg hat); replace BK269 := Aside0.mk (blk_grown (g := gb269) (o := .cells #[.int .i64 x270000_2, .bool x270001_2, .slice Ao21 x270002_2.length co21] 31 (0, 0)) (BM BK269.out (N1 NB269_289.out (N1 NB269_288.out N0))) hg (Kd.R_ne HO_7.out BK269.out (by decide))); replace HO276 := Aside0.mk (Kd.V_afterv (ok := (fun k_ => k_ ≠ gb269 ∧ k_ ≠ gb278 ∧ k_ ≠ gb288 ∧ k_ ≠ gb289)) (Kd.V_mono (Kd.V_ms (gs := [gb289, gb288]) (Kd.V_mono (Kd.V_mono HO276.out (fun k_ hk => (⟨hk, hk.1.2⟩ : _ ∧ k_ ≠ gb288))) (fun k_ hk => (⟨hk, hk.1.2⟩ : _ ∧ k_ ≠ gb289))) (fun _ hk => N1 (hk.2) (N1 (hk.1.2) (N0)))) (fun _ hk => ⟨⟨hk.1.1.1.1.2.1, ⟨hk.1.1.1.1.2.2, ⟨hk.1.1.1.2, hk.1.1.2⟩⟩⟩, hk.1.1.1.1.1⟩)) hg hat); replace BK278 := Aside0.mk (blk_grown (g := gb278) (o := .cells #[.int .i64 t272, .bool t273, .slice Ao28 t274.length co28] 31 (0, 0)) (BM BK278.out (N1 NB278_289.out (N1 NB278_288.out N0))) hg (Kd.R_ne HO_7.out BK278.out (by decide))); replace HO283 := Aside0.mk (Kd.V_afterv (ok := (fun k_ => k_ ≠ gb269 ∧ k_ ≠ gb278 ∧ k_ ≠ gb288 ∧ k_ ≠ gb289)) (Kd.V_mono (Kd.V_ms (gs := [gb289, gb288]) (Kd.V_mono (Kd.V_mono HO283.out (fun k_ hk => (⟨hk, hk.1.2⟩ : _ ∧ k_ ≠ gb288))) (fun k_ hk => (⟨hk, hk.1.2⟩ : _ ∧ k_ ≠ gb289))) (fun _ hk => N1 (hk.2) (N1 (hk.1.2) (N0)))) (fun _ hk => ⟨⟨hk.1.1.1.1.2.1, ⟨hk.1.1.1.1.2.2, ⟨hk.1.1.1.2, hk.1.1.2⟩⟩⟩, hk.1.1.1.1.1⟩)) hg hat); replace BK288 := Aside0.mk (blk_grown (g := gb288) (o := .cells #[.int .i64 t279, .bool t280, .slice Ao40 t281.length co40] 31 (0, 0)) (by (with_reducible repeat (first | refine blk_drewN ?_ _ | refine blk_drew ?_ | refine blk_alloc ?_ _)); refine blk_far ?_ NB288_289.out _; (with_reducible repeat (first | refine blk_drewN ?_ _ | refine blk_drew ?_ | refine blk_alloc ?_ _)); refine blk_far ?_ NB288_289.out _; (with_reducible repeat (first | refine blk_drewN ?_ _ | refine blk_drew ?_ | refine blk_alloc ?_ _)); refine blk_far ?_ NB288_289.out _; exact BP BK288.out (by rfl)) hg (Kd.R_ne HO_7.out BK288.out (by decide))); replace BK289 := Aside0.mk (blk_grown (g := gb289) (o := .cells #[.int .i64 t284, .int .i64 t285, .string t286] 36 (0, 0)) (by (with_reducible repeat (first | refine blk_drewN ?_ _ | refine blk_drew ?_ | refine blk_alloc ?_ _)); refine blk_put (cs := #[.int .i64 t284, .int .i64 t285, .string (⟨#[]⟩ : ByteArray)]) ?_ 2 _ rfl; (with_reducible repeat (first | refine blk_drewN ?_ _ | refine blk_drew ?_ | refine blk_alloc ?_ _)); refine blk_put (cs := #[.int .i64 t284, .int .i64 0, .string (⟨#[]⟩ : ByteArray)]) ?_ 1 _ rfl; (with_reducible repeat (first | refine blk_drewN ?_ _ | refine blk_drew ?_ | refine blk_alloc ?_ _)); refine blk_put (cs := #[.int .i64 0, .int .i64 0, .string (⟨#[]⟩ : ByteArray)]) ?_ 0 _ rfl; exact BF BK289.out NB289_288.out) hg (Kd.R_ne HO_7.out BK289.out (by decide))); replace HB := Aside0.mk (hb); have HO292 := Aside0.mk (ho); clear HO_7; clear ho hb hg hat))
                have n0_ := Aside0.mk (Kd.V_drew HO_270002.out)
                have n1_ := Aside0.mk (Kd.V_drew HO276.out)
                have n2_ := Aside0.mk (Kd.V_drew HO283.out)
                have n3_ := Aside0.mk (Kd.R_drew HO292.out)
                have n4_ := Aside0.mk (blk_drew BK269.out)
                have n5_ := Aside0.mk (blk_drew BK278.out)
                have n6_ := Aside0.mk (blk_drew BK288.out)
                have n7_ := Aside0.mk (blk_drew BK289.out)
                have n8_ := Aside0.mk (below_drew1 HB.out)
                clear HO_270002
                clear HO276
                clear HO283
                clear HO292
                clear BK269
                clear BK278
                clear BK288
                clear BK289
                clear HB
                have HO_270002 := n0_
                have HO276 := n1_
                have HO283 := n2_
                have HO292 := n3_
                have BK269 := n4_
                have BK278 := n5_
                have BK288 := n6_
                have BK289 := n7_
                have HB := n8_
                clear n0_ n1_ n2_ n3_ n4_ n5_ n6_ n7_ n8_
                have p293 : 0 ≤ (x8_2 : Int) := of_decide_eq_true (by first | (with_reducible assumption) | assumption)
                have q293 : x8_2 < (l1.length : Int) := of_decide_eq_true (by first | (with_reducible assumption) | assumption)
                obtain ⟨ad293, e293, hx293_0, hx293_1, hx293_2⟩ := at_T26 HR1.out x8_2 p293 q293
                have hw293_2 := hx293_2
                have hw293_1 := hx293_1
                have hw293_0 := hx293_0
                obtain rfl : ad271 = ad293 := (by injection e293)
                replace hx293_0 := (HB.out.cell (World.block_lt_of_cell? w _ hx293_0)).trans hx293_0
                replace hx293_1 := (HB.out.cell (World.block_lt_of_cell? w _ hx293_1)).trans hx293_1
                replace hx293_2 := (HB.out.cell (World.block_lt_of_cell? w _ hx293_2)).trans hx293_2
                replace p293 := eq_true p293
                replace q293 := eq_true q293
                refine start_ (n := 11) (S := fun w' => w'.cell? ⟨gb288, 0, none⟩ = some (.int .i64 t279) ∧ w'.cell? ⟨gb288, 1, none⟩ = some (.bool t280) ∧ w'.cell? ⟨gb288, 2, none⟩ = some (.slice Ao40 t281.length co40) ∧ w'.cell? (ad271.add ((x8_2).toNat * 3)) = some (.int .i64 ((rd_T26 l1 x8_2).f0)) ∧ w'.cell? ⟨(ad271.add ((x8_2).toNat * 3)).block, (ad271.add ((x8_2).toNat * 3)).off + 1, none⟩ = some (.int .i64 ((rd_T26 l1 x8_2).f1)) ∧ w'.cell? ⟨(ad271.add ((x8_2).toNat * 3)).block, (ad271.add ((x8_2).toNat * 3)).off + 2, none⟩ = some (.string ((rd_T26 l1 x8_2).f2))) (ds := []) (tf 0 11) (by kernel_rfl) rfl rfl ⟨(blk_cell BK288.out 0).trans rfl, (blk_cell BK288.out 1).trans rfl, (blk_cell BK288.out 2).trans rfl, ((HB.out.cell (World.block_lt_of_cell? w _ hw293_0)).trans hw293_0), ((HB.out.cell (World.block_lt_of_cell? w _ hw293_1)).trans hw293_1), ((HB.out.cell (World.block_lt_of_cell? w _ hw293_2)).trans hw293_2)⟩ (fun hHeld => ?_); refine with_tabW hopperlaw08_PipeThrough.tab12 hopperlaw08_PipeThrough.bits12 (fun HT_ HW_ => ?_)
                generalize w44.drew = w45 at HO_270002 HO276 HO283 HO292 BK269 BK278 BK288 BK289 HB hx293_0 hx293_1 hx293_2 hHeld ⊢
                refine pure_ (i := 1) (N := some 60) (v := ?_) (a' := ?_) #[false, true, false, false, false, false, false, false, false, false, false] rfl rfl (any_of HT_.out (by kernel_rfl)) (fun _ _ _ h => h) (Or.inl ⟨by rfl, ?_⟩) ?_ ?_
                rotate_left
                · intro w'
                  go_simp
                  with_reducible rfl
                rotate_left
                · simp only [Act.put, PU, i64_w, i32_w]
                  rfl
                refine pure_ (i := 2) (N := some 61) (v := ?_) (a' := ?_) #[false, true, true, false, false, false, false, false, false, false, false] rfl rfl (any_of HT_.out (by kernel_rfl)) (fun _ _ _ h => h) (Or.inl ⟨by rfl, ?_⟩) ?_ ?_
                rotate_left
                · intro w'
                  go_simp
                  with_reducible rfl
                rotate_left
                · simp only [Act.put, PU, i64_w, i32_w]
                  rfl
                refine pure_ (i := 3) (N := some 62) (v := ?_) (a' := ?_) #[false, true, true, true, false, false, false, false, false, false, false] rfl rfl (any_of HT_.out (by kernel_rfl)) (fun _ _ _ h => h) (Or.inl ⟨by rfl, ?_⟩) ?_ ?_
                rotate_left
                · intro w'
                  go_simp
                  with_reducible rfl
                rotate_left
                · simp only [Act.put, PU, i64_w, i32_w]
                  rfl
                refine take_ (i := 0) (N := some 59) (v := ?_) (a' := ?_) (tf 4 11) rfl rfl (take_ofW HT_.out HW_.out (by kernel_rfl)) (fun _ _ _ h => h) (Or.inl ⟨by rfl, ?_⟩) hHeld ?_ ?_
                rotate_left
                · rintro w' ⟨s0, s1, s2, s3, s4, s5⟩
                  go_simp
                  with_reducible rfl
                rotate_left
                · simp only [Act.put, PU, i64_w, i32_w]
                  rfl
                refine take_ (i := 4) (N := some 63) (v := ?_) (a' := ?_) (tf 5 11) rfl rfl (take_ofW HT_.out HW_.out (by kernel_rfl)) (fun _ _ _ h => h) (Or.inl ⟨by rfl, ?_⟩) hHeld ?_ ?_
                rotate_left
                · rintro w' ⟨s0, s1, s2, s3, s4, s5⟩
                  go_simp
                  with_reducible rfl
                rotate_left
                · simp only [Act.put, PU, i64_w, i32_w]
                  rfl
                refine one_ (i := 5) (N := some 64) (tf 6 11) rfl rfl (one_of HT_.out (by kernel_rfl)) (by decide) (fun K hK => ?_)
                refine goes_ Try.func10 (by kernel_rfl) rfl #[.agg #[.int .i64 t279, .bool t280, .slice Ao40 t281.length co40], .agg #[.int .i64 ((rd_T26 l1 x8_2).f0), .int .i64 ((rd_T26 l1 x8_2).f1), .string ((rd_T26 l1 x8_2).f2)]] (by rfl) rfl rfl (by (try simp only [List.map_toArray, List.map_cons, List.map_nil]); first | done | rfl | (simp only [List.length_drop, List.length_take]; rfl)) ?_
                with_reducible refine (pipe_Pipe_Send.calls t279 t280 (fun k_ => ((k_ ≠ gb269 ∧ (k_ ≠ gb278 ∧ (k_ ≠ gb288 ∧ k_ ≠ gb289))) ∧ some k_ ≠ (v291 : Value).ownBlock)) _ _ t281 ((rd_T26 l1 x8_2).f0) ((rd_T26 l1 x8_2).f1) ((rd_T26 l1 x8_2).f2) t294 t295 t296 t299 _ ?side1 A19.out).mono ?_
                (case side1 => exact HO283.out)
                rintro e w46 ⟨v297, rfl, ho0, hb⟩
                refine ⟨_, rfl, ?_⟩
                have n0_ := Aside0.mk (Kd.V_below (Kd.VA HO_270002.out) hb)
                have n1_ := Aside0.mk (Kd.V_below (Kd.VA HO276.out) hb)
                have n2_ := Aside0.mk (Kd.V_below (Kd.VA HO283.out) hb)
                have n3_ := Aside0.mk (Kd.R_below (Kd.RA HO292.out) hb)
                have n4_ := Aside0.mk (Kd.V_lower (Kd.V_mono (ok' := fun k_ => some k_ ≠ (v291 : Value).ownBlock ∧ k_ ≠ gb269 ∧ k_ ≠ gb278 ∧ k_ ≠ gb288 ∧ k_ ≠ gb289) ho0 (fun k_ hk_ => ⟨Or.elim hk_ (fun hs_ => hs_.2) (fun hn_ => (Kd.fresh' (Kd.R_lt (Kd.RA HO292.out)) k_ hn_)), Or.elim hk_ (fun hs_ => hs_.1.1) (fun hn_ => (Kd.freshB (g := gb269) (o := .cells #[.int .i64 x270000_2, .bool x270001_2, .slice Ao21 x270002_2.length co21] 31 (0, 0)) (BA BK269.out) k_ hn_)), Or.elim hk_ (fun hs_ => hs_.1.2.1) (fun hn_ => (Kd.freshB (g := gb278) (o := .cells #[.int .i64 t272, .bool t273, .slice Ao28 t274.length co28] 31 (0, 0)) (BA BK278.out) k_ hn_)), Or.elim hk_ (fun hs_ => hs_.1.2.2.1) (fun hn_ => (Kd.freshB (g := gb288) (o := .cells #[.int .i64 t279, .bool t280, .slice Ao40 t281.length co40] 31 (0, 0)) (BA BK288.out) k_ hn_)), Or.elim hk_ (fun hs_ => hs_.1.2.2.2) (fun hn_ => (Kd.freshB (g := gb289) (o := .cells #[.int .i64 t284, .int .i64 t285, .string t286] 36 (0, 0)) (BA BK289.out) k_ hn_))⟩)) (below_size (LG HB.out (G1 GE269.out (G1 GE278.out (G1 GE288.out (G1 GE289.out G0)))))))
                have n5_ := Aside0.mk (blk_below (BA BK269.out) hb)
                have n6_ := Aside0.mk (blk_below (BA BK278.out) hb)
                have n7_ := Aside0.mk (blk_below (BA BK288.out) hb)
                have n8_ := Aside0.mk (blk_below (BA BK289.out) hb)
                have n9_ := Aside0.mk (below_step (LG HB.out (G1 GE269.out (G1 GE278.out (G1 GE288.out (G1 GE289.out G0))))) hb)
                clear HO_270002
                clear HO276
                clear HO283
                clear HO292
                clear BK269
                clear BK278
                clear BK288
                clear BK289
                clear HB
                have HO_270002 := n0_
                have HO276 := n1_
                have HO283 := n2_
                have HO292 := n3_
                have HO298 := n4_
                have BK269 := n5_
                have BK278 := n6_
                have BK288 := n7_
                have BK289 := n8_
                have HB := n9_
                clear n0_ n1_ n2_ n3_ n4_ n5_ n6_ n7_ n8_ n9_
                (try clear hb)
                (try clear hb2)
                (try clear hk)
                (try clear hi)
                (try clear ho0)
                obtain ⟨Ao49, co49, eo49⟩ := Kd.V_slice HO298.out
                (first | subst eo49 | (injection eo49 with f1_ f2_ f3_; have f4_ := f1_.symm; have f5_ := f3_.symm; clear f1_ f2_ f3_; subst f4_; subst f5_))
                refine hK.out _ _ ⟨(blk_cell BK288.out 0).trans rfl, (blk_cell BK288.out 1).trans rfl, (blk_cell BK288.out 2).trans rfl, ((HB.out.cell (World.block_lt_of_cell? w _ hw293_0)).trans hw293_0), ((HB.out.cell (World.block_lt_of_cell? w _ hw293_1)).trans hw293_1), ((HB.out.cell (World.block_lt_of_cell? w _ hw293_2)).trans hw293_2)⟩ (fun hHeld => ?_)
                clear hK K
                refine norm_ (a' := ?_) ?_ ?_
                rotate_left
                · show Act.put _ (some 64) _ = _
                  simp only [Act.put, PU, i64_w, i32_w]
                  rfl
                refine pure_ (i := 6) (N := some 58) (v := ?_) (a' := ?_) (tf 7 11) rfl rfl (any_of HT_.out (by kernel_rfl)) (fun _ _ _ h => h) (Or.inl ⟨by rfl, ?_⟩) ?_ ?_
                rotate_left
                · intro w'
                  go_simp
                  with_reducible rfl
                rotate_left
                · simp only [Act.put, PU, i64_w, i32_w]
                  rfl
                refine pure_ (i := 7) (N := some 65) (v := ?_) (a' := ?_) (tf 8 11) rfl rfl (any_of HT_.out (by kernel_rfl)) (fun _ _ _ h => h) (Or.inl ⟨by rfl, ?_⟩) ?_ ?_
                rotate_left
                · intro w'
                  go_simp
                  with_reducible rfl
                rotate_left
                · simp only [Act.put, PU, i64_w, i32_w]
                  rfl
                refine pure_ (i := 8) (N := some 66) (v := ?_) (a' := ?_) (tf 9 11) rfl rfl (any_of HT_.out (by kernel_rfl)) (fun _ _ _ h => h) (Or.inl ⟨by rfl, ?_⟩) ?_ ?_
                rotate_left
                · intro w'
                  go_simp
                  with_reducible rfl
                rotate_left
                · simp only [Act.put, PU, i64_w, i32_w]
                  rfl
                refine one_ (i := 9) (N := none) (tf 10 11) rfl rfl (one_of HT_.out (by kernel_rfl)) (by decide) (fun K hK => ?_)
                have hs47 : w46.cell? ⟨gb278, 0, none⟩ = some (.int .i64 t272) := (blk_cell BK278.out 0).trans rfl
                have hfs47 := blk_frozen BK278.out 0
                have hns47_0 := NB269_278.out
                have hns47_2 := NB288_278.out
                have hns47_3 := NB289_278.out
                have hms47_0 := NB278_269.out
                have hms47_2 := NB278_288.out
                have hms47_3 := NB278_289.out
                have hs48 : w46.cell? ⟨gb278, 1, none⟩ = some (.bool t273) := (blk_cell BK278.out 1).trans rfl
                have hfs48 := blk_frozen BK278.out 1
                have hns48_0 := NB269_278.out
                have hns48_2 := NB288_278.out
                have hns48_3 := NB289_278.out
                have hms48_0 := NB278_269.out
                have hms48_2 := NB278_288.out
                have hms48_3 := NB278_289.out
                have hs50 : w46.cell? ⟨gb278, 2, none⟩ = some (.slice Ao28 t274.length co28) := (blk_cell BK278.out 2).trans rfl
                have hfs50 := blk_frozen BK278.out 2
                have hns50_0 := NB269_278.out
                have hns50_2 := NB288_278.out
                have hns50_3 := NB289_278.out
                have hms50_0 := NB278_269.out
                have hms50_2 := NB278_288.out
                have hms50_3 := NB278_289.out
                refine skip_ (w1 := ?_) (by rfl) rfl ?_ ?_
                rotate_left
                · go_simp
                  rfl
                refine hK.out _ _ ⟨((cell_far (p := ⟨gb278, _, none⟩) NB288_278.out _).trans (((cell_far (p := ⟨gb278, _, none⟩) NB288_278.out _).trans (((cell_far (p := ⟨gb278, _, none⟩) NB288_278.out _).trans (hHeld.1)))))), ((cell_far (p := ⟨gb278, _, none⟩) NB288_278.out _).trans (((cell_far (p := ⟨gb278, _, none⟩) NB288_278.out _).trans (((cell_far (p := ⟨gb278, _, none⟩) NB288_278.out _).trans (hHeld.2.1)))))), ((cell_far (p := ⟨gb278, _, none⟩) NB288_278.out _).trans (((cell_far (p := ⟨gb278, _, none⟩) NB288_278.out _).trans (((cell_far (p := ⟨gb278, _, none⟩) NB288_278.out _).trans (hHeld.2.2.1)))))), ((cell_far (p := ⟨gb278, _, none⟩) (by first | exact Nat.ne_of_lt (Nat.lt_of_lt_of_le (by have := World.block_lt_of_cell? _ _ hw293_0; first | rwa [add_block] at this | exact this) GW278.out) | (rw [add_block]; exact Nat.ne_of_lt (Nat.lt_of_lt_of_le (by have := World.block_lt_of_cell? _ _ hw293_0; first | rwa [add_block] at this | exact this) GW278.out)) | (show (Addr.add _ _).block ≠ _; rw [add_block]; exact Nat.ne_of_lt (Nat.lt_of_lt_of_le (by have := World.block_lt_of_cell? _ _ hw293_0; first | rwa [add_block] at this | exact this) GW278.out)) | (dsimp only; exact Nat.ne_of_lt (Nat.lt_of_lt_of_le (by have := World.block_lt_of_cell? _ _ hw293_0; first | rwa [add_block] at this | exact this) GW278.out))) _).trans (((cell_far (p := ⟨gb278, _, none⟩) (by first | exact Nat.ne_of_lt (Nat.lt_of_lt_of_le (by have := World.block_lt_of_cell? _ _ hw293_0; first | rwa [add_block] at this | exact this) GW278.out) | (rw [add_block]; exact Nat.ne_of_lt (Nat.lt_of_lt_of_le (by have := World.block_lt_of_cell? _ _ hw293_0; first | rwa [add_block] at this | exact this) GW278.out)) | (show (Addr.add _ _).block ≠ _; rw [add_block]; exact Nat.ne_of_lt (Nat.lt_of_lt_of_le (by have := World.block_lt_of_cell? _ _ hw293_0; first | rwa [add_block] at this | exact this) GW278.out)) | (dsimp only; exact Nat.ne_of_lt (Nat.lt_of_lt_of_le (by have := World.block_lt_of_cell? _ _ hw293_0; first | rwa [add_block] at this | exact this) GW278.out))) _).trans (((cell_far (p := ⟨gb278, _, none⟩) (by first | exact Nat.ne_of_lt (Nat.lt_of_lt_of_le (by have := World.block_lt_of_cell? _ _ hw293_0; first | rwa [add_block] at this | exact this) GW278.out) | (rw [add_block]; exact Nat.ne_of_lt (Nat.lt_of_lt_of_le (by have := World.block_lt_of_cell? _ _ hw293_0; first | rwa [add_block] at this | exact this) GW278.out)) | (show (Addr.add _ _).block ≠ _; rw [add_block]; exact Nat.ne_of_lt (Nat.lt_of_lt_of_le (by have := World.block_lt_of_cell? _ _ hw293_0; first | rwa [add_block] at this | exact this) GW278.out)) | (dsimp only; exact Nat.ne_of_lt (Nat.lt_of_lt_of_le (by have := World.block_lt_of_cell? _ _ hw293_0; first | rwa [add_block] at this | exact this) GW278.out))) _).trans (hHeld.2.2.2.1)))))), ((cell_far (p := ⟨gb278, _, none⟩) (by first | exact Nat.ne_of_lt (Nat.lt_of_lt_of_le (by have := World.block_lt_of_cell? _ _ hw293_1; first | rwa [add_block] at this | exact this) GW278.out) | (rw [add_block]; exact Nat.ne_of_lt (Nat.lt_of_lt_of_le (by have := World.block_lt_of_cell? _ _ hw293_1; first | rwa [add_block] at this | exact this) GW278.out)) | (show (Addr.add _ _).block ≠ _; rw [add_block]; exact Nat.ne_of_lt (Nat.lt_of_lt_of_le (by have := World.block_lt_of_cell? _ _ hw293_1; first | rwa [add_block] at this | exact this) GW278.out)) | (dsimp only; exact Nat.ne_of_lt (Nat.lt_of_lt_of_le (by have := World.block_lt_of_cell? _ _ hw293_1; first | rwa [add_block] at this | exact this) GW278.out))) _).trans (((cell_far (p := ⟨gb278, _, none⟩) (by first | exact Nat.ne_of_lt (Nat.lt_of_lt_of_le (by have := World.block_lt_of_cell? _ _ hw293_1; first | rwa [add_block] at this | exact this) GW278.out) | (rw [add_block]; exact Nat.ne_of_lt (Nat.lt_of_lt_of_le (by have := World.block_lt_of_cell? _ _ hw293_1; first | rwa [add_block] at this | exact this) GW278.out)) | (show (Addr.add _ _).block ≠ _; rw [add_block]; exact Nat.ne_of_lt (Nat.lt_of_lt_of_le (by have := World.block_lt_of_cell? _ _ hw293_1; first | rwa [add_block] at this | exact this) GW278.out)) | (dsimp only; exact Nat.ne_of_lt (Nat.lt_of_lt_of_le (by have := World.block_lt_of_cell? _ _ hw293_1; first | rwa [add_block] at this | exact this) GW278.out))) _).trans (((cell_far (p := ⟨gb278, _, none⟩) (by first | exact Nat.ne_of_lt (Nat.lt_of_lt_of_le (by have := World.block_lt_of_cell? _ _ hw293_1; first | rwa [add_block] at this | exact this) GW278.out) | (rw [add_block]; exact Nat.ne_of_lt (Nat.lt_of_lt_of_le (by have := World.block_lt_of_cell? _ _ hw293_1; first | rwa [add_block] at this | exact this) GW278.out)) | (show (Addr.add _ _).block ≠ _; rw [add_block]; exact Nat.ne_of_lt (Nat.lt_of_lt_of_le (by have := World.block_lt_of_cell? _ _ hw293_1; first | rwa [add_block] at this | exact this) GW278.out)) | (dsimp only; exact Nat.ne_of_lt (Nat.lt_of_lt_of_le (by have := World.block_lt_of_cell? _ _ hw293_1; first | rwa [add_block] at this | exact this) GW278.out))) _).trans (hHeld.2.2.2.2.1)))))), ((cell_far (p := ⟨gb278, _, none⟩) (by first | exact Nat.ne_of_lt (Nat.lt_of_lt_of_le (by have := World.block_lt_of_cell? _ _ hw293_2; first | rwa [add_block] at this | exact this) GW278.out) | (rw [add_block]; exact Nat.ne_of_lt (Nat.lt_of_lt_of_le (by have := World.block_lt_of_cell? _ _ hw293_2; first | rwa [add_block] at this | exact this) GW278.out)) | (show (Addr.add _ _).block ≠ _; rw [add_block]; exact Nat.ne_of_lt (Nat.lt_of_lt_of_le (by have := World.block_lt_of_cell? _ _ hw293_2; first | rwa [add_block] at this | exact this) GW278.out)) | (dsimp only; exact Nat.ne_of_lt (Nat.lt_of_lt_of_le (by have := World.block_lt_of_cell? _ _ hw293_2; first | rwa [add_block] at this | exact this) GW278.out))) _).trans (((cell_far (p := ⟨gb278, _, none⟩) (by first | exact Nat.ne_of_lt (Nat.lt_of_lt_of_le (by have := World.block_lt_of_cell? _ _ hw293_2; first | rwa [add_block] at this | exact this) GW278.out) | (rw [add_block]; exact Nat.ne_of_lt (Nat.lt_of_lt_of_le (by have := World.block_lt_of_cell? _ _ hw293_2; first | rwa [add_block] at this | exact this) GW278.out)) | (show (Addr.add _ _).block ≠ _; rw [add_block]; exact Nat.ne_of_lt (Nat.lt_of_lt_of_le (by have := World.block_lt_of_cell? _ _ hw293_2; first | rwa [add_block] at this | exact this) GW278.out)) | (dsimp only; exact Nat.ne_of_lt (Nat.lt_of_lt_of_le (by have := World.block_lt_of_cell? _ _ hw293_2; first | rwa [add_block] at this | exact this) GW278.out))) _).trans (((cell_far (p := ⟨gb278, _, none⟩) (by first | exact Nat.ne_of_lt (Nat.lt_of_lt_of_le (by have := World.block_lt_of_cell? _ _ hw293_2; first | rwa [add_block] at this | exact this) GW278.out) | (rw [add_block]; exact Nat.ne_of_lt (Nat.lt_of_lt_of_le (by have := World.block_lt_of_cell? _ _ hw293_2; first | rwa [add_block] at this | exact this) GW278.out)) | (show (Addr.add _ _).block ≠ _; rw [add_block]; exact Nat.ne_of_lt (Nat.lt_of_lt_of_le (by have := World.block_lt_of_cell? _ _ hw293_2; first | rwa [add_block] at this | exact this) GW278.out)) | (dsimp only; exact Nat.ne_of_lt (Nat.lt_of_lt_of_le (by have := World.block_lt_of_cell? _ _ hw293_2; first | rwa [add_block] at this | exact this) GW278.out))) _).trans (hHeld.2.2.2.2.2))))))⟩ (fun hHeld => ?_)
                clear hK K
                refine pure_ (i := 10) (N := some 10) (v := ?_) (a' := ?_) (tf 11 11) rfl rfl (any_of HT_.out (by kernel_rfl)) (fun _ _ _ h => h) (Or.inl ⟨by rfl, ?_⟩) ?_ ?_
                rotate_left
                · intro w'
                  go_simp
                  with_reducible rfl
                rotate_left
                · simp only [Act.put, PU, i64_w, i32_w]
                  rfl
                refine done_ (done_of HT_.out (by kernel_rfl)) ?_
                have hcz51_0 : w46.cell? ⟨gb278, 0, none⟩ = some (.int .i64 t272) := (blk_cell BK278.out 0).trans rfl
                have hcz51_1 : w46.cell? ⟨gb278, 1, none⟩ = some (.bool t273) := (blk_cell BK278.out 1).trans rfl
                have hcz51_2 : w46.cell? ⟨gb278, 2, none⟩ = some (.slice Ao28 t274.length co28) := (blk_cell BK278.out 2).trans rfl
                have hfz51_0 := blk_frozen BK278.out 0
                have hfz51_1 := blk_frozen BK278.out 1
                have hfz51_2 := blk_frozen BK278.out 2
                have hcz52_0 : w46.cell? ⟨gb269, 0, none⟩ = some (.int .i64 x270000_2) := (blk_cell BK269.out 0).trans rfl
                have hcz52_1 : w46.cell? ⟨gb269, 1, none⟩ = some (.bool x270001_2) := (blk_cell BK269.out 1).trans rfl
                have hcz52_2 : w46.cell? ⟨gb269, 2, none⟩ = some (.slice Ao21 x270002_2.length co21) := (blk_cell BK269.out 2).trans rfl
                have hfz52_0 := blk_frozen BK269.out 0
                have hfz52_1 := blk_frozen BK269.out 1
                have hfz52_2 := blk_frozen BK269.out 2
                try go_wp2
                go_roundg k2
                case measure => have := HJ3.out; have := HK2.out; omega
                case rel => exact ⟨(y290), (wrap64 (x8_2 + 1)), (t294), (t295), (t296), (.slice Ao49 t296.length co49), (by first | exact (congrArg (fun b => Ending.returned (.bool b)) HR_.out) | (rw [HR_.out]; done) | rfl | (rw [HR_.out]; rfl) | (simp [HR_.out]; done) | (simp; done) | (simp [*]; done)), H', ⟨by have := HJ3.out; have := HK2.out; omega⟩, ⟨by (with_reducible repeat (first | apply Kd.R_alloc | apply Kd.R_drewN | apply Kd.R_drew)); exact Kd.R_mono (Kd.R_ms (gs := [gb269, gb278]) (Kd.R_types (Kd.R_types HO292.out BK278.out (by decide)) BK269.out (by decide)) (fun _ hk => N1 (hk.2) (N1 (hk.1.2) (N0)))) (fun _ hk => trivial)⟩, ⟨by (with_reducible repeat (first | apply Kd.V_alloc | apply Kd.V_drewN | apply Kd.V_drew)); exact Kd.V_mono (Kd.V_ms (gs := [gb269, gb278]) (Kd.V_mono (Kd.V_mono HO298.out (fun k_ hk => (⟨hk, hk.2.2.1⟩ : _ ∧ k_ ≠ gb278))) (fun k_ hk => (⟨hk, hk.1.2.1⟩ : _ ∧ k_ ≠ gb269))) (fun _ hk => N1 (hk.2) (N1 (hk.1.2) (N0)))) (fun _ hk => ⟨hk.1.1.1, hk.1.1.2.1⟩)⟩, ⟨by (with_reducible repeat (first | refine blk_drewN ?_ _ | refine blk_drew ?_ | refine blk_alloc ?_ _)); refine blk_put (cs := #[.int .i64 t294, .bool t295, .slice Ao21 x270002_2.length co21]) ?_ 2 _ rfl; (with_reducible repeat (first | refine blk_drewN ?_ _ | refine blk_drew ?_ | refine blk_alloc ?_ _)); refine blk_put (cs := #[.int .i64 t294, .bool x270001_2, .slice Ao21 x270002_2.length co21]) ?_ 1 _ rfl; (with_reducible repeat (first | refine blk_drewN ?_ _ | refine blk_drew ?_ | refine blk_alloc ?_ _)); refine blk_put (cs := #[.int .i64 x270000_2, .bool x270001_2, .slice Ao21 x270002_2.length co21]) ?_ 0 _ rfl; exact BF BK269.out NB269_278.out⟩, ⟨LG HB.out (G1 GE269.out (G1 GE278.out (G1 GE288.out (G1 GE289.out G0))))⟩⟩
              · rw [if_neg c16] at H
                have c16b0 : (t277 == 6) = false := beq_eq_false_iff_ne.mpr c16
                have c16b1 : (t277 != 6) = true := bne_iff_ne.mpr c16
                by_cases c53 : t277 = 0
                rotate_left
                · rw [if_neg c53] at H
                  have c53b0 : (t277 == 0) = false := beq_eq_false_iff_ne.mpr c53
                  have c53b1 : (t277 != 0) = true := bne_iff_ne.mpr c53
                  exact absurd H (by simp)
                rw [if_pos c53] at H
                have c53b0 : (t277 == 0) = true := beq_iff_eq.mpr c53
                have c53b1 : (t277 != 0) = false := bne_eq_false_iff_eq.mpr c53
                clear c53
                have H' := Aside0.mk H
                clear H
                obtain ⟨Ao54, co54, eo54⟩ := Kd.V_slice HO_270002.out
                subst eo54
                try go_wp2
                have n0_ := Aside0.mk (Kd.R_drew HO_7.out)
                have n1_ := Aside0.mk (Kd.V_drew HO_270002.out)
                have n2_ := Aside0.mk (blk_drew BK269.out)
                have n3_ := Aside0.mk (below_drew1 HB.out)
                clear HO_7
                clear HO_270002
                clear BK269
                clear HB
                have HO_7 := n0_
                have HO_270002 := n1_
                have BK269 := n2_
                have HB := n3_
                clear n0_ n1_ n2_ n3_
                have p271 : 0 ≤ (x8_2 : Int) := of_decide_eq_true (by first | (with_reducible assumption) | assumption)
                have q271 : x8_2 < (l1.length : Int) := of_decide_eq_true (by first | (with_reducible assumption) | assumption)
                obtain ⟨ad271, e271, hx271_0, hx271_1, hx271_2⟩ := at_T26 HR1.out x8_2 p271 q271
                have hw271_2 := hx271_2
                have hw271_1 := hx271_1
                have hw271_0 := hx271_0
                cases e271
                replace hx271_0 := (HB.out.cell (World.block_lt_of_cell? w _ hx271_0)).trans hx271_0
                replace hx271_1 := (HB.out.cell (World.block_lt_of_cell? w _ hx271_1)).trans hx271_1
                replace hx271_2 := (HB.out.cell (World.block_lt_of_cell? w _ hx271_2)).trans hx271_2
                replace p271 := eq_true p271
                replace q271 := eq_true q271
                refine start_ (n := 12) (S := fun w' => w'.cell? ⟨gb269, 0, none⟩ = some (.int .i64 x270000_2) ∧ w'.cell? ⟨gb269, 1, none⟩ = some (.bool x270001_2) ∧ w'.cell? ⟨gb269, 2, none⟩ = some (.slice Ao54 x270002_2.length co54) ∧ w'.cell? (ad271.add ((x8_2).toNat * 3)) = some (.int .i64 ((rd_T26 l1 x8_2).f0)) ∧ w'.cell? ⟨(ad271.add ((x8_2).toNat * 3)).block, (ad271.add ((x8_2).toNat * 3)).off + 1, none⟩ = some (.int .i64 ((rd_T26 l1 x8_2).f1)) ∧ w'.cell? ⟨(ad271.add ((x8_2).toNat * 3)).block, (ad271.add ((x8_2).toNat * 3)).off + 2, none⟩ = some (.string ((rd_T26 l1 x8_2).f2))) (ds := []) (tf 0 12) (by kernel_rfl) rfl rfl ⟨(blk_cell BK269.out 0).trans rfl, (blk_cell BK269.out 1).trans rfl, (blk_cell BK269.out 2).trans rfl, ((HB.out.cell (World.block_lt_of_cell? w _ hw271_0)).trans hw271_0), ((HB.out.cell (World.block_lt_of_cell? w _ hw271_1)).trans hw271_1), ((HB.out.cell (World.block_lt_of_cell? w _ hw271_2)).trans hw271_2)⟩ (fun hHeld => ?_); refine with_tabW hopperlaw08_PipeThrough.tab8 hopperlaw08_PipeThrough.bits8 (fun HT_ HW_ => ?_)
                generalize wr.drew = w55 at HO_7 HO_270002 BK269 HB hx271_0 hx271_1 hx271_2 hHeld ⊢
                refine pure_ (i := 1) (N := some 39) (v := ?_) (a' := ?_) #[false, true, false, false, false, false, false, false, false, false, false, false] rfl rfl (any_of HT_.out (by kernel_rfl)) (fun _ _ _ h => h) (Or.inl ⟨by rfl, ?_⟩) ?_ ?_
                rotate_left
                · intro w'
                  go_simp
                  with_reducible rfl
                rotate_left
                · simp only [Act.put, PU, i64_w, i32_w]
                  rfl
                refine pure_ (i := 2) (N := some 40) (v := ?_) (a' := ?_) #[false, true, true, false, false, false, false, false, false, false, false, false] rfl rfl (any_of HT_.out (by kernel_rfl)) (fun _ _ _ h => h) (Or.inl ⟨by rfl, ?_⟩) ?_ ?_
                rotate_left
                · intro w'
                  go_simp
                  with_reducible rfl
                rotate_left
                · simp only [Act.put, PU, i64_w, i32_w]
                  rfl
                refine pure_ (i := 3) (N := some 41) (v := ?_) (a' := ?_) #[false, true, true, true, false, false, false, false, false, false, false, false] rfl rfl (any_of HT_.out (by kernel_rfl)) (fun _ _ _ h => h) (Or.inl ⟨by rfl, ?_⟩) ?_ ?_
                rotate_left
                · intro w'
                  go_simp
                  with_reducible rfl
                rotate_left
                · simp only [Act.put, PU, i64_w, i32_w]
                  rfl
                refine take_ (i := 0) (N := some 38) (v := ?_) (a' := ?_) (tf 4 12) rfl rfl (take_ofW HT_.out HW_.out (by kernel_rfl)) (fun _ _ _ h => h) (Or.inl ⟨by rfl, ?_⟩) hHeld ?_ ?_
                rotate_left
                · rintro w' ⟨s0, s1, s2, s3, s4, s5⟩
                  go_simp
                  with_reducible rfl
                rotate_left
                · simp only [Act.put, PU, i64_w, i32_w]
                  rfl
                refine take_ (i := 4) (N := some 42) (v := ?_) (a' := ?_) (tf 5 12) rfl rfl (take_ofW HT_.out HW_.out (by kernel_rfl)) (fun _ _ _ h => h) (Or.inl ⟨by rfl, ?_⟩) hHeld ?_ ?_
                rotate_left
                · rintro w' ⟨s0, s1, s2, s3, s4, s5⟩
                  go_simp
                  with_reducible rfl
                rotate_left
                · simp only [Act.put, PU, i64_w, i32_w]
                  rfl
                refine join_ (σ := Value × Nat) 2 (tf 10 12) (fun s_ => [(43, .tuple #[.agg #[.int .i64 t272, .bool t273, s_.1], .int .i64 t277]), (9, .pointer (some ⟨s_.2, 0, none⟩)), (37, .tuple #[.agg #[.int .i64 t272, .bool t273, s_.1], .int .i64 t277]), (44, .agg #[.int .i64 t272, .bool t273, s_.1]), (45, .int .i64 t277)]) (fun s_ w' => (w'.cell? ⟨gb269, 0, none⟩ = some (.int .i64 x270000_2) ∧ w'.cell? ⟨gb269, 1, none⟩ = some (.bool x270001_2) ∧ w'.cell? ⟨gb269, 2, none⟩ = some (.slice Ao54 x270002_2.length co54) ∧ w'.cell? (ad271.add ((x8_2).toNat * 3)) = some (.int .i64 ((rd_T26 l1 x8_2).f0)) ∧ w'.cell? ⟨(ad271.add ((x8_2).toNat * 3)).block, (ad271.add ((x8_2).toNat * 3)).off + 1, none⟩ = some (.int .i64 ((rd_T26 l1 x8_2).f1)) ∧ w'.cell? ⟨(ad271.add ((x8_2).toNat * 3)).block, (ad271.add ((x8_2).toNat * 3)).off + 2, none⟩ = some (.string ((rd_T26 l1 x8_2).f2))) ∧ (Kd.V k36 36 w' w.heap.size (fun k_ => some k_ ≠ (u7 : Value).ownBlock ∧ k_ ≠ gb269 ∧ k_ ≠ s_.2) s_.1 t274) ∧ (Kd.V k36 36 w' w.heap.size (fun k_ => some k_ ≠ (u7 : Value).ownBlock ∧ k_ ≠ gb269 ∧ k_ ≠ s_.2) (.slice Ao54 x270002_2.length co54) x270002_2) ∧ (Kd.R k26 26 w' w.heap.size (fun _ => True) u7 x7_2) ∧ (w'.heap[gb269]? = some (.cells #[.int .i64 x270000_2, .bool x270001_2, .slice Ao54 x270002_2.length co54] 31 (0, 0))) ∧ (w'.heap[s_.2]? = some (.cells #[.int .i64 0, .bool false, .slice none 0 0] 31 (0, 0))) ∧ (w.heap.size ≤ s_.2) ∧ (w.heap.size ≤ s_.2) ∧ (gb269 ≠ s_.2) ∧ (s_.2 ≠ gb269) ∧ (Below w.heap.size w w')) ?_ ?_
                rotate_left
                · intro hCont
                  refine two_ (i := 5) (j := 9) (Ni := some 43) (Nj := some 9) (tf 6 12) #[true, true, true, true, true, false, false, false, false, true, false, false] rfl rfl rfl rfl (two_of HT_.out (by kernel_rfl)) (by decide) (by decide) (fun K hK => ?_) (fun K hK => ?_)
                  · skip
                    refine goes_ Try.func10 (by kernel_rfl) rfl #[.agg #[.int .i64 x270000_2, .bool x270001_2, .slice Ao54 x270002_2.length co54], .agg #[.int .i64 ((rd_T26 l1 x8_2).f0), .int .i64 ((rd_T26 l1 x8_2).f1), .string ((rd_T26 l1 x8_2).f2)]] (by rfl) rfl rfl (by (try simp only [List.map_toArray, List.map_cons, List.map_nil]); first | done | rfl | (simp only [List.length_drop, List.length_take]; rfl)) ?_
                    with_reducible refine (pipe_Pipe_Send.calls x270000_2 x270001_2 (fun k_ => (some k_ ≠ (u7 : Value).ownBlock ∧ k_ ≠ gb269)) _ _ x270002_2 ((rd_T26 l1 x8_2).f0) ((rd_T26 l1 x8_2).f1) ((rd_T26 l1 x8_2).f2) t272 t273 t274 t277 _ ?side1 A15.out).mono ?_
                    (case side1 => exact HO_270002.out)
                    rintro e w56 ⟨v275, rfl, ho0, hb⟩
                    refine ⟨_, rfl, ?_⟩
                    have n0_ := Aside0.mk (Kd.R_below (Kd.RA HO_7.out) hb)
                    have n1_ := Aside0.mk (Kd.V_below (Kd.VA HO_270002.out) hb)
                    have n2_ := Aside0.mk (Kd.V_lower (Kd.V_mono (ok' := fun k_ => some k_ ≠ (u7 : Value).ownBlock ∧ k_ ≠ gb269) ho0 (fun k_ hk_ => ⟨Or.elim hk_ (fun hs_ => hs_.1) (fun hn_ => (Kd.fresh' (Kd.R_lt (Kd.RA HO_7.out)) k_ hn_)), Or.elim hk_ (fun hs_ => hs_.2) (fun hn_ => (Kd.freshB (g := gb269) (o := .cells #[.int .i64 x270000_2, .bool x270001_2, .slice Ao54 x270002_2.length co54] 31 (0, 0)) (BA BK269.out) k_ hn_))⟩)) (below_size (LG HB.out (G1 GE269.out G0))))
                    have n3_ := Aside0.mk (blk_below (BA BK269.out) hb)
                    have n4_ := Aside0.mk (below_step (LG HB.out (G1 GE269.out G0)) hb)
                    clear HO_7
                    clear HO_270002
                    clear BK269
                    clear HB
                    have HO_7 := n0_
                    have HO_270002 := n1_
                    have HO276 := n2_
                    have BK269 := n3_
                    have HB := n4_
                    clear n0_ n1_ n2_ n3_ n4_
                    (try clear hb)
                    (try clear hb2)
                    (try clear hk)
                    (try clear hi)
                    (try clear ho0)
                    refine hK.out _ _ ⟨(blk_cell BK269.out 0).trans rfl, (blk_cell BK269.out 1).trans rfl, (blk_cell BK269.out 2).trans rfl, ((HB.out.cell (World.block_lt_of_cell? w _ hw271_0)).trans hw271_0), ((HB.out.cell (World.block_lt_of_cell? w _ hw271_1)).trans hw271_1), ((HB.out.cell (World.block_lt_of_cell? w _ hw271_2)).trans hw271_2)⟩ (fun hHeld => ?_)
                    clear hK K
                    refine norm_ (a' := ?_) ?_ ?_
                    rotate_left
                    · show Act.put _ (some 43) _ = _
                      simp only [Act.put, PU, i64_w, i32_w]
                      rfl
                    refine pure_ (i := 6) (N := some 37) (v := ?_) (a' := ?_) (tf 7 12) rfl rfl (any_of HT_.out (by kernel_rfl)) (fun _ _ _ h => h) (Or.inl ⟨by rfl, ?_⟩) ?_ ?_
                    rotate_left
                    · intro w'
                      go_simp
                      with_reducible rfl
                    rotate_left
                    · simp only [Act.put, PU, i64_w, i32_w]
                      rfl
                    refine pure_ (i := 7) (N := some 44) (v := ?_) (a' := ?_) (tf 8 12) rfl rfl (any_of HT_.out (by kernel_rfl)) (fun _ _ _ h => h) (Or.inl ⟨by rfl, ?_⟩) ?_ ?_
                    rotate_left
                    · intro w'
                      go_simp
                      with_reducible rfl
                    rotate_left
                    · simp only [Act.put, PU, i64_w, i32_w]
                      rfl
                    refine pure_ (i := 8) (N := some 45) (v := ?_) (a' := ?_) (tf 9 12) rfl rfl (any_of HT_.out (by kernel_rfl)) (fun _ _ _ h => h) (Or.inl ⟨by rfl, ?_⟩) ?_ ?_
                    rotate_left
                    · intro w'
                      go_simp
                      with_reducible rfl
                    rotate_left
                    · simp only [Act.put, PU, i64_w, i32_w]
                      rfl
                    refine one_ (i := 9) (N := some 9) (tf 10 12) rfl rfl (one_of HT_.out (by kernel_rfl)) (by decide) (fun K hK => ?_)
                    refine box_step ?hg (N := 9) ?hd (cs := #[.int .i64 0, .bool false, .slice none 0 0]) (t := 31) ?hr ?_; (case hd => rfl); (case hg => rfl); (case hr => first | (go_simp; done) | (go_simp; rfl))
                    intro gb278 hg w57 hbox hb
                    have n0_ := Aside0.mk (Kd.R_below (Kd.RA HO_7.out) hb)
                    have n1_ := Aside0.mk (Kd.V_below (Kd.V_elderB (Kd.VA HO_270002.out) gb278 (Nat.le_of_eq hg.symm)) hb)
                    have n2_ := Aside0.mk (Kd.V_below (Kd.V_elderB (Kd.VA HO276.out) gb278 (Nat.le_of_eq hg.symm)) hb)
                    have n3_ := Aside0.mk (blk_below (BA BK269.out) hb)
                    have n4_ := Aside0.mk (below_step (LG HB.out (G1 GE269.out G0)) hb)
                    have n5_ := Aside0.mk (hbox)
                    have n6_ := Aside0.mk (ge1 hg (LG HB.out (G1 GE269.out G0)))
                    have n7_ := Aside0.mk (ge1 hg (LG HB.out (G1 GE269.out G0)))
                    have n8_ := Aside0.mk ((by rw [hg]; exact Nat.ne_of_lt (blk_lt (g := gb269) (o := .cells #[.int .i64 x270000_2, .bool x270001_2, .slice Ao54 x270002_2.length co54] 31 (0, 0)) (BA BK269.out)) : gb269 ≠ gb278))
                    have n9_ := Aside0.mk ((by rw [hg]; exact Nat.ne_of_gt (blk_lt (g := gb269) (o := .cells #[.int .i64 x270000_2, .bool x270001_2, .slice Ao54 x270002_2.length co54] 31 (0, 0)) (BA BK269.out)) : gb278 ≠ gb269))
                    clear HO_7
                    clear HO_270002
                    clear HO276
                    clear BK269
                    clear HB
                    have HO_7 := n0_
                    have HO_270002 := n1_
                    have HO276 := n2_
                    have BK269 := n3_
                    have HB := n4_
                    have BK278 := n5_
                    have GW278 := n6_
                    have GE278 := n7_
                    have NB269_278 := n8_
                    have NB278_269 := n9_
                    clear n0_ n1_ n2_ n3_ n4_ n5_ n6_ n7_ n8_ n9_
                    clear hb hbox hg
                    refine hK.out _ _ ⟨(blk_cell BK269.out 0).trans rfl, (blk_cell BK269.out 1).trans rfl, (blk_cell BK269.out 2).trans rfl, ((HB.out.cell (World.block_lt_of_cell? w _ hw271_0)).trans hw271_0), ((HB.out.cell (World.block_lt_of_cell? w _ hw271_1)).trans hw271_1), ((HB.out.cell (World.block_lt_of_cell? w _ hw271_2)).trans hw271_2)⟩ (fun hHeld => ?_)
                    clear hK K
                    refine norm_ (a' := ?_) ?_ ?_
                    rotate_left
                    · show Act.put _ (some 9) _ = _
                      simp only [Act.put, PU, i64_w, i32_w]
                      rfl
                    exact norm_ (by simp only [putAll, Act.put, PU]) (hCont (v275, gb278) _ ⟨hHeld, (Kd.VA (Kd.V_mono HO276.out (fun _ hk => ⟨hk.1.1, ⟨hk.1.2, hk.2⟩⟩))), (Kd.VA (Kd.V_mono HO_270002.out (fun _ hk => ⟨hk.1.1, ⟨hk.1.2, hk.2⟩⟩))), (Kd.RA HO_7.out), (BA BK269.out), (BA BK278.out), GW278.out, GE278.out, NB269_278.out, NB278_269.out, (LG HB.out (G1 GE269.out (G1 GE278.out G0)))⟩)
                  · skip
                    refine box_step ?hg (N := 9) ?hd (cs := #[.int .i64 0, .bool false, .slice none 0 0]) (t := 31) ?hr ?_; (case hd => rfl); (case hg => rfl); (case hr => first | (go_simp; done) | (go_simp; rfl))
                    intro gb278 hg w56 hbox hb
                    have n0_ := Aside0.mk (Kd.R_below (Kd.RA HO_7.out) hb)
                    have n1_ := Aside0.mk (Kd.V_below (Kd.V_elderB (Kd.VA HO_270002.out) gb278 (Nat.le_of_eq hg.symm)) hb)
                    have n2_ := Aside0.mk (blk_below (BA BK269.out) hb)
                    have n3_ := Aside0.mk (below_step (LG HB.out (G1 GE269.out G0)) hb)
                    have n4_ := Aside0.mk (hbox)
                    have n5_ := Aside0.mk (ge1 hg (LG HB.out (G1 GE269.out G0)))
                    have n6_ := Aside0.mk (ge1 hg (LG HB.out (G1 GE269.out G0)))
                    have n7_ := Aside0.mk ((by rw [hg]; exact Nat.ne_of_lt (blk_lt (g := gb269) (o := .cells #[.int .i64 x270000_2, .bool x270001_2, .slice Ao54 x270002_2.length co54] 31 (0, 0)) (BA BK269.out)) : gb269 ≠ gb278))
                    have n8_ := Aside0.mk ((by rw [hg]; exact Nat.ne_of_gt (blk_lt (g := gb269) (o := .cells #[.int .i64 x270000_2, .bool x270001_2, .slice Ao54 x270002_2.length co54] 31 (0, 0)) (BA BK269.out)) : gb278 ≠ gb269))
                    clear HO_7
                    clear HO_270002
                    clear BK269
                    clear HB
                    have HO_7 := n0_
                    have HO_270002 := n1_
                    have BK269 := n2_
                    have HB := n3_
                    have BK278 := n4_
                    have GW278 := n5_
                    have GE278 := n6_
                    have NB269_278 := n7_
                    have NB278_269 := n8_
                    clear n0_ n1_ n2_ n3_ n4_ n5_ n6_ n7_ n8_
                    clear hb hbox hg
                    refine hK.out _ _ ⟨(blk_cell BK269.out 0).trans rfl, (blk_cell BK269.out 1).trans rfl, (blk_cell BK269.out 2).trans rfl, ((HB.out.cell (World.block_lt_of_cell? w _ hw271_0)).trans hw271_0), ((HB.out.cell (World.block_lt_of_cell? w _ hw271_1)).trans hw271_1), ((HB.out.cell (World.block_lt_of_cell? w _ hw271_2)).trans hw271_2)⟩ (fun hHeld => ?_)
                    clear hK K
                    refine norm_ (a' := ?_) ?_ ?_
                    rotate_left
                    · show Act.put _ (some 9) _ = _
                      simp only [Act.put, PU, i64_w, i32_w]
                      rfl
                    refine one_ (i := 5) (N := some 43) #[true, true, true, true, true, true, false, false, false, true, false, false] rfl rfl (one_of HT_.out (by kernel_rfl)) (by decide) (fun K hK => ?_)
                    refine goes_ Try.func10 (by kernel_rfl) rfl #[.agg #[.int .i64 x270000_2, .bool x270001_2, .slice Ao54 x270002_2.length co54], .agg #[.int .i64 ((rd_T26 l1 x8_2).f0), .int .i64 ((rd_T26 l1 x8_2).f1), .string ((rd_T26 l1 x8_2).f2)]] (by rfl) rfl rfl (by (try simp only [List.map_toArray, List.map_cons, List.map_nil]); first | done | rfl | (simp only [List.length_drop, List.length_take]; rfl)) ?_
                    with_reducible refine (pipe_Pipe_Send.calls x270000_2 x270001_2 (fun k_ => ((some k_ ≠ (u7 : Value).ownBlock ∧ k_ ≠ gb269) ∧ k_ ≠ gb278)) _ _ x270002_2 ((rd_T26 l1 x8_2).f0) ((rd_T26 l1 x8_2).f1) ((rd_T26 l1 x8_2).f2) t272 t273 t274 t277 _ ?side1 A15.out).mono ?_
                    (case side1 => exact HO_270002.out)
                    rintro e w57 ⟨v275, rfl, ho0, hb⟩
                    refine ⟨_, rfl, ?_⟩
                    have n0_ := Aside0.mk (Kd.R_below (Kd.RA HO_7.out) hb)
                    have n1_ := Aside0.mk (Kd.V_below (Kd.VA HO_270002.out) hb)
                    have n2_ := Aside0.mk (Kd.V_lower (Kd.V_mono (ok' := fun k_ => some k_ ≠ (u7 : Value).ownBlock ∧ k_ ≠ gb269 ∧ k_ ≠ gb278) ho0 (fun k_ hk_ => ⟨Or.elim hk_ (fun hs_ => hs_.1.1) (fun hn_ => (Kd.fresh' (Kd.R_lt (Kd.RA HO_7.out)) k_ hn_)), Or.elim hk_ (fun hs_ => hs_.1.2) (fun hn_ => (Kd.freshB (g := gb269) (o := .cells #[.int .i64 x270000_2, .bool x270001_2, .slice Ao54 x270002_2.length co54] 31 (0, 0)) (BA BK269.out) k_ hn_)), Or.elim hk_ (fun hs_ => hs_.2) (fun hn_ => (Kd.freshB (g := gb278) (o := .cells #[.int .i64 0, .bool false, .slice none 0 0] 31 (0, 0)) (BA BK278.out) k_ hn_))⟩)) (below_size (LG HB.out (G1 GE269.out (G1 GE278.out G0)))))
                    have n3_ := Aside0.mk (blk_below (BA BK269.out) hb)
                    have n4_ := Aside0.mk (blk_below (BA BK278.out) hb)
                    have n5_ := Aside0.mk (below_step (LG HB.out (G1 GE269.out (G1 GE278.out G0))) hb)
                    clear HO_7
                    clear HO_270002
                    clear BK269
                    clear BK278
                    clear HB
                    have HO_7 := n0_
                    have HO_270002 := n1_
                    have HO276 := n2_
                    have BK269 := n3_
                    have BK278 := n4_
                    have HB := n5_
                    clear n0_ n1_ n2_ n3_ n4_ n5_
                    (try clear hb)
                    (try clear hb2)
                    (try clear hk)
                    (try clear hi)
                    (try clear ho0)
                    refine hK.out _ _ ⟨(blk_cell BK269.out 0).trans rfl, (blk_cell BK269.out 1).trans rfl, (blk_cell BK269.out 2).trans rfl, ((HB.out.cell (World.block_lt_of_cell? w _ hw271_0)).trans hw271_0), ((HB.out.cell (World.block_lt_of_cell? w _ hw271_1)).trans hw271_1), ((HB.out.cell (World.block_lt_of_cell? w _ hw271_2)).trans hw271_2)⟩ (fun hHeld => ?_)
                    clear hK K
                    refine norm_ (a' := ?_) ?_ ?_
                    rotate_left
                    · show Act.put _ (some 43) _ = _
                      simp only [Act.put, PU, i64_w, i32_w]
                      rfl
                    refine pure_ (i := 6) (N := some 37) (v := ?_) (a' := ?_) #[true, true, true, true, true, true, true, false, false, true, false, false] rfl rfl (any_of HT_.out (by kernel_rfl)) (fun _ _ _ h => h) (Or.inl ⟨by rfl, ?_⟩) ?_ ?_
                    rotate_left
                    · intro w'
                      go_simp
                      with_reducible rfl
                    rotate_left
                    · simp only [Act.put, PU, i64_w, i32_w]
                      rfl
                    refine pure_ (i := 7) (N := some 44) (v := ?_) (a' := ?_) #[true, true, true, true, true, true, true, true, false, true, false, false] rfl rfl (any_of HT_.out (by kernel_rfl)) (fun _ _ _ h => h) (Or.inl ⟨by rfl, ?_⟩) ?_ ?_
                    rotate_left
                    · intro w'
                      go_simp
                      with_reducible rfl
                    rotate_left
                    · simp only [Act.put, PU, i64_w, i32_w]
                      rfl
                    refine pure_ (i := 8) (N := some 45) (v := ?_) (a' := ?_) (tf 10 12) rfl rfl (any_of HT_.out (by kernel_rfl)) (fun _ _ _ h => h) (Or.inl ⟨by rfl, ?_⟩) ?_ ?_
                    rotate_left
                    · intro w'
                      go_simp
                      with_reducible rfl
                    rotate_left
                    · simp only [Act.put, PU, i64_w, i32_w]
                      rfl
                    exact norm_ (by simp only [putAll, Act.put, PU]) (hCont (v275, gb278) _ ⟨hHeld, (Kd.VA HO276.out), (Kd.VA (Kd.V_mono HO_270002.out (fun _ hk => ⟨hk.1.1, ⟨hk.1.2, hk.2⟩⟩))), (Kd.RA HO_7.out), (BA BK269.out), (BA BK278.out), GW278.out, GE278.out, NB269_278.out, NB278_269.out, (LG HB.out (G1 GE269.out (G1 GE278.out G0)))⟩)
                rintro ⟨v275, gb278⟩ w58 ⟨hS_, h0_, h1_, h2_, h3_, h4_, h5_, h6_, h7_, h8_, h9_⟩
                have n0_ : Aside0 (Kd.V k36 36 w58 w.heap.size (fun k_ => some k_ ≠ (u7 : Value).ownBlock ∧ k_ ≠ gb269 ∧ k_ ≠ gb278) v275 t274) := ⟨h0_⟩
                have n1_ : Aside0 (Kd.V k36 36 w58 w.heap.size (fun k_ => some k_ ≠ (u7 : Value).ownBlock ∧ k_ ≠ gb269 ∧ k_ ≠ gb278) (.slice Ao54 x270002_2.length co54) x270002_2) := ⟨h1_⟩
                have n2_ : Aside0 (Kd.R k26 26 w58 w.heap.size (fun _ => True) u7 x7_2) := ⟨h2_⟩
                have n3_ : Aside0 (w58.heap[gb269]? = some (.cells #[.int .i64 x270000_2, .bool x270001_2, .slice Ao54 x270002_2.length co54] 31 (0, 0))) := ⟨h3_⟩
                have n4_ : Aside0 (w58.heap[gb278]? = some (.cells #[.int .i64 0, .bool false, .slice none 0 0] 31 (0, 0))) := ⟨h4_⟩
                have n5_ : Aside0 (w.heap.size ≤ gb278) := ⟨h5_⟩
                have n6_ : Aside0 (w.heap.size ≤ gb278) := ⟨h6_⟩
                have n7_ : Aside0 (gb269 ≠ gb278) := ⟨h7_⟩
                have n8_ : Aside0 (gb278 ≠ gb269) := ⟨h8_⟩
                have n9_ : Aside0 (Below w.heap.size w w58) := ⟨h9_⟩
                clear HO_7
                clear HO_270002
                clear BK269
                clear HB
                clear h0_ h1_ h2_ h3_ h4_ h5_ h6_ h7_ h8_ h9_
                have HO276 := n0_
                have HO_270002 := n1_
                have HO_7 := n2_
                have BK269 := n3_
                have BK278 := n4_
                have GW278 := n5_
                have GE278 := n6_
                have NB269_278 := n7_
                have NB278_269 := n8_
                have HB := n9_
                clear n0_ n1_ n2_ n3_ n4_ n5_ n6_ n7_ n8_ n9_
                have hHeld : w58.cell? ⟨gb269, 0, none⟩ = some (.int .i64 x270000_2) ∧ w58.cell? ⟨gb269, 1, none⟩ = some (.bool x270001_2) ∧ w58.cell? ⟨gb269, 2, none⟩ = some (.slice Ao54 x270002_2.length co54) ∧ w58.cell? (ad271.add ((x8_2).toNat * 3)) = some (.int .i64 ((rd_T26 l1 x8_2).f0)) ∧ w58.cell? ⟨(ad271.add ((x8_2).toNat * 3)).block, (ad271.add ((x8_2).toNat * 3)).off + 1, none⟩ = some (.int .i64 ((rd_T26 l1 x8_2).f1)) ∧ w58.cell? ⟨(ad271.add ((x8_2).toNat * 3)).block, (ad271.add ((x8_2).toNat * 3)).off + 2, none⟩ = some (.string ((rd_T26 l1 x8_2).f2)) := hS_
                obtain ⟨Ao61, co61, eo61⟩ := Kd.V_slice HO276.out
                (first | subst eo61 | (injection eo61 with f1_ f2_ f3_; have f4_ := f1_.symm; have f5_ := f3_.symm; clear f1_ f2_ f3_; subst f4_; subst f5_))
                refine norm_ (a' := ?_) ?_ ?_
                rotate_left
                · simp only [putAll, Act.put, PU]
                  rfl
                refine one_ (i := 10) (N := none) (tf 11 12) rfl rfl (one_of HT_.out (by kernel_rfl)) (by decide) (fun K hK => ?_)
                have hs59 : w58.cell? ⟨gb278, 0, none⟩ = some (.int .i64 0) := (blk_cell BK278.out 0).trans rfl
                have hfs59 := blk_frozen BK278.out 0
                have hns59_0 := NB269_278.out
                have hms59_0 := NB278_269.out
                have hs60 : w58.cell? ⟨gb278, 1, none⟩ = some (.bool false) := (blk_cell BK278.out 1).trans rfl
                have hfs60 := blk_frozen BK278.out 1
                have hns60_0 := NB269_278.out
                have hms60_0 := NB278_269.out
                have hs62 : w58.cell? ⟨gb278, 2, none⟩ = some (.slice none 0 0) := (blk_cell BK278.out 2).trans rfl
                have hfs62 := blk_frozen BK278.out 2
                have hns62_0 := NB269_278.out
                have hms62_0 := NB278_269.out
                refine skip_ (w1 := ?_) (by rfl) rfl ?_ ?_
                rotate_left
                · go_simp
                  rfl
                refine hK.out _ _ ⟨((cell_far (p := ⟨gb278, _, none⟩) NB269_278.out _).trans (((cell_far (p := ⟨gb278, _, none⟩) NB269_278.out _).trans (((cell_far (p := ⟨gb278, _, none⟩) NB269_278.out _).trans (hHeld.1)))))), ((cell_far (p := ⟨gb278, _, none⟩) NB269_278.out _).trans (((cell_far (p := ⟨gb278, _, none⟩) NB269_278.out _).trans (((cell_far (p := ⟨gb278, _, none⟩) NB269_278.out _).trans (hHeld.2.1)))))), ((cell_far (p := ⟨gb278, _, none⟩) NB269_278.out _).trans (((cell_far (p := ⟨gb278, _, none⟩) NB269_278.out _).trans (((cell_far (p := ⟨gb278, _, none⟩) NB269_278.out _).trans (hHeld.2.2.1)))))), ((cell_far (p := ⟨gb278, _, none⟩) (by first | exact Nat.ne_of_lt (Nat.lt_of_lt_of_le (by have := World.block_lt_of_cell? _ _ hw271_0; first | rwa [add_block] at this | exact this) GW278.out) | (rw [add_block]; exact Nat.ne_of_lt (Nat.lt_of_lt_of_le (by have := World.block_lt_of_cell? _ _ hw271_0; first | rwa [add_block] at this | exact this) GW278.out)) | (show (Addr.add _ _).block ≠ _; rw [add_block]; exact Nat.ne_of_lt (Nat.lt_of_lt_of_le (by have := World.block_lt_of_cell? _ _ hw271_0; first | rwa [add_block] at this | exact this) GW278.out)) | (dsimp only; exact Nat.ne_of_lt (Nat.lt_of_lt_of_le (by have := World.block_lt_of_cell? _ _ hw271_0; first | rwa [add_block] at this | exact this) GW278.out))) _).trans (((cell_far (p := ⟨gb278, _, none⟩) (by first | exact Nat.ne_of_lt (Nat.lt_of_lt_of_le (by have := World.block_lt_of_cell? _ _ hw271_0; first | rwa [add_block] at this | exact this) GW278.out) | (rw [add_block]; exact Nat.ne_of_lt (Nat.lt_of_lt_of_le (by have := World.block_lt_of_cell? _ _ hw271_0; first | rwa [add_block] at this | exact this) GW278.out)) | (show (Addr.add _ _).block ≠ _; rw [add_block]; exact Nat.ne_of_lt (Nat.lt_of_lt_of_le (by have := World.block_lt_of_cell? _ _ hw271_0; first | rwa [add_block] at this | exact this) GW278.out)) | (dsimp only; exact Nat.ne_of_lt (Nat.lt_of_lt_of_le (by have := World.block_lt_of_cell? _ _ hw271_0; first | rwa [add_block] at this | exact this) GW278.out))) _).trans (((cell_far (p := ⟨gb278, _, none⟩) (by first | exact Nat.ne_of_lt (Nat.lt_of_lt_of_le (by have := World.block_lt_of_cell? _ _ hw271_0; first | rwa [add_block] at this | exact this) GW278.out) | (rw [add_block]; exact Nat.ne_of_lt (Nat.lt_of_lt_of_le (by have := World.block_lt_of_cell? _ _ hw271_0; first | rwa [add_block] at this | exact this) GW278.out)) | (show (Addr.add _ _).block ≠ _; rw [add_block]; exact Nat.ne_of_lt (Nat.lt_of_lt_of_le (by have := World.block_lt_of_cell? _ _ hw271_0; first | rwa [add_block] at this | exact this) GW278.out)) | (dsimp only; exact Nat.ne_of_lt (Nat.lt_of_lt_of_le (by have := World.block_lt_of_cell? _ _ hw271_0; first | rwa [add_block] at this | exact this) GW278.out))) _).trans (hHeld.2.2.2.1)))))), ((cell_far (p := ⟨gb278, _, none⟩) (by first | exact Nat.ne_of_lt (Nat.lt_of_lt_of_le (by have := World.block_lt_of_cell? _ _ hw271_1; first | rwa [add_block] at this | exact this) GW278.out) | (rw [add_block]; exact Nat.ne_of_lt (Nat.lt_of_lt_of_le (by have := World.block_lt_of_cell? _ _ hw271_1; first | rwa [add_block] at this | exact this) GW278.out)) | (show (Addr.add _ _).block ≠ _; rw [add_block]; exact Nat.ne_of_lt (Nat.lt_of_lt_of_le (by have := World.block_lt_of_cell? _ _ hw271_1; first | rwa [add_block] at this | exact this) GW278.out)) | (dsimp only; exact Nat.ne_of_lt (Nat.lt_of_lt_of_le (by have := World.block_lt_of_cell? _ _ hw271_1; first | rwa [add_block] at this | exact this) GW278.out))) _).trans (((cell_far (p := ⟨gb278, _, none⟩) (by first | exact Nat.ne_of_lt (Nat.lt_of_lt_of_le (by have := World.block_lt_of_cell? _ _ hw271_1; first | rwa [add_block] at this | exact this) GW278.out) | (rw [add_block]; exact Nat.ne_of_lt (Nat.lt_of_lt_of_le (by have := World.block_lt_of_cell? _ _ hw271_1; first | rwa [add_block] at this | exact this) GW278.out)) | (show (Addr.add _ _).block ≠ _; rw [add_block]; exact Nat.ne_of_lt (Nat.lt_of_lt_of_le (by have := World.block_lt_of_cell? _ _ hw271_1; first | rwa [add_block] at this | exact this) GW278.out)) | (dsimp only; exact Nat.ne_of_lt (Nat.lt_of_lt_of_le (by have := World.block_lt_of_cell? _ _ hw271_1; first | rwa [add_block] at this | exact this) GW278.out))) _).trans (((cell_far (p := ⟨gb278, _, none⟩) (by first | exact Nat.ne_of_lt (Nat.lt_of_lt_of_le (by have := World.block_lt_of_cell? _ _ hw271_1; first | rwa [add_block] at this | exact this) GW278.out) | (rw [add_block]; exact Nat.ne_of_lt (Nat.lt_of_lt_of_le (by have := World.block_lt_of_cell? _ _ hw271_1; first | rwa [add_block] at this | exact this) GW278.out)) | (show (Addr.add _ _).block ≠ _; rw [add_block]; exact Nat.ne_of_lt (Nat.lt_of_lt_of_le (by have := World.block_lt_of_cell? _ _ hw271_1; first | rwa [add_block] at this | exact this) GW278.out)) | (dsimp only; exact Nat.ne_of_lt (Nat.lt_of_lt_of_le (by have := World.block_lt_of_cell? _ _ hw271_1; first | rwa [add_block] at this | exact this) GW278.out))) _).trans (hHeld.2.2.2.2.1)))))), ((cell_far (p := ⟨gb278, _, none⟩) (by first | exact Nat.ne_of_lt (Nat.lt_of_lt_of_le (by have := World.block_lt_of_cell? _ _ hw271_2; first | rwa [add_block] at this | exact this) GW278.out) | (rw [add_block]; exact Nat.ne_of_lt (Nat.lt_of_lt_of_le (by have := World.block_lt_of_cell? _ _ hw271_2; first | rwa [add_block] at this | exact this) GW278.out)) | (show (Addr.add _ _).block ≠ _; rw [add_block]; exact Nat.ne_of_lt (Nat.lt_of_lt_of_le (by have := World.block_lt_of_cell? _ _ hw271_2; first | rwa [add_block] at this | exact this) GW278.out)) | (dsimp only; exact Nat.ne_of_lt (Nat.lt_of_lt_of_le (by have := World.block_lt_of_cell? _ _ hw271_2; first | rwa [add_block] at this | exact this) GW278.out))) _).trans (((cell_far (p := ⟨gb278, _, none⟩) (by first | exact Nat.ne_of_lt (Nat.lt_of_lt_of_le (by have := World.block_lt_of_cell? _ _ hw271_2; first | rwa [add_block] at this | exact this) GW278.out) | (rw [add_block]; exact Nat.ne_of_lt (Nat.lt_of_lt_of_le (by have := World.block_lt_of_cell? _ _ hw271_2; first | rwa [add_block] at this | exact this) GW278.out)) | (show (Addr.add _ _).block ≠ _; rw [add_block]; exact Nat.ne_of_lt (Nat.lt_of_lt_of_le (by have := World.block_lt_of_cell? _ _ hw271_2; first | rwa [add_block] at this | exact this) GW278.out)) | (dsimp only; exact Nat.ne_of_lt (Nat.lt_of_lt_of_le (by have := World.block_lt_of_cell? _ _ hw271_2; first | rwa [add_block] at this | exact this) GW278.out))) _).trans (((cell_far (p := ⟨gb278, _, none⟩) (by first | exact Nat.ne_of_lt (Nat.lt_of_lt_of_le (by have := World.block_lt_of_cell? _ _ hw271_2; first | rwa [add_block] at this | exact this) GW278.out) | (rw [add_block]; exact Nat.ne_of_lt (Nat.lt_of_lt_of_le (by have := World.block_lt_of_cell? _ _ hw271_2; first | rwa [add_block] at this | exact this) GW278.out)) | (show (Addr.add _ _).block ≠ _; rw [add_block]; exact Nat.ne_of_lt (Nat.lt_of_lt_of_le (by have := World.block_lt_of_cell? _ _ hw271_2; first | rwa [add_block] at this | exact this) GW278.out)) | (dsimp only; exact Nat.ne_of_lt (Nat.lt_of_lt_of_le (by have := World.block_lt_of_cell? _ _ hw271_2; first | rwa [add_block] at this | exact this) GW278.out))) _).trans (hHeld.2.2.2.2.2))))))⟩ (fun hHeld => ?_)
                clear hK K
                refine pure_ (i := 11) (N := some 10) (v := ?_) (a' := ?_) (tf 12 12) rfl rfl (any_of HT_.out (by kernel_rfl)) (fun _ _ _ h => h) (Or.inl ⟨by rfl, ?_⟩) ?_ ?_
                rotate_left
                · intro w'
                  go_simp
                  with_reducible rfl
                rotate_left
                · simp only [Act.put, PU, i64_w, i32_w]
                  rfl
                refine done_ (done_of HT_.out (by kernel_rfl)) ?_
                have hnb63 := NB278_269.out
                have hnc63 := NB269_278.out
                have hcz64_0 : w58.cell? ⟨gb278, 0, none⟩ = some (.int .i64 0) := (blk_cell BK278.out 0).trans rfl
                have hcz64_1 : w58.cell? ⟨gb278, 1, none⟩ = some (.bool false) := (blk_cell BK278.out 1).trans rfl
                have hcz64_2 : w58.cell? ⟨gb278, 2, none⟩ = some (.slice none 0 0) := (blk_cell BK278.out 2).trans rfl
                have hfz64_0 := blk_frozen BK278.out 0
                have hfz64_1 := blk_frozen BK278.out 1
                have hfz64_2 := blk_frozen BK278.out 2
                have hcz65_0 : w58.cell? ⟨gb269, 0, none⟩ = some (.int .i64 x270000_2) := (blk_cell BK269.out 0).trans rfl
                have hcz65_1 : w58.cell? ⟨gb269, 1, none⟩ = some (.bool x270001_2) := (blk_cell BK269.out 1).trans rfl
                have hcz65_2 : w58.cell? ⟨gb269, 2, none⟩ = some (.slice Ao54 x270002_2.length co54) := (blk_cell BK269.out 2).trans rfl
                have hfz65_0 := blk_frozen BK269.out 0
                have hfz65_1 := blk_frozen BK269.out 1
                have hfz65_2 := blk_frozen BK269.out 2
                try go_wp2
                go_roundg k2
                case measure => have := HJ3.out; have := HK2.out; omega
                case rel => exact ⟨(x7_2), (wrap64 (x8_2 + 1)), (t272), (t273), (t274), (.slice Ao61 t274.length co61), (by first | exact (congrArg (fun b => Ending.returned (.bool b)) HR_.out) | (rw [HR_.out]; done) | rfl | (rw [HR_.out]; rfl) | (simp [HR_.out]; done) | (simp; done) | (simp [*]; done)), H', ⟨by have := HJ3.out; have := HK2.out; omega⟩, ⟨by (with_reducible repeat (first | apply Kd.R_alloc | apply Kd.R_drewN | apply Kd.R_drew)); exact Kd.R_mono (Kd.R_ms (gs := [gb269, gb278]) (Kd.R_types (Kd.R_types HO_7.out BK278.out (by decide)) BK269.out (by decide)) (fun _ hk => N1 (hk.2) (N1 (hk.1.2) (N0)))) (fun _ hk => trivial)⟩, ⟨by (with_reducible repeat (first | apply Kd.V_alloc | apply Kd.V_drewN | apply Kd.V_drew)); exact Kd.V_mono (Kd.V_ms (gs := [gb269, gb278]) (Kd.V_mono (Kd.V_mono HO276.out (fun k_ hk => (⟨hk, hk.2.2⟩ : _ ∧ k_ ≠ gb278))) (fun k_ hk => (⟨hk, hk.1.2.1⟩ : _ ∧ k_ ≠ gb269))) (fun _ hk => N1 (hk.2) (N1 (hk.1.2) (N0)))) (fun _ hk => ⟨hk.1.1.1, hk.1.1.2.1⟩)⟩, ⟨by (with_reducible repeat (first | refine blk_drewN ?_ _ | refine blk_drew ?_ | refine blk_alloc ?_ _)); refine blk_put (cs := #[.int .i64 t272, .bool t273, .slice Ao54 x270002_2.length co54]) ?_ 2 _ rfl; (with_reducible repeat (first | refine blk_drewN ?_ _ | refine blk_drew ?_ | refine blk_alloc ?_ _)); refine blk_put (cs := #[.int .i64 t272, .bool x270001_2, .slice Ao54 x270002_2.length co54]) ?_ 1 _ rfl; (with_reducible repeat (first | refine blk_drewN ?_ _ | refine blk_drew ?_ | refine blk_alloc ?_ _)); refine blk_put (cs := #[.int .i64 x270000_2, .bool x270001_2, .slice Ao54 x270002_2.length co54]) ?_ 0 _ rfl; exact BF BK269.out NB269_278.out⟩, ⟨LG HB.out (G1 GE269.out (G1 GE278.out G0))⟩⟩
            · rw [if_neg c13] at H
              have c13b0 : decide (x8_2 < (l1.length : Int)) = false := decide_eq_false c13
              clear c13
              have H' := Aside0.mk H
              clear H
              go_wp2
              go_loopg [7, 14] k2 (fun kq v7 v14 w' => ∃ (x7_3 : List (S26)) (x14_3 : Int) (x270000_3 : Int) (x270001_3 : Bool) (x270002_3 : List (S36)) (u270002 : Value), v14 = .int .i64 x14_3 ∧ Aside0 (hopperlaw08_PipeThrough.l1 kq a0 l1 x7_3 x14_3 x270000_3 x270001_3 x270002_3 = some true) ∧ Aside0 (kq ≤ k2) ∧ Aside0 (Kd.R k26 26 w' w.heap.size (fun _ => True) v7 x7_3) ∧ Aside0 (Kd.V k36 36 w' w.heap.size (fun k_ => some k_ ≠ (v7 : Value).ownBlock ∧ k_ ≠ gb269) u270002 x270002_3) ∧ Aside0 (w'.heap[gb269]? = some (.cells #[.int .i64 x270000_3, .bool x270001_3, u270002] 31 (0, 0))) ∧ Aside0 (Below w.heap.size w w'))
              case atStart => exact ⟨(x7_2), (0), (x270000_2), (x270001_2), (x270002_2), (u270002), (by first | exact (congrArg (fun b => Ending.returned (.bool b)) HR_.out) | (rw [HR_.out]; done) | rfl | (rw [HR_.out]; rfl) | (simp [HR_.out]; done) | (simp; done) | (simp [*]; done)), H', ⟨Nat.le_refl _⟩, ⟨by (with_reducible repeat (first | apply Kd.R_alloc | apply Kd.R_drewN | apply Kd.R_drew)); exact HO_7.out⟩, ⟨by (with_reducible repeat (first | apply Kd.V_alloc | apply Kd.V_drewN | apply Kd.V_drew)); exact HO_270002.out⟩, ⟨by (with_reducible repeat (first | refine blk_drewN ?_ _ | refine blk_drew ?_ | refine blk_alloc ?_ _)); exact BK269.out⟩, ⟨LG HB.out (G1 GE269.out G0)⟩⟩
              case round =>
                clear H'
                try clear c1
                try clear c2
                try clear p2
                try clear q2
                try clear hx2
                try clear c3
                try clear c4
                try clear c5
                try clear c6
                try clear p6
                try clear c10
                try clear c12
                try clear c13
                try clear c13b0
                try clear c14
                try clear c16
                try clear c16b0
                try clear c16b1
                try clear c18
                try clear c20
                try clear c20b0
                try clear c20b1
                try clear p27
                try clear q27
                try clear hx27
                try clear p29
                try clear q29
                try clear hx29
                try clear c31
                try clear c36
                try clear c37
                try clear c38
                try clear c41
                try clear c42
                try clear c53
                try clear c53b0
                try clear c53b1
                try clear c63
                try clear p64
                try clear hcz32_0
                try clear hcz32_1
                try clear hcz32_2
                try clear hcz39_0
                try clear hcz39_1
                try clear hcz39_2
                try clear hcz43_0
                try clear hcz43_1
                try clear hcz43_2
                try clear hcz51_0
                try clear hcz51_1
                try clear hcz51_2
                try clear hcz52_0
                try clear hcz52_1
                try clear hcz52_2
                try clear hcz64_0
                try clear hcz64_1
                try clear hcz64_2
                try clear hcz65_0
                try clear hcz65_1
                try clear hcz65_2
                try clear hfz32_0
                try clear hfz32_1
                try clear hfz32_2
                try clear hfz39_0
                try clear hfz39_1
                try clear hfz39_2
                try clear hfz43_0
                try clear hfz43_1
                try clear hfz43_2
                try clear hfz51_0
                try clear hfz51_1
                try clear hfz51_2
                try clear hfz52_0
                try clear hfz52_1
                try clear hfz52_2
                try clear hfz64_0
                try clear hfz64_1
                try clear hfz64_2
                try clear hfz65_0
                try clear hfz65_1
                try clear hfz65_2
                try clear hx271_0
                try clear hx271_1
                try clear hx271_2
                try clear hx293_0
                try clear hx293_1
                try clear hx293_2
                try clear p271
                try clear p293
                try clear q271
                try clear q293
                obtain ⟨x7_3, x14_3, x270000_3, x270001_3, x270002_3, u270002, rfl, HA, HK3, HO_7, HO_270002, BK269, HB⟩ := hrel
                cases gk with
                | zero => exact absurd HA.out (by simp [hopperlaw08_PipeThrough.l1])
                | succ k3 =>
                  have H := HA.out
                  clear HA
                  simp only [hopperlaw08_PipeThrough.l1] at H
                  by_cases c66 : x14_3 ≤ a0
                  · rw [if_pos c66] at H
                    have c66b0 : decide (x14_3 ≤ a0) = true := decide_eq_true c66
                    clear c66
                    replace H := Option.bind_eq_some_iff.mp H
                    obtain ⟨⟨t300, t301, t302, t305, t306, t307, t308⟩, A670, H⟩ := H
                    try dsimp only at H
                    have A67 := Aside0.mk A670
                    clear A670
                    by_cases c68 : t308 = 0
                    · rw [if_pos c68] at H
                      have c68b0 : (t308 == 0) = true := beq_iff_eq.mpr c68
                      have c68b1 : (t308 != 0) = false := bne_eq_false_iff_eq.mpr c68
                      clear c68
                      by_cases c69 : x7_3.length < 4398046511104
                      rotate_left
                      · rw [if_neg c69] at H
                        exact absurd H (by simp)
                      rw [if_pos c69] at H
                      have LMc69 := Aside0.mk c69
                      clear c69
                      obtain ⟨y311, hy311⟩ : ∃ y_ : List (S26), y_ = (x7_3 ++ [(⟨t305, t306, t307⟩ : S26)]) := ⟨_, rfl⟩
                      replace H : (hopperlaw08_PipeThrough.l1 k3 a0 l1 y311 (wrap64 (x14_3 + 1)) t300 t301 t302) = some true := by first | (rw [hy311]; with_reducible exact H) | (have H2_ := (Option.bind_some _ _).symm.trans H; rw [hy311]; with_reducible exact H2_) | (have H2_ := (Option.bind_some _ _).symm.trans H; with_reducible exact H2_) | with_reducible exact H | (rw [hy311]; exact H) | exact H
                      have Ny311 := Aside0.mk hy311
                      clear hy311
                      have H' := Aside0.mk H
                      clear H
                      have hcz70_0 : wr.cell? ⟨gb269, 0, none⟩ = some (.int .i64 x270000_3) := (blk_cell BK269.out 0).trans rfl
                      have hcz70_1 : wr.cell? ⟨gb269, 1, none⟩ = some (.bool x270001_3) := (blk_cell BK269.out 1).trans rfl
                      have hcz70_2 : wr.cell? ⟨gb269, 2, none⟩ = some (u270002) := (blk_cell BK269.out 2).trans rfl
                      have hfz70_0 := blk_frozen BK269.out 0
                      have hfz70_1 := blk_frozen BK269.out 1
                      have hfz70_2 := blk_frozen BK269.out 2
                      obtain ⟨Ao71, co71, eo71⟩ := Kd.V_slice HO_270002.out
                      subst eo71
                      go_wp2_with (first | ((with_reducible refine gate_callee (f := 12) rfl ?_); refine goesL_ (some 77) rfl rfl Try.func12 (by kernel_rfl) rfl #[.agg #[.int .i64 x270000_3, .bool x270001_3, .slice Ao71 x270002_3.length co71]] rfl (by (try simp only [List.map_toArray, List.map_cons, List.map_nil]); first | done | rfl | (simp only [List.length_drop, List.length_take]; rfl)) ?_; (with_reducible refine (pipe_Pipe_Take.calls x270000_3 x270001_3 (fun k_ => (some k_ ≠ (u7 : Value).ownBlock ∧ k_ ≠ gb269)) _ _ x270002_3 t300 t301 t302 t305 t306 t307 t308 _ ?side1 A67.out).mono ?_); (case side1 => exact HO_270002.out); rintro e w72 ⟨v303, rfl, ho0, hb⟩; refine ⟨_, rfl, ?_⟩; have HO304 := Aside0.mk (Kd.V_lower (Kd.V_mono (ok' := fun k_ => some k_ ≠ (u7 : Value).ownBlock ∧ k_ ≠ gb269) ho0 (fun k_ hk_ => ⟨Or.elim hk_ (fun hs_ => hs_.1) (fun hn_ => (Kd.fresh' (Kd.R_lt (Kd.RA HO_7.out)) k_ hn_)), Or.elim hk_ (fun hs_ => hs_.2) (fun hn_ => (Kd.freshB (g := gb269) (o := .cells #[.int .i64 x270000_3, .bool x270001_3, .slice Ao71 x270002_3.length co71] 31 (0, 0)) (BA BK269.out) k_ hn_))⟩)) (below_size (LA HB.out))); replace HO_7 := Aside0.mk (Kd.R_below (Kd.RA HO_7.out) hb); replace BK269 := Aside0.mk (blk_below (BA BK269.out) hb); replace HB := Aside0.mk (below_step (LA HB.out) hb); clear HO_270002; (try clear hb); (try clear hb2); (try clear hk); (try clear hi); (try clear ho0)) | ((with_reducible refine gate_dst (N := 15) rfl ?_); refine box_event ?hg (N := 15) ?hd (cs := #[.int .i64 0, .bool false, .slice none 0 0]) (t := 31) ?hr ?_; (case hd => rfl); (case hg => rfl); (case hr => first | (go_simp; done) | (go_simp; rfl)); intro gb309 hg w73 hbox hb; replace HO_7 := Aside0.mk (Kd.R_below (Kd.RA HO_7.out) hb); replace HO304 := Aside0.mk (Kd.V_below (Kd.V_elderB (Kd.VA HO304.out) gb309 (Nat.le_of_eq hg.symm)) hb); have BK309 := Aside0.mk (hbox); have GE309 := Aside0.mk (ge1 hg (LA HB.out)); replace HB := Aside0.mk (below_step (LA HB.out) hb); have NB269_309 := Aside0.mk ((by rw [hg]; exact Nat.ne_of_lt (blk_lt (g := gb269) (o := .cells #[.int .i64 x270000_3, .bool x270001_3, .slice Ao71 x270002_3.length co71] 31 (0, 0)) (BA BK269.out)) : gb269 ≠ gb309)); have NB309_269 := Aside0.mk ((by rw [hg]; exact Nat.ne_of_gt (blk_lt (g := gb269) (o := .cells #[.int .i64 x270000_3, .bool x270001_3, .slice Ao71 x270002_3.length co71] 31 (0, 0)) (BA BK269.out)) : gb309 ≠ gb269)); replace BK269 := Aside0.mk (blk_below (BA BK269.out) hb); (try clear HO_270002); clear hb hbox hg) | ((with_reducible refine gate_dst (N := 16) rfl ?_); refine box_event ?hg (N := 16) ?hd (cs := #[.int .i64 0, .int .i64 0, .string (⟨#[]⟩ : ByteArray)]) (t := 36) ?hr ?_; (case hd => rfl); (case hg => rfl); (case hr => first | (go_simp; done) | (go_simp; rfl)); intro gb310 hg w74 hbox hb; replace HO_7 := Aside0.mk (Kd.R_below (Kd.RA HO_7.out) hb); replace HO304 := Aside0.mk (Kd.V_below (Kd.V_elderB (Kd.VA HO304.out) gb310 (Nat.le_of_eq hg.symm)) hb); have BK310 := Aside0.mk (hbox); have GE310 := Aside0.mk (ge1 hg (LA HB.out)); replace HB := Aside0.mk (below_step (LA HB.out) hb); have NB269_310 := Aside0.mk ((by rw [hg]; exact Nat.ne_of_lt (blk_lt (g := gb269) (o := .cells #[.int .i64 x270000_3, .bool x270001_3, .slice Ao71 x270002_3.length co71] 31 (0, 0)) (BA BK269.out)) : gb269 ≠ gb310)); have NB310_269 := Aside0.mk ((by rw [hg]; exact Nat.ne_of_gt (blk_lt (g := gb269) (o := .cells #[.int .i64 x270000_3, .bool x270001_3, .slice Ao71 x270002_3.length co71] 31 (0, 0)) (BA BK269.out)) : gb310 ≠ gb269)); replace BK269 := Aside0.mk (blk_below (BA BK269.out) hb); have NB309_310 := Aside0.mk ((by rw [hg]; exact Nat.ne_of_lt (blk_lt (g := gb309) (o := .cells #[.int .i64 0, .bool false, .slice none 0 0] 31 (0, 0)) (BA BK309.out)) : gb309 ≠ gb310)); have NB310_309 := Aside0.mk ((by rw [hg]; exact Nat.ne_of_gt (blk_lt (g := gb309) (o := .cells #[.int .i64 0, .bool false, .slice none 0 0] 31 (0, 0)) (BA BK309.out)) : gb310 ≠ gb309)); replace BK309 := Aside0.mk (blk_below (BA BK309.out) hb); (try clear HO_270002); clear hb hbox hg; have hnb75 := NB309_269.out; have hnc75 := NB269_309.out; have hnb76 := NB309_310.out; have hnc76 := NB310_309.out; obtain ⟨hcz77_0, hcz77_1, hcz77_2, hfz77_0, hfz77_1, hfz77_2⟩ := cz3 BK309.out; obtain ⟨Ao78, co78, eo78⟩ := Kd.V_slice HO304.out; subst eo78; have hnb79 := NB310_269.out; have hnc79 := NB269_310.out; obtain ⟨hcz80_0, hcz80_1, hcz80_2, hfz80_0, hfz80_1, hfz80_2⟩ := cz3 BK310.out) | ((with_reducible refine gate_builtin (b := .append) (xs := #[.tmp 83, .tmp 85]) rfl ?_); at_builtin; refine Kd.R_append k26 (w0 := w) w.heap.size rfl (.tmp 83) (.tmp 85) 22 26 (.agg #[(.int .i64 0), (.int .i64 0), (.string ⟨#[]⟩)]) 32 rfl Try.underlying22 info26 rfl (by decide) (by omega) u7 x7_3 (⟨t305, t306, t307⟩ : S26) [.int .i64 t305, .int .i64 t306, .string t307] (fun _ => True) (fun _ => False) rfl (by first | (go_simp; done) | (go_simp; rfl)) ?aP (fun _ hk => hk.elim) ?aF ?aO ?aB ?aS ?aL ?_; (case aP => exact k26_mkM _ _ _ (⟨t305, t306, t307⟩ : S26)); (case aB => exact (LG HB.out (G1 GE309.out (G1 GE310.out G0)))); (case aF => exact (fun _ _ => trivial)); (case aO => exact (Kd.R_mono (Kd.R_ms (gs := [gb310, gb309]) (Kd.R_types (Kd.R_types HO_7.out BK309.out (by decide)) BK310.out (by decide)) (fun _ hk => N1 (hk.2) (N1 (hk.1.2) (N0)))) (fun _ hk => trivial))); (case aS => exact (below_size (LG HB.out (G1 GE309.out (G1 GE310.out G0))))); (case aL => have := LMc69.out; omega); intro v312 w81 ho hb hg hat; rw [← Ny311.out] at ho; replace BK269 := Aside0.mk (blk_grown (g := gb269) (o := .cells #[.int .i64 x270000_3, .bool x270001_3, .slice Ao71 x270002_3.length co71] 31 (0, 0)) (BM BK269.out (N1 NB269_310.out (N1 NB269_309.out N0))) hg (Kd.R_ne HO_7.out BK269.out (by decide))); replace HO304 := Aside0.mk (Kd.V_afterv (ok := (fun k_ => k_ ≠ gb269 ∧ k_ ≠ gb309 ∧ k_ ≠ gb310)) (Kd.V_mono (Kd.V_ms (gs := [gb310, gb309]) (Kd.V_mono (Kd.V_mono HO304.out (fun k_ hk => (⟨hk, hk.1.2⟩ : _ ∧ k_ ≠ gb309))) (fun k_ hk => (⟨hk, hk.1.2⟩ : _ ∧ k_ ≠ gb310))) (fun _ hk => N1 (hk.2) (N1 (hk.1.2) (N0)))) (fun _ hk => ⟨⟨hk.1.1.1.1.2, ⟨hk.1.1.1.2, hk.1.1.2⟩⟩, hk.1.1.1.1.1⟩)) hg hat); replace BK309 := Aside0.mk (blk_grown (g := gb309) (o := .cells #[.int .i64 t300, .bool t301, .slice Ao78 t302.length co78] 31 (0, 0)) (by (with_reducible repeat (first | refine blk_drewN ?_ _ | refine blk_drew ?_ | refine blk_alloc ?_ _)); refine blk_far ?_ NB309_310.out _; (with_reducible repeat (first | refine blk_drewN ?_ _ | refine blk_drew ?_ | refine blk_alloc ?_ _)); refine blk_far ?_ NB309_310.out _; (with_reducible repeat (first | refine blk_drewN ?_ _ | refine blk_drew ?_ | refine blk_alloc ?_ _)); refine blk_far ?_ NB309_310.out _; exact BP BK309.out (by rfl)) hg (Kd.R_ne HO_7.out BK309.out (by decide))); replace HB := Aside0.mk (hb); have HO313 := Aside0.mk (ho); clear BK310 HO_7; (try clear HO_270002); clear ho hb hg hat; obtain ⟨hcz82_0, hcz82_1, hcz82_2, hfz82_0, hfz82_1, hfz82_2⟩ := cz3 BK309.out; obtain ⟨hcz83_0, hcz83_1, hcz83_2, hfz83_0, hfz83_1, hfz83_2⟩ := cz3 BK269.out))
                      go_roundg k3
                      case measure => have := HJ3.out; have := HK2.out; have := HK3.out; omega
                      case rel => exact ⟨(y311), (wrap64 (x14_3 + 1)), (t300), (t301), (t302), (.slice Ao78 t302.length co78), (by first | exact (congrArg (fun b => Ending.returned (.bool b)) HR_.out) | (rw [HR_.out]; done) | rfl | (rw [HR_.out]; rfl) | (simp [HR_.out]; done) | (simp; done) | (simp [*]; done)), H', ⟨by have := HJ3.out; have := HK2.out; have := HK3.out; omega⟩, ⟨by (with_reducible repeat (first | apply Kd.R_alloc | apply Kd.R_drewN | apply Kd.R_drew)); exact Kd.R_mono (Kd.R_mv (g := gb269) (Kd.R_types HO313.out BK269.out (by decide)) (fun _ hk => hk.2)) (fun _ hk => trivial)⟩, ⟨by (with_reducible repeat (first | apply Kd.V_alloc | apply Kd.V_drewN | apply Kd.V_drew)); exact Kd.V_mono (Kd.V_mv (g := gb269) (Kd.V_mono HO304.out (fun k_ hk => (⟨hk, hk.1.1⟩ : _ ∧ k_ ≠ gb269))) (fun _ hk => hk.2)) (fun _ hk => ⟨hk.1.2, hk.1.1.1⟩)⟩, ⟨by exact BP BK269.out (by rfl)⟩, ⟨LG HB.out (G1 GE269.out (G1 GE309.out (G1 GE310.out G0)))⟩⟩
                    · rw [if_neg c68] at H
                      have c68b0 : (t308 == 0) = false := beq_eq_false_iff_ne.mpr c68
                      have c68b1 : (t308 != 0) = true := bne_iff_ne.mpr c68
                      have H' := Aside0.mk H
                      clear H
                      have hcz84_0 : wr.cell? ⟨gb269, 0, none⟩ = some (.int .i64 x270000_3) := (blk_cell BK269.out 0).trans rfl
                      have hcz84_1 : wr.cell? ⟨gb269, 1, none⟩ = some (.bool x270001_3) := (blk_cell BK269.out 1).trans rfl
                      have hcz84_2 : wr.cell? ⟨gb269, 2, none⟩ = some (u270002) := (blk_cell BK269.out 2).trans rfl
                      have hfz84_0 := blk_frozen BK269.out 0
                      have hfz84_1 := blk_frozen BK269.out 1
                      have hfz84_2 := blk_frozen BK269.out 2
                      obtain ⟨Ao85, co85, eo85⟩ := Kd.V_slice HO_270002.out
                      subst eo85
                      go_wp2_with (first | ((with_reducible refine gate_callee (f := 12) rfl ?_); refine goesL_ (some 77) rfl rfl Try.func12 (by kernel_rfl) rfl #[.agg #[.int .i64 x270000_3, .bool x270001_3, .slice Ao85 x270002_3.length co85]] rfl (by (try simp only [List.map_toArray, List.map_cons, List.map_nil]); first | done | rfl | (simp only [List.length_drop, List.length_take]; rfl)) ?_; (with_reducible refine (pipe_Pipe_Take.calls x270000_3 x270001_3 (fun k_ => (some k_ ≠ (u7 : Value).ownBlock ∧ k_ ≠ gb269)) _ _ x270002_3 t300 t301 t302 t305 t306 t307 t308 _ ?side1 A67.out).mono ?_); (case side1 => exact HO_270002.out); rintro e w86 ⟨v303, rfl, ho0, hb⟩; refine ⟨_, rfl, ?_⟩; have HO304 := Aside0.mk (Kd.V_lower (Kd.V_mono (ok' := fun k_ => some k_ ≠ (u7 : Value).ownBlock ∧ k_ ≠ gb269) ho0 (fun k_ hk_ => ⟨Or.elim hk_ (fun hs_ => hs_.1) (fun hn_ => (Kd.fresh' (Kd.R_lt (Kd.RA HO_7.out)) k_ hn_)), Or.elim hk_ (fun hs_ => hs_.2) (fun hn_ => (Kd.freshB (g := gb269) (o := .cells #[.int .i64 x270000_3, .bool x270001_3, .slice Ao85 x270002_3.length co85] 31 (0, 0)) (BA BK269.out) k_ hn_))⟩)) (below_size (LA HB.out))); replace HO_7 := Aside0.mk (Kd.R_below (Kd.RA HO_7.out) hb); replace BK269 := Aside0.mk (blk_below (BA BK269.out) hb); replace HB := Aside0.mk (below_step (LA HB.out) hb); clear HO_270002; (try clear hb); (try clear hb2); (try clear hk); (try clear hi); (try clear ho0)) | ((with_reducible refine gate_dst (N := 15) rfl ?_); refine box_event ?hg (N := 15) ?hd (cs := #[.int .i64 0, .bool false, .slice none 0 0]) (t := 31) ?hr ?_; (case hd => rfl); (case hg => rfl); (case hr => first | (go_simp; done) | (go_simp; rfl)); intro gb309 hg w87 hbox hb; replace HO_7 := Aside0.mk (Kd.R_below (Kd.RA HO_7.out) hb); replace HO304 := Aside0.mk (Kd.V_below (Kd.V_elderB (Kd.VA HO304.out) gb309 (Nat.le_of_eq hg.symm)) hb); have BK309 := Aside0.mk (hbox); have GE309 := Aside0.mk (ge1 hg (LA HB.out)); replace HB := Aside0.mk (below_step (LA HB.out) hb); have NB269_309 := Aside0.mk ((by rw [hg]; exact Nat.ne_of_lt (blk_lt (g := gb269) (o := .cells #[.int .i64 x270000_3, .bool x270001_3, .slice Ao85 x270002_3.length co85] 31 (0, 0)) (BA BK269.out)) : gb269 ≠ gb309)); have NB309_269 := Aside0.mk ((by rw [hg]; exact Nat.ne_of_gt (blk_lt (g := gb269) (o := .cells #[.int .i64 x270000_3, .bool x270001_3, .slice Ao85 x270002_3.length co85] 31 (0, 0)) (BA BK269.out)) : gb309 ≠ gb269)); replace BK269 := Aside0.mk (blk_below (BA BK269.out) hb); (try clear HO_270002); clear hb hbox hg) | ((with_reducible refine gate_dst (N := 16) rfl ?_); refine box_event ?hg (N := 16) ?hd (cs := #[.int .i64 0, .int .i64 0, .string (⟨#[]⟩ : ByteArray)]) (t := 36) ?hr ?_; (case hd => rfl); (case hg => rfl); (case hr => first | (go_simp; done) | (go_simp; rfl)); intro gb310 hg w88 hbox hb; replace HO_7 := Aside0.mk (Kd.R_below (Kd.RA HO_7.out) hb); replace HO304 := Aside0.mk (Kd.V_below (Kd.V_elderB (Kd.VA HO304.out) gb310 (Nat.le_of_eq hg.symm)) hb); have BK310 := Aside0.mk (hbox); have GE310 := Aside0.mk (ge1 hg (LA HB.out)); replace HB := Aside0.mk (below_step (LA HB.out) hb); have NB269_310 := Aside0.mk ((by rw [hg]; exact Nat.ne_of_lt (blk_lt (g := gb269) (o := .cells #[.int .i64 x270000_3, .bool x270001_3, .slice Ao85 x270002_3.length co85] 31 (0, 0)) (BA BK269.out)) : gb269 ≠ gb310)); have NB310_269 := Aside0.mk ((by rw [hg]; exact Nat.ne_of_gt (blk_lt (g := gb269) (o := .cells #[.int .i64 x270000_3, .bool x270001_3, .slice Ao85 x270002_3.length co85] 31 (0, 0)) (BA BK269.out)) : gb310 ≠ gb269)); replace BK269 := Aside0.mk (blk_below (BA BK269.out) hb); have NB309_310 := Aside0.mk ((by rw [hg]; exact Nat.ne_of_lt (blk_lt (g := gb309) (o := .cells #[.int .i64 0, .bool false, .slice none 0 0] 31 (0, 0)) (BA BK309.out)) : gb309 ≠ gb310)); have NB310_309 := Aside0.mk ((by rw [hg]; exact Nat.ne_of_gt (blk_lt (g := gb309) (o := .cells #[.int .i64 0, .bool false, .slice none 0 0] 31 (0, 0)) (BA BK309.out)) : gb310 ≠ gb309)); replace BK309 := Aside0.mk (blk_below (BA BK309.out) hb); (try clear HO_270002); clear hb hbox hg; have hnb89 := NB309_269.out; have hnc89 := NB269_309.out; have hnb90 := NB309_310.out; have hnc90 := NB310_309.out; obtain ⟨hcz91_0, hcz91_1, hcz91_2, hfz91_0, hfz91_1, hfz91_2⟩ := cz3 BK309.out; obtain ⟨Ao92, co92, eo92⟩ := Kd.V_slice HO304.out; subst eo92; have hnb93 := NB310_269.out; have hnc93 := NB269_310.out; obtain ⟨hcz94_0, hcz94_1, hcz94_2, hfz94_0, hfz94_1, hfz94_2⟩ := cz3 BK310.out; obtain ⟨hcz95_0, hcz95_1, hcz95_2, hfz95_0, hfz95_1, hfz95_2⟩ := cz3 BK269.out))
                      go_roundg k3
                      case measure => have := HJ3.out; have := HK2.out; have := HK3.out; omega
                      case rel => exact ⟨(x7_3), (wrap64 (x14_3 + 1)), (t300), (t301), (t302), (.slice Ao92 t302.length co92), (by first | exact (congrArg (fun b => Ending.returned (.bool b)) HR_.out) | (rw [HR_.out]; done) | rfl | (rw [HR_.out]; rfl) | (simp [HR_.out]; done) | (simp; done) | (simp [*]; done)), H', ⟨by have := HJ3.out; have := HK2.out; have := HK3.out; omega⟩, ⟨by (with_reducible repeat (first | apply Kd.R_alloc | apply Kd.R_drewN | apply Kd.R_drew)); exact Kd.R_mono (Kd.R_ms (gs := [gb269, gb310, gb309]) (Kd.R_types (Kd.R_types (Kd.R_types HO_7.out BK309.out (by decide)) BK310.out (by decide)) BK269.out (by decide)) (fun _ hk => N1 (hk.2) (N1 (hk.1.2) (N1 (hk.1.1.2) (N0))))) (fun _ hk => trivial)⟩, ⟨by (with_reducible repeat (first | apply Kd.V_alloc | apply Kd.V_drewN | apply Kd.V_drew)); exact Kd.V_mono (Kd.V_ms (gs := [gb269, gb310, gb309]) (Kd.V_mono (Kd.V_mono (Kd.V_mono HO304.out (fun k_ hk => (⟨hk, hk.1.2⟩ : _ ∧ k_ ≠ gb309))) (fun k_ hk => (⟨hk, hk.1.2⟩ : _ ∧ k_ ≠ gb310))) (fun k_ hk => (⟨hk, hk.1.1.1.1.2⟩ : _ ∧ k_ ≠ gb269))) (fun _ hk => N1 (hk.2) (N1 (hk.1.2) (N1 (hk.1.1.2) (N0))))) (fun _ hk => ⟨hk.1.1.1.1.1.1, hk.1.1.1.1.1.2⟩)⟩, ⟨by (with_reducible repeat (first | refine blk_drewN ?_ _ | refine blk_drew ?_ | refine blk_alloc ?_ _)); refine blk_put (cs := #[.int .i64 t300, .bool t301, .slice Ao85 x270002_3.length co85]) ?_ 2 _ rfl; (with_reducible repeat (first | refine blk_drewN ?_ _ | refine blk_drew ?_ | refine blk_alloc ?_ _)); refine blk_put (cs := #[.int .i64 t300, .bool x270001_3, .slice Ao85 x270002_3.length co85]) ?_ 1 _ rfl; (with_reducible repeat (first | refine blk_drewN ?_ _ | refine blk_drew ?_ | refine blk_alloc ?_ _)); refine blk_put (cs := #[.int .i64 x270000_3, .bool x270001_3, .slice Ao85 x270002_3.length co85]) ?_ 0 _ rfl; exact BM BK269.out (N1 NB269_310.out (N1 NB269_309.out N0))⟩, ⟨LG HB.out (G1 GE269.out (G1 GE309.out (G1 GE310.out G0)))⟩⟩
                  · rw [if_neg c66] at H
                    have c66b0 : decide (x14_3 ≤ a0) = false := decide_eq_false c66
                    clear c66
                    by_cases c96 : (x270002_3.length : Int) = 0
                    rotate_left
                    · rw [if_neg c96] at H
                      have c96b0 : ((x270002_3.length : Int) == 0) = false := beq_eq_false_iff_ne.mpr c96
                      have c96b1 : ((x270002_3.length : Int) != 0) = true := bne_iff_ne.mpr c96
                      have c96b2 : ¬ (x270002_3 = []) := fun h_ => c96 (by rw [h_]; rfl)
                      exact absurd H (by simp)
                    rw [if_pos c96] at H
                    have c96b0 : ((x270002_3.length : Int) == 0) = true := beq_iff_eq.mpr c96
                    have c96b1 : ((x270002_3.length : Int) != 0) = false := bne_eq_false_iff_eq.mpr c96
                    clear c96
                    replace H := Option.bind_eq_some_iff.mp H
                    obtain ⟨t314, A970, H⟩ := H
                    try dsimp only at H
                    have A97 := Aside0.mk A970
                    clear A970
                    by_cases c98 : t314 = true
                    rotate_left
                    · replace c98 := Bool.eq_false_iff.mpr c98
                      subst c98
                      have H1 : (some false) = some true := by rw [if_neg (show ¬ (false = true) by decide)] at H; exact H
                      clear H
                      have H := H1
                      clear H1
                      exact absurd H (by simp)
                    subst c98
                    have H1 : ((hopperlaw08_live.f).bind fun t315 => (some t315)) = some true := by rw [if_pos rfl] at H; exact H
                    clear H
                    have H := H1
                    clear H1
                    replace H := Option.bind_eq_some_iff.mp H
                    obtain ⟨t315, A990, H⟩ := H
                    try dsimp only at H
                    have A99 := Aside0.mk A990
                    clear A990
                    have HR_ := Aside0.mk (Option.some.inj H)
                    clear H
                    have hcz100_0 : wr.cell? ⟨gb269, 0, none⟩ = some (.int .i64 x270000_3) := (blk_cell BK269.out 0).trans rfl
                    have hcz100_1 : wr.cell? ⟨gb269, 1, none⟩ = some (.bool x270001_3) := (blk_cell BK269.out 1).trans rfl
                    have hcz100_2 : wr.cell? ⟨gb269, 2, none⟩ = some (u270002) := (blk_cell BK269.out 2).trans rfl
                    have hfz100_0 := blk_frozen BK269.out 0
                    have hfz100_1 := blk_frozen BK269.out 1
                    have hfz100_2 := blk_frozen BK269.out 2
                    obtain ⟨Ao101, co101, eo101⟩ := Kd.V_slice HO_270002.out
                    subst eo101
                    obtain ⟨Ao102, co102, eo102⟩ := Kd.R_slice HO_7.out
                    subst eo102
                    go_wp2_with (first | (go_at_call 18; (with_reducible refine (hopperref08_Same.calls k3 0 false _ _ x7_3 0 false _ _ l1 true _ ?side1 ?side2 ?side3 ?side4 A97.out).mono ?_); (case side1 => exact Kd.CA (Kd.R_reads' HO_7.out).2.2); (case side2 => exact (Kd.R_reads' HO_7.out).2.1); (case side3 => exact Kd.CA (Kd.C_below HR1.out HB.out)); (case side4 => exact HC1.out); rintro e w103 ⟨rfl, hb⟩; replace HB := Aside0.mk (below_step (LA HB.out) hb); clear HO_7; (try clear HO_270002); (try clear BK269); (try clear hb); (try clear hb2); (try clear hk); (try clear hi)) | (go_at_call 8; (with_reducible refine (hopperlaw08_live.calls  t315 _ A99.out).mono ?_); rintro e w104 ⟨rfl, hb⟩; replace HB := Aside0.mk (below_step (LA HB.out) hb); (try clear HO_7); (try clear HO_270002); (try clear BK269); (try clear hb); (try clear hb2); (try clear hk); (try clear hi)))
                    go_ret
                    exact ⟨by first | exact (congrArg (fun b => Ending.returned (.bool b)) HR_.out) | (rw [HR_.out]; done) | rfl | (rw [HR_.out]; rfl) | (simp [HR_.out]; done) | (simp [errW_none, errW_some] <;> rfl) | (simp [*, errW_none, errW_some] <;> rfl), LG HB.out (G1 GE269.out G0)⟩

end Go.Proofs.Ytacncgpnimdfbaa.PPipeThrough
