/- What the functions that the law reaches answer, each as a plain Lean function, with a proof that the call in memory comes to that answer. Written by wip/tools/given.py of this session out of the print.py of the kit, with stand-ins for some functions. -/
import Derived.Test.YtacncgpnimdfbaaPPipeRowsx0
import Derived.Test.YtacncgpnimdfbaaPPipeRowsx2
import Derived.Test.YtacncgpnimdfbaaPPipeRowsx3
namespace Go.Proofs.Ytacncgpnimdfbaa.PPipeRows
open Go.RowKit Go.Proofs.YtacncgpnimdfbaaW.PrintWords Go.Proofs.YtacncgpnimdfbaaW.PrintLast Go.Proofs.YtacncgpnimdfbaaW.PrintMore
attribute [local go_sem] max2_int min2_int max_two min_two max_three min_three max_four min_four   -- for this text's walks alone
set_option linter.unusedVariables false
set_option linter.unusedSimpArgs false

/-! ### hopperlaw08_PipeRows: function 4 -/
mutual
def hopperlaw08_PipeRows.j0 : Nat → Int → List Int → Bool → Int → Bool → List (S36) → Option (Bool)
  | 0, _, _, _, _, _, _ => none
  | k + 1, x0, x1, x34, x266000, x266001, x266002 => if x34 = true then (if (x1.length : Int) > 200 then ((hopperlaw08_live.f).bind fun t266 => (some t266)) else (if x266000 = 0 then (if (x266002.length : Int) = 0 then ((hopperlaw08_live.f).bind fun t267 => (some t267)) else (some false)) else (some false))) else (hopperlaw08_PipeRows.l0 k x0 x1 ([] : List Int) 0 x266000 x266001 x266002)
def hopperlaw08_PipeRows.l0 : Nat → Int → List Int → List Int → Int → Int → Bool → List (S36) → Option (Bool)
  | 0, _, _, _, _, _, _, _ => none
  | k + 1, x0, x1, x7, x8, x266000, x266001, x266002 => if x8 < (x1.length : Int) then (if 0 ≤ x8 then (if (rd x1 x8) = 0 then ((pipe_Pipe_Take.f x266000 x266001 x266002).bind fun bt269 => (if ((bt269.2.2.2.2.2.2 == 0) != (decide ((x7.length : Int) > 0))) = true then (hopperlaw08_PipeRows.j2 k x0 x1 x7 x8 true bt269.1 bt269.2.1 bt269.2.2.1) else (if bt269.2.2.2.2.2.2 = 0 then (if 0 < (x7.length : Int) then (hopperlaw08_PipeRows.j2 k x0 x1 x7 x8 (bt269.2.2.2.2.1 != (rd x7 0)) bt269.1 bt269.2.1 bt269.2.2.1) else (none)) else (if bt269.2.2.2.2.2.2 = 7 then (hopperlaw08_PipeRows.j2 k x0 x1 x7 x8 false bt269.1 bt269.2.1 bt269.2.2.1) else (hopperlaw08_PipeRows.j2 k x0 x1 x7 x8 true bt269.1 bt269.2.1 bt269.2.2.1))))) else ((pipe_Pipe_Send.f x266000 x266001 x266002 0 (rd x1 x8) (⟨#[]⟩ : ByteArray)).bind fun bt285 => (if ((bt285.2.2.2 == 0) != (decide ((x7.length : Int) < x0))) = true then (some false) else (if bt285.2.2.2 = 0 then (if x7.length < 17592186044416 then (hopperlaw08_PipeRows.l0 k x0 x1 (x7 ++ [rd x1 x8]) (wrap64 (x8 + 1)) bt285.1 bt285.2.1 bt285.2.2.1) else (none)) else (hopperlaw08_PipeRows.l0 k x0 x1 x7 (wrap64 (x8 + 1)) bt285.1 bt285.2.1 bt285.2.2.1))))) else (none)) else ((pipe_Pipe_Close.f x266000 x266001 x266002).bind fun bt296 => (hopperlaw08_PipeRows.l1 k x7 bt296.2.2.2 0 bt296.1 bt296.2.1 bt296.2.2.1))
def hopperlaw08_PipeRows.j2 : Nat → Int → List Int → List Int → Int → Bool → Int → Bool → List (S36) → Option (Bool)
  | 0, _, _, _, _, _, _, _, _ => none
  | k + 1, x0, x1, x7, x8, x94, x279000, x279001, x279002 => if x94 = true then (some false) else (if (x7.length : Int) > 0 then (if 1 ≤ (x7.length : Int) then (hopperlaw08_PipeRows.l0 k x0 x1 (x7.drop (1 : Int).toNat) (wrap64 (x8 + 1)) x279000 x279001 x279002) else (none)) else (hopperlaw08_PipeRows.l0 k x0 x1 x7 (wrap64 (x8 + 1)) x279000 x279001 x279002))
def hopperlaw08_PipeRows.l1 : Nat → List Int → Int → Int → Int → Bool → List (S36) → Option (Bool)
  | 0, _, _, _, _, _, _ => none
  | k + 1, x7, x15, x16, x303000, x303001, x303002 => if x16 < (x7.length : Int) then ((pipe_Pipe_Take.f x303000 x303001 x303002).bind fun bt303 => (if bt303.2.2.2.2.2.2 = 0 then (if 0 ≤ x16 then (if bt303.2.2.2.2.1 = (rd x7 x16) then (hopperlaw08_PipeRows.l1 k x7 x15 (wrap64 (x16 + 1)) bt303.1 bt303.2.1 bt303.2.2.1) else (some false)) else (none)) else (some false))) else ((pipe_Pipe_Take.f x303000 x303001 x303002).bind fun bt315 => (if x15 = 0 then (if bt315.2.2.2.2.2.2 = 8 then ((hopperlaw08_live.f).bind fun t326 => (some t326)) else (some false)) else (some false)))
end
def hopperlaw08_PipeRows.f (k : Nat) (a0 : Int) (l1 : List Int) : Option (Bool) := (pipe_New.f a0).bind fun bt259 => (if (l1.length : Int) > 200 then (hopperlaw08_PipeRows.j0 k a0 l1 true bt259.1 bt259.2.1 bt259.2.2.1) else (hopperlaw08_PipeRows.j0 k a0 l1 (bt259.2.2.2 != 0) bt259.1 bt259.2.1 bt259.2.2.1))
theorem hopperlaw08_PipeRows.mono_l : ∀ k, (∀ y0 y1 y2 y3 y4 y5, LeO (hopperlaw08_PipeRows.j0 k y0 y1 y2 y3 y4 y5) (hopperlaw08_PipeRows.j0 (k + 1) y0 y1 y2 y3 y4 y5)) ∧ (∀ y0 y1 y2 y3 y4 y5 y6, LeO (hopperlaw08_PipeRows.l0 k y0 y1 y2 y3 y4 y5 y6) (hopperlaw08_PipeRows.l0 (k + 1) y0 y1 y2 y3 y4 y5 y6)) ∧ (∀ y0 y1 y2 y3 y4 y5 y6 y7, LeO (hopperlaw08_PipeRows.j2 k y0 y1 y2 y3 y4 y5 y6 y7) (hopperlaw08_PipeRows.j2 (k + 1) y0 y1 y2 y3 y4 y5 y6 y7)) ∧ (∀ y0 y1 y2 y3 y4 y5, LeO (hopperlaw08_PipeRows.l1 k y0 y1 y2 y3 y4 y5) (hopperlaw08_PipeRows.l1 (k + 1) y0 y1 y2 y3 y4 y5))
  | 0 => ⟨fun _ _ _ _ _ _ r h => by simp [hopperlaw08_PipeRows.j0] at h, fun _ _ _ _ _ _ _ r h => by simp [hopperlaw08_PipeRows.l0] at h, fun _ _ _ _ _ _ _ _ r h => by simp [hopperlaw08_PipeRows.j2] at h, fun _ _ _ _ _ _ r h => by simp [hopperlaw08_PipeRows.l1] at h⟩
  | k + 1 => by
    obtain ⟨ih0, ih1, ih2, ih3⟩ := hopperlaw08_PipeRows.mono_l k
    refine ⟨?_, ?_, ?_, ?_⟩
    · intro y0 y1 y2 y3 y4 y5
      unfold hopperlaw08_PipeRows.j0
      repeat' first
      | (with_reducible exact ih0 _ _ _ _ _ _)
      | (with_reducible exact ih1 _ _ _ _ _ _ _)
      | (with_reducible exact ih2 _ _ _ _ _ _ _ _)
      | (with_reducible exact ih3 _ _ _ _ _ _)
      | (with_reducible exact LeO.refl _)
      | (with_reducible exact LeO.none _)
      | (with_reducible refine LeO.ite ?_ ?_)
      | (with_reducible refine LeO.bind ?_ (fun _ => ?_))
      | exact ih0 _ _ _ _ _ _
      | exact ih1 _ _ _ _ _ _ _
      | exact ih2 _ _ _ _ _ _ _ _
      | exact ih3 _ _ _ _ _ _
      | exact LeO.none _
      | refine LeO.ite ?_ ?_
      | refine LeO.bind ?_ (fun _ => ?_)
    · intro y0 y1 y2 y3 y4 y5 y6
      unfold hopperlaw08_PipeRows.l0
      repeat' first
      | (with_reducible exact ih0 _ _ _ _ _ _)
      | (with_reducible exact ih1 _ _ _ _ _ _ _)
      | (with_reducible exact ih2 _ _ _ _ _ _ _ _)
      | (with_reducible exact ih3 _ _ _ _ _ _)
      | (with_reducible exact LeO.refl _)
      | (with_reducible exact LeO.none _)
      | (with_reducible refine LeO.ite ?_ ?_)
      | (with_reducible refine LeO.bind ?_ (fun _ => ?_))
      | exact ih0 _ _ _ _ _ _
      | exact ih1 _ _ _ _ _ _ _
      | exact ih2 _ _ _ _ _ _ _ _
      | exact ih3 _ _ _ _ _ _
      | exact LeO.none _
      | refine LeO.ite ?_ ?_
      | refine LeO.bind ?_ (fun _ => ?_)
    · intro y0 y1 y2 y3 y4 y5 y6 y7
      unfold hopperlaw08_PipeRows.j2
      repeat' first
      | (with_reducible exact ih0 _ _ _ _ _ _)
      | (with_reducible exact ih1 _ _ _ _ _ _ _)
      | (with_reducible exact ih2 _ _ _ _ _ _ _ _)
      | (with_reducible exact ih3 _ _ _ _ _ _)
      | (with_reducible exact LeO.refl _)
      | (with_reducible exact LeO.none _)
      | (with_reducible refine LeO.ite ?_ ?_)
      | (with_reducible refine LeO.bind ?_ (fun _ => ?_))
      | exact ih0 _ _ _ _ _ _
      | exact ih1 _ _ _ _ _ _ _
      | exact ih2 _ _ _ _ _ _ _ _
      | exact ih3 _ _ _ _ _ _
      | exact LeO.none _
      | refine LeO.ite ?_ ?_
      | refine LeO.bind ?_ (fun _ => ?_)
    · intro y0 y1 y2 y3 y4 y5
      unfold hopperlaw08_PipeRows.l1
      repeat' first
      | (with_reducible exact ih0 _ _ _ _ _ _)
      | (with_reducible exact ih1 _ _ _ _ _ _ _)
      | (with_reducible exact ih2 _ _ _ _ _ _ _ _)
      | (with_reducible exact ih3 _ _ _ _ _ _)
      | (with_reducible exact LeO.refl _)
      | (with_reducible exact LeO.none _)
      | (with_reducible refine LeO.ite ?_ ?_)
      | (with_reducible refine LeO.bind ?_ (fun _ => ?_))
      | exact ih0 _ _ _ _ _ _
      | exact ih1 _ _ _ _ _ _ _
      | exact ih2 _ _ _ _ _ _ _ _
      | exact ih3 _ _ _ _ _ _
      | exact LeO.none _
      | refine LeO.ite ?_ ?_
      | refine LeO.bind ?_ (fun _ => ?_)
theorem hopperlaw08_PipeRows.mono : ∀ a0 a1 k, LeO (hopperlaw08_PipeRows.f k a0 a1) (hopperlaw08_PipeRows.f (k + 1) a0 a1) := by
  intro a0 a1 k
  obtain ⟨ih0, ih1, ih2, ih3⟩ := hopperlaw08_PipeRows.mono_l k
  unfold hopperlaw08_PipeRows.f
  repeat' first
      | (with_reducible exact ih0 _ _ _ _ _ _)
      | (with_reducible exact ih1 _ _ _ _ _ _ _)
      | (with_reducible exact ih2 _ _ _ _ _ _ _ _)
      | (with_reducible exact ih3 _ _ _ _ _ _)
      | (with_reducible exact LeO.refl _)
      | (with_reducible exact LeO.none _)
      | (with_reducible refine LeO.ite ?_ ?_)
      | (with_reducible refine LeO.bind ?_ (fun _ => ?_))
      | exact ih0 _ _ _ _ _ _
      | exact ih1 _ _ _ _ _ _ _
      | exact ih2 _ _ _ _ _ _ _ _
      | exact ih3 _ _ _ _ _ _
      | exact LeO.none _
      | refine LeO.ite ?_ ?_
      | refine LeO.bind ?_ (fun _ => ?_)
def hopperlaw08_PipeRows.T10 : Bool × List (List Nat × List Nat) := (true, [([], []), ([0], [0]), ([], []), ([2], [2]), ([3], [3]), ([1, 4], [1, 4]), ([5], [5]), ([6], [6]), ([7, 6], [6, 7]), ([8, 6, 6], [6, 8]), ([9], [9]), ([10, 9], [9, 10]), ([9, 11, 6], [6, 9, 11]), ([6, 12], [6, 12]), ([13, 9], [13]), ([14], [14]), ([15, 14], [14, 15]), ([16, 14, 14], [14, 16]), ([17], [17]), ([18, 17], [17, 18]), ([17], [17]), ([20, 17], [17, 20]), ([21, 17], [17, 21]), ([19, 22, 17], [17, 19, 22]), ([17, 23, 14], [14, 17, 23]), ([14, 24], [14, 24])])
def hopperlaw08_PipeRows.B10 : List Nat := [0, 1, 0, 4, 12, 31, 63, 127, 255, 511, 1023, 2047, 4095, 8191, 16383, 32767, 65535, 131071, 262143, 524287, 262143, 1310719, 3407871, 8388607, 16777215, 33554431]
theorem hopperlaw08_PipeRows.tab10 : rtab .any (opsOf Try.f4 10) = hopperlaw08_PipeRows.T10 := by kernel_rfl
theorem hopperlaw08_PipeRows.bits10 : waitsOk hopperlaw08_PipeRows.T10.2 hopperlaw08_PipeRows.B10 = true := by kernel_rfl
def hopperlaw08_PipeRows.T15 : Bool × List (List Nat × List Nat) := (true, [([], []), ([], []), ([], []), ([1, 2], [1, 2]), ([3], [3]), ([4], [4]), ([0, 5], [0, 5]), ([6], [6]), ([7], [7]), ([7], [7]), ([], []), ([10, 8, 6, 0, 1, 2, 3, 4, 5, 6, 7, 8, 10], [8, 10]), ([9, 11, 0, 1, 2, 3, 4, 5, 6, 7, 8, 9, 10, 11], [9])])
def hopperlaw08_PipeRows.B15 : List Nat := [0, 0, 0, 6, 14, 30, 63, 127, 255, 255, 0, 1535, 4095]
theorem hopperlaw08_PipeRows.tab15 : rtab .any (opsOf Try.f4 15) = hopperlaw08_PipeRows.T15 := by kernel_rfl
theorem hopperlaw08_PipeRows.bits15 : waitsOk hopperlaw08_PipeRows.T15.2 hopperlaw08_PipeRows.B15 = true := by kernel_rfl
def hopperlaw08_PipeRows.T26 : Bool × List (List Nat × List Nat) := (true, [([], []), ([0], [0]), ([1], [1]), ([2], [2]), ([3, 2], [2, 3]), ([2], [2]), ([2], [2]), ([5, 6, 2], [2, 5, 6]), ([7, 2], [2, 7]), ([4, 8, 2], [2, 4, 8]), ([2, 9], [2, 9])])
def hopperlaw08_PipeRows.B26 : List Nat := [0, 1, 3, 7, 15, 7, 7, 103, 231, 511, 1023]
theorem hopperlaw08_PipeRows.tab26 : rtab .any (opsOf Try.f4 26) = hopperlaw08_PipeRows.T26 := by kernel_rfl
theorem hopperlaw08_PipeRows.bits26 : waitsOk hopperlaw08_PipeRows.T26.2 hopperlaw08_PipeRows.B26 = true := by kernel_rfl
set_option maxHeartbeats 60000000 in
set_option maxRecDepth 100000 in
theorem hopperlaw08_PipeRows.callsT (k : Nat) (a0 : Int) (A1 : Option Addr) (c1 : Nat) (l1 : List Int) (w : World) (hr1 : Kd.C (Kd.int .i64) w A1 l1.length l1) (hc1 : l1.length ≤ c1) (h : hopperlaw08_PipeRows.f k a0 l1 = some true) :
    Calls Try.prog 4 #[.int .i64 a0, .slice A1 l1.length c1] w fun e w' => e = .returned (.bool true) ∧ Below w.heap.size w w' := by
  have hu31 := Try.underlying31
  have hu36 := Try.underlying36
  have HR1 := Aside0.mk hr1
  have HC1 := Aside0.mk hc1
  clear hr1 hc1
  have HB := Aside0.mk (Below.refl w.heap.size w)
  have H : ((pipe_New.f a0).bind fun bt259 => (if (l1.length : Int) > 200 then (hopperlaw08_PipeRows.j0 k a0 l1 true bt259.1 bt259.2.1 bt259.2.2.1) else (hopperlaw08_PipeRows.j0 k a0 l1 (bt259.2.2.2 != 0) bt259.1 bt259.2.1 bt259.2.2.1))) = some true := h
  clear h
  replace H := Option.bind_eq_some_iff.mp H
  obtain ⟨⟨t259, t260, t261, t264⟩, A30, H⟩ := H
  try dsimp only at H
  have A3 := Aside0.mk A30
  clear A30
  have HC4 := Aside0.mk H
  clear H
  go_enter Try.func4, Try.ntmps4
  go_upto_region 2 with (first | ((with_reducible refine gate_callee (f := 16) rfl ?_); refine goesL_ (some 25) rfl rfl Try.func16 (by kernel_rfl) rfl #[.int .i64 a0] rfl (by (try simp only [List.map_toArray, List.map_cons, List.map_nil]); first | done | rfl | (simp only [List.length_drop, List.length_take]; rfl)) ?_; (with_reducible refine (pipe_New.calls a0 t259 t260 t261 t264 _ A3.out).mono ?_); rintro e w5 ⟨v262, rfl, ho0, hb⟩; refine ⟨_, rfl, ?_⟩; have HO263 := Aside0.mk (Kd.R_lower ho0 (below_size (LA HB.out))); replace HB := Aside0.mk (below_step (LA HB.out) hb); (try clear hb); (try clear hb2); (try clear hk); (try clear hi); (try clear ho0)) | ((with_reducible refine gate_dst (N := 5) rfl ?_); (try (refine gate_guard (by rfl) ?_; dsimp only)); refine box_event ?hg (N := 5) ?hd (cs := #[.int .i64 0, .bool false, .slice none 0 0]) (t := 31) ?hr ?_; (case hd => rfl); (case hg => rfl); (case hr => first | (go_simp; done) | (go_simp; rfl)); intro gb265 hg w6 hbox hb; replace HO263 := Aside0.mk (Kd.R_below (Kd.RA HO263.out) hb); have BK265 := Aside0.mk (hbox); have GE265 := Aside0.mk (ge1 hg (LA HB.out)); replace HB := Aside0.mk (below_step (LA HB.out) hb); clear hb hbox hg; obtain ⟨hcz7_0, hcz7_1, hcz7_2, hfz7_0, hfz7_1, hfz7_2⟩ := cz3 BK265.out; obtain ⟨Ao8, co8, eo8⟩ := Kd.R_slice HO263.out; subst eo8))
  (try simp only [Act.put, PU])
  go_cut [34] (fun v34 wc => ∃ (kq : Nat) (x34_3 : Bool), v34 = .bool x34_3 ∧ Aside0 (hopperlaw08_PipeRows.j0 kq a0 l1 x34_3 t259 t260 t261 = some true) ∧ Aside0 (kq ≤ k) ∧ Aside0 (Kd.R k36 36 wc w.heap.size (fun _ => True) (.slice Ao8 t261.length co8) t261) ∧ Aside0 (wc.heap[gb265]? = some (.cells #[.int .i64 t259, .bool t260, (.slice Ao8 t261.length co8)] 31 (0, 0))) ∧ Aside0 (Below w.heap.size w wc))
  case first =>
    have H := HC4.out
    clear HC4
    by_cases c9 : (l1.length : Int) > 200
    · rw [if_pos c9] at H
      have c9b0 : decide (200 < (l1.length : Int)) = true := decide_eq_true c9
      have c9b1 : decide (200 < l1.length) = true := decide_eq_true (by omega)
      clear c9
      (first | rw [c9b0] | (simp only [i64_w, i32_w]; rw [c9b0]) | skip)
      have H' := Aside0.mk H
      clear H
      go_wp2
      go_meet
      case rel => exact ⟨_, (true), (by first | (rw [HR_.out]; done) | rfl | (rw [HR_.out]; rfl) | (simp [HR_.out]; done) | (simp; done) | (simp [*]; done)), H', ⟨by first | omega | exact Nat.le_refl _⟩, ⟨by (with_reducible repeat (first | apply Kd.R_alloc | apply Kd.R_drewN | apply Kd.R_drew)); exact Kd.R_mono (Kd.R_mv (g := gb265) (Kd.R_types HO263.out BK265.out (by decide)) (fun _ hk => hk.2)) (fun _ hk => trivial)⟩, ⟨by exact BP BK265.out (by rfl)⟩, ⟨LG HB.out (G1 GE265.out G0)⟩⟩
    · rw [if_neg c9] at H
      have c9b0 : decide (200 < (l1.length : Int)) = false := decide_eq_false c9
      have c9b1 : decide (200 < l1.length) = false := decide_eq_false (by omega)
      clear c9
      (first | rw [c9b0] | (simp only [i64_w, i32_w]; rw [c9b0]) | skip)
      have H' := Aside0.mk H
      clear H
      go_wp2
      go_meet
      case rel => exact ⟨_, ((t264 != 0)), (by first | (rw [HR_.out]; done) | rfl | (rw [HR_.out]; rfl) | (simp [HR_.out]; done) | (simp; done) | (simp [*]; done)), H', ⟨by first | omega | exact Nat.le_refl _⟩, ⟨by (with_reducible repeat (first | apply Kd.R_alloc | apply Kd.R_drewN | apply Kd.R_drew)); exact Kd.R_mono (Kd.R_mv (g := gb265) (Kd.R_types HO263.out BK265.out (by decide)) (fun _ hk => hk.2)) (fun _ hk => trivial)⟩, ⟨by exact BP BK265.out (by rfl)⟩, ⟨LG HB.out (G1 GE265.out G0)⟩⟩
  case rest =>
    clear HC4
    try clear c1
    try clear p2
    try clear c4
    try clear c9
    try clear c9b0
    try clear c9b1
    try clear hcz7_0
    try clear hcz7_1
    try clear hcz7_2
    try clear hfz7_0
    try clear hfz7_1
    try clear hfz7_2
    obtain ⟨kq, x34_3, rfl, HA, HJ3, HO_266002, BK265, HB⟩ := hcut
    cases kq with
    | zero => exact absurd HA.out (by simp [hopperlaw08_PipeRows.j0])
    | succ kj3 =>
      have H := HA.out
      clear HA
      simp only [hopperlaw08_PipeRows.j0] at H
      by_cases c10 : x34_3 = true
      · subst c10
        have H1 : (if (l1.length : Int) > 200 then ((hopperlaw08_live.f).bind fun t266 => (some t266)) else (if t259 = 0 then (if (t261.length : Int) = 0 then ((hopperlaw08_live.f).bind fun t267 => (some t267)) else (some false)) else (some false))) = some true := by rw [if_pos rfl] at H; exact H
        clear H
        have H := H1
        clear H1
        by_cases c11 : (l1.length : Int) > 200
        · rw [if_pos c11] at H
          have c11b0 : decide (200 < (l1.length : Int)) = true := decide_eq_true c11
          have c11b1 : decide (200 < l1.length) = true := decide_eq_true (by omega)
          clear c11
          replace H := Option.bind_eq_some_iff.mp H
          obtain ⟨t266, A120, H⟩ := H
          try dsimp only at H
          have A12 := Aside0.mk A120
          clear A120
          have HR_ := Aside0.mk (Option.some.inj H)
          clear H
          go_wp2_with (first | (go_at_call 8; (with_reducible refine (hopperlaw08_live.calls  t266 _ A12.out).mono ?_); rintro e w13 ⟨rfl, hb⟩; replace HB := Aside0.mk (below_step (LA HB.out) hb); (try clear HO_266002); (try clear BK265); (try clear hb); (try clear hb2); (try clear hk); (try clear hi)))
          go_ret
          exact ⟨by first | (rw [HR_.out]; done) | rfl | (rw [HR_.out]; rfl) | (simp [HR_.out]; done) | (simp [errW_none, errW_some] <;> rfl) | (simp [*, errW_none, errW_some] <;> rfl), LG HB.out (G1 GE265.out G0)⟩
        · rw [if_neg c11] at H
          have c11b0 : decide (200 < (l1.length : Int)) = false := decide_eq_false c11
          have c11b1 : decide (200 < l1.length) = false := decide_eq_false (by omega)
          clear c11
          by_cases c14 : t259 = 0
          rotate_left
          · rw [if_neg c14] at H
            have c14b0 : (t259 == 0) = false := beq_eq_false_iff_ne.mpr c14
            have c14b1 : (t259 != 0) = true := bne_iff_ne.mpr c14
            exact absurd H (by simp)
          rw [if_pos c14] at H
          have c14b0 : (t259 == 0) = true := beq_iff_eq.mpr c14
          have c14b1 : (t259 != 0) = false := bne_eq_false_iff_eq.mpr c14
          clear c14
          by_cases c15 : (t261.length : Int) = 0
          rotate_left
          · rw [if_neg c15] at H
            have c15b0 : ((t261.length : Int) == 0) = false := beq_eq_false_iff_ne.mpr c15
            have c15b1 : ((t261.length : Int) != 0) = true := bne_iff_ne.mpr c15
            have c15b2 : ¬ (t261 = []) := fun h_ => c15 (by rw [h_]; rfl)
            exact absurd H (by simp)
          rw [if_pos c15] at H
          have c15b0 : ((t261.length : Int) == 0) = true := beq_iff_eq.mpr c15
          have c15b1 : ((t261.length : Int) != 0) = false := bne_eq_false_iff_eq.mpr c15
          clear c15
          replace H := Option.bind_eq_some_iff.mp H
          obtain ⟨t267, A160, H⟩ := H
          try dsimp only at H
          have A16 := Aside0.mk A160
          clear A160
          have HR_ := Aside0.mk (Option.some.inj H)
          clear H
          have hcz17_0 : wc.cell? ⟨gb265, 0, none⟩ = some (.int .i64 t259) := (blk_cell BK265.out 0).trans rfl
          have hcz17_1 : wc.cell? ⟨gb265, 1, none⟩ = some (.bool t260) := (blk_cell BK265.out 1).trans rfl
          have hcz17_2 : wc.cell? ⟨gb265, 2, none⟩ = some (.slice Ao8 t261.length co8) := (blk_cell BK265.out 2).trans rfl
          have hfz17_0 := blk_frozen BK265.out 0
          have hfz17_1 := blk_frozen BK265.out 1
          have hfz17_2 := blk_frozen BK265.out 2
          go_wp2_with (first | (go_at_call 8; (with_reducible refine (hopperlaw08_live.calls  t267 _ A16.out).mono ?_); rintro e w18 ⟨rfl, hb⟩; replace HB := Aside0.mk (below_step (LA HB.out) hb); (try clear HO_266002); (try clear BK265); (try clear hb); (try clear hb2); (try clear hk); (try clear hi)))
          go_ret
          exact ⟨by first | (rw [HR_.out]; done) | rfl | (rw [HR_.out]; rfl) | (simp [HR_.out]; done) | (simp [errW_none, errW_some] <;> rfl) | (simp [*, errW_none, errW_some] <;> rfl), LG HB.out (G1 GE265.out G0)⟩
      · replace c10 := Bool.eq_false_iff.mpr c10
        subst c10
        have H1 : (hopperlaw08_PipeRows.l0 kj3 a0 l1 ([] : List Int) 0 t259 t260 t261) = some true := by rw [if_neg (show ¬ (false = true) by decide)] at H; exact H
        clear H
        have H := H1
        clear H1
        have H' := Aside0.mk H
        clear H
        go_wp2
        go_loopg [7, 8] kj3 (fun kq v7 v8 w' => ∃ (x7_2 : List Int) (x8_2 : Int) (x266000_2 : Int) (x266001_2 : Bool) (x266002_2 : List (S36)) (u266002 : Value), v8 = .int .i64 x8_2 ∧ Aside0 (hopperlaw08_PipeRows.l0 kq a0 l1 x7_2 x8_2 x266000_2 x266001_2 x266002_2 = some true) ∧ Aside0 (kq ≤ kj3) ∧ Aside0 (Kd.Q (Kd.int .i64) 3 w' w.heap.size (fun _ => True) v7 x7_2) ∧ Aside0 (Kd.V k36 36 w' w.heap.size (fun k_ => some k_ ≠ (v7 : Value).ownBlock ∧ k_ ≠ gb265) u266002 x266002_2) ∧ Aside0 (w'.heap[gb265]? = some (.cells #[.int .i64 x266000_2, .bool x266001_2, u266002] 31 (0, 0))) ∧ Aside0 (Below w.heap.size w w'))
        case atStart => exact ⟨(([] : List Int)), (0), (t259), (t260), (t261), (.slice Ao8 t261.length co8), (by first | (rw [HR_.out]; done) | rfl | (rw [HR_.out]; rfl) | (simp [HR_.out]; done) | (simp; done) | (simp [*]; done)), H', ⟨Nat.le_refl _⟩, ⟨Kd.Q_of_R (by first | exact Kd.R_nil _ _ _ _ _ | exact Kd.N_nil _ _ _ _ _ | exact Kd.V_nil _ _ _ _ _ | exact Kd.Q_nil _ _ _ _ _ | exact Kd.S_nil _ _ _ _ _)⟩, ⟨Kd.R_V (Kd.RA (Kd.R_mono (Kd.R_types HO_266002.out BK265.out (by decide)) (fun _ hk => ⟨(by simp [Value.ownBlock]), hk.2⟩)))⟩, ⟨by (with_reducible repeat (first | refine blk_drewN ?_ _ | refine blk_drew ?_ | refine blk_alloc ?_ _)); exact BK265.out⟩, ⟨LG HB.out (G1 GE265.out G0)⟩⟩
        case round =>
          clear H'
          try clear c1
          try clear p2
          try clear c4
          try clear c9
          try clear c9b0
          try clear c9b1
          try clear c10
          try clear c11
          try clear c11b0
          try clear c11b1
          try clear c14
          try clear c14b0
          try clear c14b1
          try clear c15
          try clear c15b0
          try clear c15b1
          try clear c15b2
          try clear c16
          try clear hcz17_0
          try clear hcz17_1
          try clear hcz17_2
          try clear hcz7_0
          try clear hcz7_1
          try clear hcz7_2
          try clear hfz17_0
          try clear hfz17_1
          try clear hfz17_2
          try clear hfz7_0
          try clear hfz7_1
          try clear hfz7_2
          try clear p2
          obtain ⟨x7_2, x8_2, x266000_2, x266001_2, x266002_2, u266002, rfl, HA, HK2, HO_7, HO_266002, BK265, HB⟩ := hrel
          cases gk with
          | zero => exact absurd HA.out (by simp [hopperlaw08_PipeRows.l0])
          | succ k2 =>
            have H := HA.out
            clear HA
            simp only [hopperlaw08_PipeRows.l0] at H
            by_cases c19 : x8_2 < (l1.length : Int)
            · rw [if_pos c19] at H
              have c19b0 : decide (x8_2 < (l1.length : Int)) = true := decide_eq_true c19
              clear c19
              by_cases c20 : 0 ≤ x8_2
              rotate_left
              · rw [if_neg c20] at H
                exact absurd H (by simp)
              rw [if_pos c20] at H
              have c20b0 : decide (0 ≤ x8_2) = true := decide_eq_true c20
              clear c20
              by_cases c21 : (rd l1 x8_2) = 0
              · rw [if_pos c21] at H
                have c21b0 : ((rd l1 x8_2) == 0) = true := beq_iff_eq.mpr c21
                have c21b1 : ((rd l1 x8_2) != 0) = false := bne_eq_false_iff_eq.mpr c21
                clear c21
                replace H := Option.bind_eq_some_iff.mp H
                obtain ⟨⟨t269, t270, t271, t274, t275, t276, t277⟩, A220, H⟩ := H
                try dsimp only at H
                have A22 := Aside0.mk A220
                clear A220
                have HC23 := Aside0.mk H
                clear H
                have p268 : 0 ≤ (x8_2 : Int) := of_decide_eq_true (by first | (with_reducible assumption) | assumption)
                have q268 : x8_2 < (l1.length : Int) := of_decide_eq_true (by first | (with_reducible assumption) | assumption)
                obtain ⟨ad268, e268, hx268_0⟩ := Kd.at_int HR1.out x8_2 p268 q268
                cases e268
                replace hx268_0 := (HB.out.cell (World.block_lt_of_cell? w _ hx268_0)).trans hx268_0
                replace p268 := eq_true p268
                replace q268 := eq_true q268
                have hcz24_0 : wr.cell? ⟨gb265, 0, none⟩ = some (.int .i64 x266000_2) := (blk_cell BK265.out 0).trans rfl
                have hcz24_1 : wr.cell? ⟨gb265, 1, none⟩ = some (.bool x266001_2) := (blk_cell BK265.out 1).trans rfl
                have hcz24_2 : wr.cell? ⟨gb265, 2, none⟩ = some (u266002) := (blk_cell BK265.out 2).trans rfl
                have hfz24_0 := blk_frozen BK265.out 0
                have hfz24_1 := blk_frozen BK265.out 1
                have hfz24_2 := blk_frozen BK265.out 2
                obtain ⟨Ao25, co25, eo25⟩ := Kd.V_slice HO_266002.out
                subst eo25
                go_upto_region 10 with (first | ((with_reducible refine gate_callee (f := 12) rfl ?_); refine goesL_ (some 65) rfl rfl Try.func12 (by kernel_rfl) rfl #[.agg #[.int .i64 x266000_2, .bool x266001_2, .slice Ao25 x266002_2.length co25]] rfl (by (try simp only [List.map_toArray, List.map_cons, List.map_nil]); first | done | rfl | (simp only [List.length_drop, List.length_take]; rfl)) ?_; (with_reducible refine (pipe_Pipe_Take.calls x266000_2 x266001_2 (fun k_ => (some k_ ≠ (u7 : Value).ownBlock ∧ k_ ≠ gb265)) _ _ x266002_2 t269 t270 t271 t274 t275 t276 t277 _ ?side1 A22.out).mono ?_); (case side1 => exact HO_266002.out); rintro e w26 ⟨v272, rfl, ho0, hb⟩; refine ⟨_, rfl, ?_⟩; replace HO_266002 := Aside0.mk (Kd.V_below (Kd.VA HO_266002.out) hb); have HO273 := Aside0.mk (Kd.V_lower (Kd.V_mono (ok' := fun k_ => some k_ ≠ (u7 : Value).ownBlock ∧ k_ ≠ gb265) ho0 (fun k_ hk_ => ⟨Or.elim hk_ (fun hs_ => hs_.1) (fun hn_ => (Kd.fresh' (Kd.Q_lt (Kd.QA HO_7.out)) k_ hn_)), Or.elim hk_ (fun hs_ => hs_.2) (fun hn_ => (Kd.freshB (g := gb265) (o := .cells #[.int .i64 x266000_2, .bool x266001_2, .slice Ao25 x266002_2.length co25] 31 (0, 0)) (BA BK265.out) k_ hn_))⟩)) (below_size (LA HB.out))); replace HO_7 := Aside0.mk (Kd.Q_below (Kd.QA HO_7.out) hb); replace BK265 := Aside0.mk (blk_below (BA BK265.out) hb); replace HB := Aside0.mk (below_step (LA HB.out) hb); (try clear hb); (try clear hb2); (try clear hk); (try clear hi); (try clear ho0)) | ((with_reducible refine gate_dst (N := 9) rfl ?_); (try (refine gate_guard (by rfl) ?_; dsimp only)); refine box_event ?hg (N := 9) ?hd (cs := #[.int .i64 0, .bool false, .slice none 0 0]) (t := 31) ?hr ?_; (case hd => rfl); (case hg => rfl); (case hr => first | (go_simp; done) | (go_simp; rfl)); intro gb278 hg w27 hbox hb; replace HO_7 := Aside0.mk (Kd.Q_below (Kd.QA HO_7.out) hb); replace HO_266002 := Aside0.mk (Kd.V_below (Kd.V_elderB (Kd.VA HO_266002.out) gb278 (Nat.le_of_eq hg.symm)) hb); replace HO273 := Aside0.mk (Kd.V_below (Kd.V_elderB (Kd.VA HO273.out) gb278 (Nat.le_of_eq hg.symm)) hb); have BK278 := Aside0.mk (hbox); have GE278 := Aside0.mk (ge1 hg (LA HB.out)); replace HB := Aside0.mk (below_step (LA HB.out) hb); have NB265_278 := Aside0.mk ((by rw [hg]; exact Nat.ne_of_lt (blk_lt (g := gb265) (o := .cells #[.int .i64 x266000_2, .bool x266001_2, .slice Ao25 x266002_2.length co25] 31 (0, 0)) (BA BK265.out)) : gb265 ≠ gb278)); have NB278_265 := Aside0.mk ((by rw [hg]; exact Nat.ne_of_gt (blk_lt (g := gb265) (o := .cells #[.int .i64 x266000_2, .bool x266001_2, .slice Ao25 x266002_2.length co25] 31 (0, 0)) (BA BK265.out)) : gb278 ≠ gb265)); replace BK265 := Aside0.mk (blk_below (BA BK265.out) hb); clear hb hbox hg) | ((with_reducible refine gate_dst (N := 10) rfl ?_); (try (refine gate_guard (by rfl) ?_; dsimp only)); refine box_event ?hg (N := 10) ?hd (cs := #[.int .i64 0, .int .i64 0, .string (⟨#[]⟩ : ByteArray)]) (t := 36) ?hr ?_; (case hd => rfl); (case hg => rfl); (case hr => first | (go_simp; done) | (go_simp; rfl)); intro gb279 hg w28 hbox hb; replace HO_7 := Aside0.mk (Kd.Q_below (Kd.QA HO_7.out) hb); replace HO_266002 := Aside0.mk (Kd.V_below (Kd.V_elderB (Kd.VA HO_266002.out) gb279 (Nat.le_of_eq hg.symm)) hb); replace HO273 := Aside0.mk (Kd.V_below (Kd.V_elderB (Kd.VA HO273.out) gb279 (Nat.le_of_eq hg.symm)) hb); have BK279 := Aside0.mk (hbox); have GE279 := Aside0.mk (ge1 hg (LA HB.out)); replace HB := Aside0.mk (below_step (LA HB.out) hb); have NB265_279 := Aside0.mk ((by rw [hg]; exact Nat.ne_of_lt (blk_lt (g := gb265) (o := .cells #[.int .i64 x266000_2, .bool x266001_2, .slice Ao25 x266002_2.length co25] 31 (0, 0)) (BA BK265.out)) : gb265 ≠ gb279)); have NB279_265 := Aside0.mk ((by rw [hg]; exact Nat.ne_of_gt (blk_lt (g := gb265) (o := .cells #[.int .i64 x266000_2, .bool x266001_2, .slice Ao25 x266002_2.length co25] 31 (0, 0)) (BA BK265.out)) : gb279 ≠ gb265)); replace BK265 := Aside0.mk (blk_below (BA BK265.out) hb); have NB278_279 := Aside0.mk ((by rw [hg]; exact Nat.ne_of_lt (blk_lt (g := gb278) (o := .cells #[.int .i64 0, .bool false, .slice none 0 0] 31 (0, 0)) (BA BK278.out)) : gb278 ≠ gb279)); have NB279_278 := Aside0.mk ((by rw [hg]; exact Nat.ne_of_gt (blk_lt (g := gb278) (o := .cells #[.int .i64 0, .bool false, .slice none 0 0] 31 (0, 0)) (BA BK278.out)) : gb279 ≠ gb278)); replace BK278 := Aside0.mk (blk_below (BA BK278.out) hb); clear hb hbox hg; have hnb29 := NB278_265.out; have hnc29 := NB265_278.out; have hnb30 := NB278_279.out; have hnc30 := NB279_278.out; obtain ⟨hcz31_0, hcz31_1, hcz31_2, hfz31_0, hfz31_1, hfz31_2⟩ := cz3 BK278.out; obtain ⟨Ao32, co32, eo32⟩ := Kd.V_slice HO273.out; subst eo32; have hnb33 := NB279_265.out; have hnc33 := NB265_279.out; obtain ⟨hcz34_0, hcz34_1, hcz34_2, hfz34_0, hfz34_1, hfz34_2⟩ := cz3 BK279.out))
                (try simp only [Act.put, PU])
                go_cut [94] (fun v94 wc => ∃ (kq : Nat) (x94_22 : Bool), v94 = .bool x94_22 ∧ Aside0 (hopperlaw08_PipeRows.j2 kq a0 l1 x7_2 x8_2 x94_22 t269 t270 t271 = some true) ∧ Aside0 (kq ≤ k2) ∧ Aside0 (Kd.Q (Kd.int .i64) 3 wc w.heap.size (fun _ => True) u7 x7_2) ∧ Aside0 (Kd.V k36 36 wc w.heap.size (fun k_ => some k_ ≠ (u7 : Value).ownBlock ∧ k_ ≠ gb265 ∧ k_ ≠ gb278 ∧ k_ ≠ gb279) (.slice Ao25 x266002_2.length co25) x266002_2) ∧ Aside0 (Kd.V k36 36 wc w.heap.size (fun k_ => some k_ ≠ (u7 : Value).ownBlock ∧ k_ ≠ gb265 ∧ k_ ≠ gb278 ∧ k_ ≠ gb279) (.slice Ao32 t271.length co32) t271) ∧ Aside0 (wc.heap[gb265]? = some (.cells #[.int .i64 x266000_2, .bool x266001_2, (.slice Ao25 x266002_2.length co25)] 31 (0, 0))) ∧ Aside0 (wc.heap[gb278]? = some (.cells #[.int .i64 t269, .bool t270, (.slice Ao32 t271.length co32)] 31 (0, 0))) ∧ Aside0 (wc.heap[gb279]? = some (.cells #[.int .i64 t274, .int .i64 t275, .string t276] 36 (0, 0))) ∧ Aside0 (Below w.heap.size w wc))
                case first =>
                  have H := HC23.out
                  clear HC23
                  by_cases c35 : ((t277 == 0) != (decide ((x7_2.length : Int) > 0))) = true
                  · rw [if_pos c35] at H
                    have c35b0 : ((t277 == 0) != (decide ((x7_2.length : Int) > 0))) = true := c35
                    (try (have c35y : ((t277 == 0) == decide (0 < x7_2.length)) = false := by have e_ : decide (0 < x7_2.length) = decide ((x7_2.length : Int) > 0) := decide_eq_decide.mpr (by omega); rw [e_]; revert c35b0; cases (t277 == 0) <;> cases decide ((x7_2.length : Int) > 0) <;> decide))
                    (try (have c35b1 : decide ((t277 == 0) = (decide ((x7_2.length : Int) > 0))) = false := by simpa using c35))
                    (try (have c35b2 : ((t277 == 0) == (decide ((x7_2.length : Int) > 0))) = false := by simpa using c35))
                    (try (have c35b3 : ¬ ((t277 == 0) = (decide ((x7_2.length : Int) > 0))) := by simpa using c35))
                    clear c35
                    (first | rw [c35b0] | (simp only [i64_w, i32_w]; rw [c35b0]) | skip)
                    have H' := Aside0.mk H
                    clear H
                    try go_wp2
                    have n0_ : Aside0 (Kd.Q (Kd.int .i64) 3 ((((((w28.setCell ⟨gb278, 0, none⟩ (.int .i64 t269)).setCell ⟨gb278, 1, none⟩ (.bool t270)).setCell ⟨gb278, 2, none⟩ (.slice Ao32 t271.length co32)).setCell ⟨gb279, 0, none⟩ (.int .i64 t274)).setCell ⟨gb279, 1, none⟩ (.int .i64 t275)).setCell ⟨gb279, 2, none⟩ (.string t276)) w.heap.size (fun _ => True) u7 x7_2) := ⟨by (with_reducible repeat (first | apply Kd.Q_alloc | apply Kd.Q_drewN | apply Kd.Q_drew)); exact Kd.Q_mono (Kd.Q_ms (gs := [gb279, gb278]) (Kd.Q_types (Kd.Q_types HO_7.out BK278.out (by decide)) BK279.out (by decide)) (fun _ hk => N1 (hk.2) (N1 (hk.1.2) (N0)))) (fun _ hk => trivial)⟩
                    have n1_ : Aside0 (Kd.V k36 36 ((((((w28.setCell ⟨gb278, 0, none⟩ (.int .i64 t269)).setCell ⟨gb278, 1, none⟩ (.bool t270)).setCell ⟨gb278, 2, none⟩ (.slice Ao32 t271.length co32)).setCell ⟨gb279, 0, none⟩ (.int .i64 t274)).setCell ⟨gb279, 1, none⟩ (.int .i64 t275)).setCell ⟨gb279, 2, none⟩ (.string t276)) w.heap.size (fun k_ => some k_ ≠ (u7 : Value).ownBlock ∧ k_ ≠ gb265 ∧ k_ ≠ gb278 ∧ k_ ≠ gb279) (.slice Ao25 x266002_2.length co25) x266002_2) := ⟨by (with_reducible repeat (first | apply Kd.V_alloc | apply Kd.V_drewN | apply Kd.V_drew)); exact Kd.V_mono (Kd.V_ms (gs := [gb279, gb278]) (Kd.V_mono (Kd.V_mono HO_266002.out (fun k_ hk => (⟨hk, hk.1.2⟩ : _ ∧ k_ ≠ gb278))) (fun k_ hk => (⟨hk, hk.1.2⟩ : _ ∧ k_ ≠ gb279))) (fun _ hk => N1 (hk.2) (N1 (hk.1.2) (N0)))) (fun _ hk => ⟨hk.1.1.1.1.1, ⟨hk.1.1.1.1.2, ⟨hk.1.1.1.2, hk.1.1.2⟩⟩⟩)⟩
                    have n2_ : Aside0 (Kd.V k36 36 ((((((w28.setCell ⟨gb278, 0, none⟩ (.int .i64 t269)).setCell ⟨gb278, 1, none⟩ (.bool t270)).setCell ⟨gb278, 2, none⟩ (.slice Ao32 t271.length co32)).setCell ⟨gb279, 0, none⟩ (.int .i64 t274)).setCell ⟨gb279, 1, none⟩ (.int .i64 t275)).setCell ⟨gb279, 2, none⟩ (.string t276)) w.heap.size (fun k_ => some k_ ≠ (u7 : Value).ownBlock ∧ k_ ≠ gb265 ∧ k_ ≠ gb278 ∧ k_ ≠ gb279) (.slice Ao32 t271.length co32) t271) := ⟨by (with_reducible repeat (first | apply Kd.V_alloc | apply Kd.V_drewN | apply Kd.V_drew)); exact Kd.V_mono (Kd.V_ms (gs := [gb279, gb278]) (Kd.V_mono (Kd.V_mono HO273.out (fun k_ hk => (⟨hk, hk.1.2⟩ : _ ∧ k_ ≠ gb278))) (fun k_ hk => (⟨hk, hk.1.2⟩ : _ ∧ k_ ≠ gb279))) (fun _ hk => N1 (hk.2) (N1 (hk.1.2) (N0)))) (fun _ hk => ⟨hk.1.1.1.1.1, ⟨hk.1.1.1.1.2, ⟨hk.1.1.1.2, hk.1.1.2⟩⟩⟩)⟩
                    have n3_ : Aside0 (((((((w28.setCell ⟨gb278, 0, none⟩ (.int .i64 t269)).setCell ⟨gb278, 1, none⟩ (.bool t270)).setCell ⟨gb278, 2, none⟩ (.slice Ao32 t271.length co32)).setCell ⟨gb279, 0, none⟩ (.int .i64 t274)).setCell ⟨gb279, 1, none⟩ (.int .i64 t275)).setCell ⟨gb279, 2, none⟩ (.string t276)).heap[gb265]? = some (.cells #[.int .i64 x266000_2, .bool x266001_2, .slice Ao25 x266002_2.length co25] 31 (0, 0))) := ⟨by exact BM BK265.out (N1 NB265_279.out (N1 NB265_278.out N0))⟩
                    have n4_ : Aside0 (((((((w28.setCell ⟨gb278, 0, none⟩ (.int .i64 t269)).setCell ⟨gb278, 1, none⟩ (.bool t270)).setCell ⟨gb278, 2, none⟩ (.slice Ao32 t271.length co32)).setCell ⟨gb279, 0, none⟩ (.int .i64 t274)).setCell ⟨gb279, 1, none⟩ (.int .i64 t275)).setCell ⟨gb279, 2, none⟩ (.string t276)).heap[gb278]? = some (.cells #[.int .i64 t269, .bool t270, .slice Ao32 t271.length co32] 31 (0, 0))) := ⟨by (with_reducible repeat (first | refine blk_drewN ?_ _ | refine blk_drew ?_ | refine blk_alloc ?_ _)); refine blk_far ?_ NB278_279.out _; (with_reducible repeat (first | refine blk_drewN ?_ _ | refine blk_drew ?_ | refine blk_alloc ?_ _)); refine blk_far ?_ NB278_279.out _; (with_reducible repeat (first | refine blk_drewN ?_ _ | refine blk_drew ?_ | refine blk_alloc ?_ _)); refine blk_far ?_ NB278_279.out _; exact BP BK278.out (by rfl)⟩
                    have n5_ : Aside0 (((((((w28.setCell ⟨gb278, 0, none⟩ (.int .i64 t269)).setCell ⟨gb278, 1, none⟩ (.bool t270)).setCell ⟨gb278, 2, none⟩ (.slice Ao32 t271.length co32)).setCell ⟨gb279, 0, none⟩ (.int .i64 t274)).setCell ⟨gb279, 1, none⟩ (.int .i64 t275)).setCell ⟨gb279, 2, none⟩ (.string t276)).heap[gb279]? = some (.cells #[.int .i64 t274, .int .i64 t275, .string t276] 36 (0, 0))) := ⟨by (with_reducible repeat (first | refine blk_drewN ?_ _ | refine blk_drew ?_ | refine blk_alloc ?_ _)); refine blk_put (cs := #[.int .i64 t274, .int .i64 t275, .string (⟨#[]⟩ : ByteArray)]) ?_ 2 _ rfl; (with_reducible repeat (first | refine blk_drewN ?_ _ | refine blk_drew ?_ | refine blk_alloc ?_ _)); refine blk_put (cs := #[.int .i64 t274, .int .i64 0, .string (⟨#[]⟩ : ByteArray)]) ?_ 1 _ rfl; (with_reducible repeat (first | refine blk_drewN ?_ _ | refine blk_drew ?_ | refine blk_alloc ?_ _)); refine blk_put (cs := #[.int .i64 0, .int .i64 0, .string (⟨#[]⟩ : ByteArray)]) ?_ 0 _ rfl; exact BF BK279.out NB279_278.out⟩
                    have n6_ : Aside0 (Below w.heap.size w ((((((w28.setCell ⟨gb278, 0, none⟩ (.int .i64 t269)).setCell ⟨gb278, 1, none⟩ (.bool t270)).setCell ⟨gb278, 2, none⟩ (.slice Ao32 t271.length co32)).setCell ⟨gb279, 0, none⟩ (.int .i64 t274)).setCell ⟨gb279, 1, none⟩ (.int .i64 t275)).setCell ⟨gb279, 2, none⟩ (.string t276))) := ⟨LG HB.out (G1 GE265.out (G1 GE278.out (G1 GE279.out G0)))⟩
                    (try clear HO_7)
                    (try clear HO_266002)
                    (try clear HO273)
                    (try clear BK265)
                    (try clear BK278)
                    (try clear BK279)
                    (try clear HB)
                    generalize ((((((w28.setCell ⟨gb278, 0, none⟩ (.int .i64 t269)).setCell ⟨gb278, 1, none⟩ (.bool t270)).setCell ⟨gb278, 2, none⟩ (.slice Ao32 t271.length co32)).setCell ⟨gb279, 0, none⟩ (.int .i64 t274)).setCell ⟨gb279, 1, none⟩ (.int .i64 t275)).setCell ⟨gb279, 2, none⟩ (.string t276)) = w36 at n0_ n1_ n2_ n3_ n4_ n5_ n6_ ⊢
                    have HO_7 := n0_
                    have HO_266002 := n1_
                    have HO273 := n2_
                    have BK265 := n3_
                    have BK278 := n4_
                    have BK279 := n5_
                    have HB := n6_
                    clear n0_ n1_ n2_ n3_ n4_ n5_ n6_
                    have n0_ := Aside0.mk (Kd.Q_drew HO_7.out)
                    have n1_ := Aside0.mk (Kd.V_drew HO_266002.out)
                    have n2_ := Aside0.mk (Kd.V_drew HO273.out)
                    have n3_ := Aside0.mk (blk_drew BK265.out)
                    have n4_ := Aside0.mk (blk_drew BK278.out)
                    have n5_ := Aside0.mk (blk_drew BK279.out)
                    have n6_ := Aside0.mk (below_drew1 HB.out)
                    clear HO_7
                    clear HO_266002
                    clear HO273
                    clear BK265
                    clear BK278
                    clear BK279
                    clear HB
                    have HO_7 := n0_
                    have HO_266002 := n1_
                    have HO273 := n2_
                    have BK265 := n3_
                    have BK278 := n4_
                    have BK279 := n5_
                    have HB := n6_
                    clear n0_ n1_ n2_ n3_ n4_ n5_ n6_
                    obtain ⟨Ao38, co38, eo38, _⟩ := Kd.Q_slice HO_7.out
                    (first | subst eo38 | (injection eo38 with f1_ f2_ f3_; have f4_ := f1_.symm; have f5_ := f3_.symm; clear f1_ f2_ f3_; subst f4_; subst f5_))
                    refine start_ (n := 26) (S := fun w' => True) (ds := []) (tf 0 26) (by kernel_rfl) rfl rfl trivial (fun hHeld => ?_); refine with_tabW hopperlaw08_PipeRows.tab10 hopperlaw08_PipeRows.bits10 (fun HT_ HW_ => ?_)
                    generalize w36.drew = w37 at HO_7 HO_266002 HO273 BK265 BK278 BK279 HB hHeld ⊢
                    refine pure_ (i := 0) (N := some 69) (v := ?_) (a' := ?_) (tf 1 26) rfl rfl (any_of HT_.out (by kernel_rfl)) (fun _ _ _ h => h) (Or.inl ⟨by rfl, ?_⟩) ?_ ?_
                    rotate_left
                    · intro w'
                      go_simp
                      with_reducible rfl
                    rotate_left
                    · simp only [Act.put, PU, i64_w, i32_w]
                      rfl
                    refine pure_ (i := 1) (N := some 70) (v := ?_) (a' := ?_) (tf 2 26) rfl rfl (any_of HT_.out (by kernel_rfl)) (fun _ _ _ h => h) (Or.inl ⟨by rfl, ?_⟩) ?_ ?_
                    rotate_left
                    · intro w'
                      go_simp
                      with_reducible rfl
                    rotate_left
                    · simp only [Act.put, PU, i64_w, i32_w]
                      rfl
                    refine pure_ (i := 2) (N := some 71) (v := ?_) (a' := ?_) (tf 3 26) rfl rfl (any_of HT_.out (by kernel_rfl)) (fun _ _ _ h => h) (Or.inl ⟨by rfl, ?_⟩) ?_ ?_
                    rotate_left
                    · intro w'
                      go_simp
                      with_reducible rfl
                    rotate_left
                    · simp only [Act.put, PU, i64_w, i32_w]
                      rfl
                    refine pure_ (i := 3) (N := some 72) (v := ?_) (a' := ?_) (tf 4 26) rfl rfl (any_of HT_.out (by kernel_rfl)) (fun _ _ _ h => h) (Or.inl ⟨by rfl, ?_⟩) ?_ ?_
                    rotate_left
                    · intro w'
                      go_simp
                      with_reducible rfl
                    rotate_left
                    · simp only [Act.put, PU, i64_w, i32_w]
                      rfl
                    refine pure_ (i := 4) (N := some 73) (v := ?_) (a' := ?_) (tf 5 26) rfl rfl (any_of HT_.out (by kernel_rfl)) (fun _ _ _ h => h) (Or.inl ⟨by rfl, ?_⟩) ?_ ?_
                    rotate_left
                    · intro w'
                      go_simp
                      with_reducible rfl
                    rotate_left
                    · simp only [Act.put, PU, i64_w, i32_w]
                      rfl
                    refine pure_ (i := 5) (N := some 74) (v := ?_) (a' := ?_) (tf 6 26) rfl rfl (any_of HT_.out (by kernel_rfl)) (fun _ _ _ h => h) (Or.inl ⟨by rfl, ?_⟩) ?_ ?_
                    rotate_left
                    · intro w'
                      go_simp
                      with_reducible rfl
                    rotate_left
                    · simp only [Act.put, PU, i64_w, i32_w]
                      rfl
                    refine pure_ (i := 6) (N := some 75) (v := ?_) (a' := ?_) (tf 7 26) rfl rfl (any_of HT_.out (by kernel_rfl)) (fun _ _ _ h => h) (Or.inl ⟨by rfl, ?_⟩) ?_ ?_
                    rotate_left
                    · intro w'
                      go_simp
                      with_reducible rfl
                    rotate_left
                    · simp only [Act.put, PU, i64_w, i32_w]
                      rfl
                    refine pure_ (i := 7) (N := some 76) (v := undef) (a' := ?_) (tf 8 26) rfl rfl (any_of HT_.out (by kernel_rfl)) (fun _ _ _ h => h) (Or.inr ⟨by rfl, rfl⟩) ?_ ?_
                    rotate_left
                    · simp only [Act.put, PU, i64_w, i32_w]
                      rfl
                    refine pure_ (i := 8) (N := some 77) (v := undef) (a' := ?_) (tf 9 26) rfl rfl (any_of HT_.out (by kernel_rfl)) (fun _ _ _ h => h) (Or.inr ⟨by rfl, rfl⟩) ?_ ?_
                    rotate_left
                    · simp only [Act.put, PU, i64_w, i32_w]
                      rfl
                    refine pure_ (i := 9) (N := some 78) (v := undef) (a' := ?_) (tf 10 26) rfl rfl (any_of HT_.out (by kernel_rfl)) (fun _ _ _ h => h) (Or.inr ⟨by rfl, rfl⟩) ?_ ?_
                    rotate_left
                    · simp only [Act.put, PU, i64_w, i32_w]
                      rfl
                    refine pure_ (i := 10) (N := some 79) (v := undef) (a' := ?_) (tf 11 26) rfl rfl (any_of HT_.out (by kernel_rfl)) (fun _ _ _ h => h) (Or.inr ⟨by rfl, rfl⟩) ?_ ?_
                    rotate_left
                    · simp only [Act.put, PU, i64_w, i32_w]
                      rfl
                    refine pure_ (i := 11) (N := some 80) (v := undef) (a' := ?_) (tf 12 26) rfl rfl (any_of HT_.out (by kernel_rfl)) (fun _ _ _ h => h) (Or.inr ⟨by rfl, rfl⟩) ?_ ?_
                    rotate_left
                    · simp only [Act.put, PU, i64_w, i32_w]
                      rfl
                    refine pure_ (i := 12) (N := some 81) (v := undef) (a' := ?_) (tf 13 26) rfl rfl (any_of HT_.out (by kernel_rfl)) (fun _ _ _ h => h) (Or.inr ⟨by rfl, rfl⟩) ?_ ?_
                    rotate_left
                    · simp only [Act.put, PU, i64_w, i32_w]
                      rfl
                    refine pure_ (i := 13) (N := some 82) (v := ?_) (a' := ?_) (tf 14 26) rfl rfl (any_of HT_.out (by kernel_rfl)) (fun _ _ _ h => h) (Or.inl ⟨by rfl, ?_⟩) ?_ ?_
                    rotate_left
                    · intro w'
                      go_simp
                      with_reducible rfl
                    rotate_left
                    · simp only [Act.put, PU, i64_w, i32_w]
                      rfl
                    refine pure_ (i := 14) (N := some 83) (v := ?_) (a' := ?_) (tf 15 26) rfl rfl (any_of HT_.out (by kernel_rfl)) (fun _ _ _ h => h) (Or.inl ⟨by rfl, ?_⟩) ?_ ?_
                    rotate_left
                    · intro w'
                      go_simp
                      with_reducible rfl
                    rotate_left
                    · simp only [Act.put, PU, i64_w, i32_w]
                      rfl
                    refine pure_ (i := 15) (N := some 84) (v := undef) (a' := ?_) (tf 16 26) rfl rfl (any_of HT_.out (by kernel_rfl)) (fun _ _ _ h => h) (Or.inr ⟨by rfl, rfl⟩) ?_ ?_
                    rotate_left
                    · simp only [Act.put, PU, i64_w, i32_w]
                      rfl
                    refine pure_ (i := 16) (N := some 85) (v := undef) (a' := ?_) (tf 17 26) rfl rfl (any_of HT_.out (by kernel_rfl)) (fun _ _ _ h => h) (Or.inr ⟨by rfl, rfl⟩) ?_ ?_
                    rotate_left
                    · simp only [Act.put, PU, i64_w, i32_w]
                      rfl
                    refine pure_ (i := 17) (N := some 86) (v := undef) (a' := ?_) (tf 18 26) rfl rfl (any_of HT_.out (by kernel_rfl)) (fun _ _ _ h => h) (Or.inr ⟨by rfl, rfl⟩) ?_ ?_
                    rotate_left
                    · simp only [Act.put, PU, i64_w, i32_w]
                      rfl
                    refine pure_ (i := 18) (N := some 87) (v := undef) (a' := ?_) (tf 19 26) rfl rfl (any_of HT_.out (by kernel_rfl)) (fun _ _ _ h => h) (Or.inr ⟨by rfl, rfl⟩) ?_ ?_
                    rotate_left
                    · simp only [Act.put, PU, i64_w, i32_w]
                      rfl
                    refine pure_ (i := 19) (N := some 88) (v := undef) (a' := ?_) (tf 20 26) rfl rfl (any_of HT_.out (by kernel_rfl)) (fun _ _ _ h => h) (Or.inr ⟨by rfl, rfl⟩) ?_ ?_
                    rotate_left
                    · simp only [Act.put, PU, i64_w, i32_w]
                      rfl
                    refine pure_ (i := 20) (N := some 89) (v := undef) (a' := ?_) (tf 21 26) rfl rfl (any_of HT_.out (by kernel_rfl)) (fun _ _ _ h => h) (Or.inr ⟨by rfl, rfl⟩) ?_ ?_
                    rotate_left
                    · simp only [Act.put, PU, i64_w, i32_w]
                      rfl
                    refine pure_ (i := 21) (N := some 90) (v := undef) (a' := ?_) (tf 22 26) rfl rfl (any_of HT_.out (by kernel_rfl)) (fun _ _ _ h => h) (Or.inr ⟨by rfl, rfl⟩) ?_ ?_
                    rotate_left
                    · simp only [Act.put, PU, i64_w, i32_w]
                      rfl
                    refine pure_ (i := 22) (N := some 91) (v := undef) (a' := ?_) (tf 23 26) rfl rfl (any_of HT_.out (by kernel_rfl)) (fun _ _ _ h => h) (Or.inr ⟨by rfl, rfl⟩) ?_ ?_
                    rotate_left
                    · simp only [Act.put, PU, i64_w, i32_w]
                      rfl
                    refine pure_ (i := 23) (N := some 92) (v := undef) (a' := ?_) (tf 24 26) rfl rfl (any_of HT_.out (by kernel_rfl)) (fun _ _ _ h => h) (Or.inr ⟨by rfl, rfl⟩) ?_ ?_
                    rotate_left
                    · simp only [Act.put, PU, i64_w, i32_w]
                      rfl
                    refine pure_ (i := 24) (N := some 93) (v := undef) (a' := ?_) (tf 25 26) rfl rfl (any_of HT_.out (by kernel_rfl)) (fun _ _ _ h => h) (Or.inr ⟨by rfl, rfl⟩) ?_ ?_
                    rotate_left
                    · simp only [Act.put, PU, i64_w, i32_w]
                      rfl
                    refine pure_ (i := 25) (N := some 94) (v := ?_) (a' := ?_) (tf 26 26) rfl rfl (any_of HT_.out (by kernel_rfl)) (fun _ _ _ h => h) (Or.inl ⟨by rfl, ?_⟩) ?_ ?_
                    rotate_left
                    · intro w'
                      go_simp
                      with_reducible rfl
                    rotate_left
                    · simp only [Act.put, PU, i64_w, i32_w]
                      rfl
                    refine done_ (done_of HT_.out (by kernel_rfl)) ?_
                    try go_wp2
                    go_meet
                    case rel => exact ⟨_, (true), (by first | (rw [HR_.out]; done) | rfl | (rw [HR_.out]; rfl) | (simp [HR_.out]; done) | (simp; done) | (simp [*]; done)), H', ⟨by have := HJ3.out; have := HK2.out; first | omega | exact Nat.le_refl _⟩, ⟨by (with_reducible repeat (first | apply Kd.Q_alloc | apply Kd.Q_drewN | apply Kd.Q_drew)); exact HO_7.out⟩, ⟨by (with_reducible repeat (first | apply Kd.V_alloc | apply Kd.V_drewN | apply Kd.V_drew)); exact HO_266002.out⟩, ⟨by (with_reducible repeat (first | apply Kd.V_alloc | apply Kd.V_drewN | apply Kd.V_drew)); exact HO273.out⟩, ⟨by (with_reducible repeat (first | refine blk_drewN ?_ _ | refine blk_drew ?_ | refine blk_alloc ?_ _)); exact BK265.out⟩, ⟨by (with_reducible repeat (first | refine blk_drewN ?_ _ | refine blk_drew ?_ | refine blk_alloc ?_ _)); exact BK278.out⟩, ⟨by (with_reducible repeat (first | refine blk_drewN ?_ _ | refine blk_drew ?_ | refine blk_alloc ?_ _)); exact BK279.out⟩, ⟨LG HB.out (G1 GE265.out (G1 GE278.out (G1 GE279.out G0)))⟩⟩
                  · rw [if_neg c35] at H
                    have c35b0 : ((t277 == 0) != (decide ((x7_2.length : Int) > 0))) = false := by simpa using c35
                    (try (have c35y : ((t277 == 0) == decide (0 < x7_2.length)) = true := by have e_ : decide (0 < x7_2.length) = decide ((x7_2.length : Int) > 0) := decide_eq_decide.mpr (by omega); rw [e_]; revert c35b0; cases (t277 == 0) <;> cases decide ((x7_2.length : Int) > 0) <;> decide))
                    (try (have c35b1 : decide ((t277 == 0) = (decide ((x7_2.length : Int) > 0))) = true := by simpa using c35))
                    (try (have c35b2 : ((t277 == 0) == (decide ((x7_2.length : Int) > 0))) = true := by simpa using c35))
                    clear c35
                    (first | rw [c35b0] | (simp only [i64_w, i32_w]; rw [c35b0]) | skip)
                    by_cases c39 : t277 = 0
                    · rw [if_pos c39] at H
                      have c39b0 : (t277 == 0) = true := beq_iff_eq.mpr c39
                      (try (have c39x : (decide ((x7_2.length : Int) > 0)) = true := by simpa [c39b0] using c35b0))
                      (try (have c39z : decide (0 < x7_2.length) = true := by rw [show decide (0 < x7_2.length) = decide ((x7_2.length : Int) > 0) from decide_eq_decide.mpr (by omega)]; exact c39x))
                      have c39b1 : (t277 != 0) = false := bne_eq_false_iff_eq.mpr c39
                      clear c39
                      by_cases c40 : 0 < (x7_2.length : Int)
                      rotate_left
                      · rw [if_neg c40] at H
                        exact absurd H (by simp)
                      rw [if_pos c40] at H
                      have c40b0 : decide (0 < (x7_2.length : Int)) = true := decide_eq_true c40
                      have c40b1 : decide (0 < x7_2.length) = true := decide_eq_true (by omega)
                      clear c40
                      have H' := Aside0.mk H
                      clear H
                      try go_wp2
                      have n0_ : Aside0 (Kd.Q (Kd.int .i64) 3 ((((((w28.setCell ⟨gb278, 0, none⟩ (.int .i64 t269)).setCell ⟨gb278, 1, none⟩ (.bool t270)).setCell ⟨gb278, 2, none⟩ (.slice Ao32 t271.length co32)).setCell ⟨gb279, 0, none⟩ (.int .i64 t274)).setCell ⟨gb279, 1, none⟩ (.int .i64 t275)).setCell ⟨gb279, 2, none⟩ (.string t276)) w.heap.size (fun _ => True) u7 x7_2) := ⟨by (with_reducible repeat (first | apply Kd.Q_alloc | apply Kd.Q_drewN | apply Kd.Q_drew)); exact Kd.Q_mono (Kd.Q_ms (gs := [gb279, gb278]) (Kd.Q_types (Kd.Q_types HO_7.out BK278.out (by decide)) BK279.out (by decide)) (fun _ hk => N1 (hk.2) (N1 (hk.1.2) (N0)))) (fun _ hk => trivial)⟩
                      have n1_ : Aside0 (Kd.V k36 36 ((((((w28.setCell ⟨gb278, 0, none⟩ (.int .i64 t269)).setCell ⟨gb278, 1, none⟩ (.bool t270)).setCell ⟨gb278, 2, none⟩ (.slice Ao32 t271.length co32)).setCell ⟨gb279, 0, none⟩ (.int .i64 t274)).setCell ⟨gb279, 1, none⟩ (.int .i64 t275)).setCell ⟨gb279, 2, none⟩ (.string t276)) w.heap.size (fun k_ => some k_ ≠ (u7 : Value).ownBlock ∧ k_ ≠ gb265 ∧ k_ ≠ gb278 ∧ k_ ≠ gb279) (.slice Ao25 x266002_2.length co25) x266002_2) := ⟨by (with_reducible repeat (first | apply Kd.V_alloc | apply Kd.V_drewN | apply Kd.V_drew)); exact Kd.V_mono (Kd.V_ms (gs := [gb279, gb278]) (Kd.V_mono (Kd.V_mono HO_266002.out (fun k_ hk => (⟨hk, hk.1.2⟩ : _ ∧ k_ ≠ gb278))) (fun k_ hk => (⟨hk, hk.1.2⟩ : _ ∧ k_ ≠ gb279))) (fun _ hk => N1 (hk.2) (N1 (hk.1.2) (N0)))) (fun _ hk => ⟨hk.1.1.1.1.1, ⟨hk.1.1.1.1.2, ⟨hk.1.1.1.2, hk.1.1.2⟩⟩⟩)⟩
                      have n2_ : Aside0 (Kd.V k36 36 ((((((w28.setCell ⟨gb278, 0, none⟩ (.int .i64 t269)).setCell ⟨gb278, 1, none⟩ (.bool t270)).setCell ⟨gb278, 2, none⟩ (.slice Ao32 t271.length co32)).setCell ⟨gb279, 0, none⟩ (.int .i64 t274)).setCell ⟨gb279, 1, none⟩ (.int .i64 t275)).setCell ⟨gb279, 2, none⟩ (.string t276)) w.heap.size (fun k_ => some k_ ≠ (u7 : Value).ownBlock ∧ k_ ≠ gb265 ∧ k_ ≠ gb278 ∧ k_ ≠ gb279) (.slice Ao32 t271.length co32) t271) := ⟨by (with_reducible repeat (first | apply Kd.V_alloc | apply Kd.V_drewN | apply Kd.V_drew)); exact Kd.V_mono (Kd.V_ms (gs := [gb279, gb278]) (Kd.V_mono (Kd.V_mono HO273.out (fun k_ hk => (⟨hk, hk.1.2⟩ : _ ∧ k_ ≠ gb278))) (fun k_ hk => (⟨hk, hk.1.2⟩ : _ ∧ k_ ≠ gb279))) (fun _ hk => N1 (hk.2) (N1 (hk.1.2) (N0)))) (fun _ hk => ⟨hk.1.1.1.1.1, ⟨hk.1.1.1.1.2, ⟨hk.1.1.1.2, hk.1.1.2⟩⟩⟩)⟩
                      have n3_ : Aside0 (((((((w28.setCell ⟨gb278, 0, none⟩ (.int .i64 t269)).setCell ⟨gb278, 1, none⟩ (.bool t270)).setCell ⟨gb278, 2, none⟩ (.slice Ao32 t271.length co32)).setCell ⟨gb279, 0, none⟩ (.int .i64 t274)).setCell ⟨gb279, 1, none⟩ (.int .i64 t275)).setCell ⟨gb279, 2, none⟩ (.string t276)).heap[gb265]? = some (.cells #[.int .i64 x266000_2, .bool x266001_2, .slice Ao25 x266002_2.length co25] 31 (0, 0))) := ⟨by exact BM BK265.out (N1 NB265_279.out (N1 NB265_278.out N0))⟩
                      have n4_ : Aside0 (((((((w28.setCell ⟨gb278, 0, none⟩ (.int .i64 t269)).setCell ⟨gb278, 1, none⟩ (.bool t270)).setCell ⟨gb278, 2, none⟩ (.slice Ao32 t271.length co32)).setCell ⟨gb279, 0, none⟩ (.int .i64 t274)).setCell ⟨gb279, 1, none⟩ (.int .i64 t275)).setCell ⟨gb279, 2, none⟩ (.string t276)).heap[gb278]? = some (.cells #[.int .i64 t269, .bool t270, .slice Ao32 t271.length co32] 31 (0, 0))) := ⟨by (with_reducible repeat (first | refine blk_drewN ?_ _ | refine blk_drew ?_ | refine blk_alloc ?_ _)); refine blk_far ?_ NB278_279.out _; (with_reducible repeat (first | refine blk_drewN ?_ _ | refine blk_drew ?_ | refine blk_alloc ?_ _)); refine blk_far ?_ NB278_279.out _; (with_reducible repeat (first | refine blk_drewN ?_ _ | refine blk_drew ?_ | refine blk_alloc ?_ _)); refine blk_far ?_ NB278_279.out _; exact BP BK278.out (by rfl)⟩
                      have n5_ : Aside0 (((((((w28.setCell ⟨gb278, 0, none⟩ (.int .i64 t269)).setCell ⟨gb278, 1, none⟩ (.bool t270)).setCell ⟨gb278, 2, none⟩ (.slice Ao32 t271.length co32)).setCell ⟨gb279, 0, none⟩ (.int .i64 t274)).setCell ⟨gb279, 1, none⟩ (.int .i64 t275)).setCell ⟨gb279, 2, none⟩ (.string t276)).heap[gb279]? = some (.cells #[.int .i64 t274, .int .i64 t275, .string t276] 36 (0, 0))) := ⟨by (with_reducible repeat (first | refine blk_drewN ?_ _ | refine blk_drew ?_ | refine blk_alloc ?_ _)); refine blk_put (cs := #[.int .i64 t274, .int .i64 t275, .string (⟨#[]⟩ : ByteArray)]) ?_ 2 _ rfl; (with_reducible repeat (first | refine blk_drewN ?_ _ | refine blk_drew ?_ | refine blk_alloc ?_ _)); refine blk_put (cs := #[.int .i64 t274, .int .i64 0, .string (⟨#[]⟩ : ByteArray)]) ?_ 1 _ rfl; (with_reducible repeat (first | refine blk_drewN ?_ _ | refine blk_drew ?_ | refine blk_alloc ?_ _)); refine blk_put (cs := #[.int .i64 0, .int .i64 0, .string (⟨#[]⟩ : ByteArray)]) ?_ 0 _ rfl; exact BF BK279.out NB279_278.out⟩
                      have n6_ : Aside0 (Below w.heap.size w ((((((w28.setCell ⟨gb278, 0, none⟩ (.int .i64 t269)).setCell ⟨gb278, 1, none⟩ (.bool t270)).setCell ⟨gb278, 2, none⟩ (.slice Ao32 t271.length co32)).setCell ⟨gb279, 0, none⟩ (.int .i64 t274)).setCell ⟨gb279, 1, none⟩ (.int .i64 t275)).setCell ⟨gb279, 2, none⟩ (.string t276))) := ⟨LG HB.out (G1 GE265.out (G1 GE278.out (G1 GE279.out G0)))⟩
                      (try clear HO_7)
                      (try clear HO_266002)
                      (try clear HO273)
                      (try clear BK265)
                      (try clear BK278)
                      (try clear BK279)
                      (try clear HB)
                      generalize ((((((w28.setCell ⟨gb278, 0, none⟩ (.int .i64 t269)).setCell ⟨gb278, 1, none⟩ (.bool t270)).setCell ⟨gb278, 2, none⟩ (.slice Ao32 t271.length co32)).setCell ⟨gb279, 0, none⟩ (.int .i64 t274)).setCell ⟨gb279, 1, none⟩ (.int .i64 t275)).setCell ⟨gb279, 2, none⟩ (.string t276)) = w41 at n0_ n1_ n2_ n3_ n4_ n5_ n6_ ⊢
                      have HO_7 := n0_
                      have HO_266002 := n1_
                      have HO273 := n2_
                      have BK265 := n3_
                      have BK278 := n4_
                      have BK279 := n5_
                      have HB := n6_
                      clear n0_ n1_ n2_ n3_ n4_ n5_ n6_
                      have n0_ := Aside0.mk (Kd.Q_drew HO_7.out)
                      have n1_ := Aside0.mk (Kd.V_drew HO_266002.out)
                      have n2_ := Aside0.mk (Kd.V_drew HO273.out)
                      have n3_ := Aside0.mk (blk_drew BK265.out)
                      have n4_ := Aside0.mk (blk_drew BK278.out)
                      have n5_ := Aside0.mk (blk_drew BK279.out)
                      have n6_ := Aside0.mk (below_drew1 HB.out)
                      clear HO_7
                      clear HO_266002
                      clear HO273
                      clear BK265
                      clear BK278
                      clear BK279
                      clear HB
                      have HO_7 := n0_
                      have HO_266002 := n1_
                      have HO273 := n2_
                      have BK265 := n3_
                      have BK278 := n4_
                      have BK279 := n5_
                      have HB := n6_
                      clear n0_ n1_ n2_ n3_ n4_ n5_ n6_
                      obtain ⟨Ao43, co43, eo43, _⟩ := Kd.Q_slice HO_7.out
                      (first | subst eo43 | (injection eo43 with f1_ f2_ f3_; have f4_ := f1_.symm; have f5_ := f3_.symm; clear f1_ f2_ f3_; subst f4_; subst f5_))
                      have p280 : 0 ≤ (0 : Int) := (by omega)
                      have q280 : 0 < (x7_2.length : Int) := of_decide_eq_true (by first | (with_reducible assumption) | assumption)
                      obtain ⟨ad280, e280, hx280_0⟩ := Kd.at_int (Kd.Q_reads' HO_7.out).2.2 0 p280 q280
                      cases e280
                      have qi280 : (0 < x7_2.length) = True := eq_true (by omega)
                      (try rw [show ((0 : Int)).toNat = 0 from rfl] at hx280_0)
                      (try rw [Addr.add_zero'] at hx280_0)
                      replace p280 := eq_true p280
                      replace q280 := eq_true q280
                      refine start_ (n := 26) (S := fun w' => w'.cell? ⟨gb279, 0, none⟩ = some (.int .i64 t274) ∧ w'.cell? ⟨gb279, 1, none⟩ = some (.int .i64 t275) ∧ w'.cell? ⟨gb279, 2, none⟩ = some (.string t276) ∧ w'.cell? ad280 = some (.int .i64 (rd x7_2 0))) (ds := []) (tf 0 26) (by kernel_rfl) rfl rfl ⟨(blk_cell BK279.out 0).trans rfl, (blk_cell BK279.out 1).trans rfl, (blk_cell BK279.out 2).trans rfl, hx280_0⟩ (fun hHeld => ?_); refine with_tabW hopperlaw08_PipeRows.tab10 hopperlaw08_PipeRows.bits10 (fun HT_ HW_ => ?_)
                      generalize w41.drew = w42 at HO_7 HO_266002 HO273 BK265 BK278 BK279 HB hx280_0 hHeld ⊢
                      refine pure_ (i := 0) (N := some 69) (v := ?_) (a' := ?_) (tf 1 26) rfl rfl (any_of HT_.out (by kernel_rfl)) (fun _ _ _ h => h) (Or.inl ⟨by rfl, ?_⟩) ?_ ?_
                      rotate_left
                      · intro w'
                        go_simp
                        with_reducible rfl
                      rotate_left
                      · simp only [Act.put, PU, i64_w, i32_w]
                        rfl
                      refine pure_ (i := 1) (N := some 70) (v := ?_) (a' := ?_) (tf 2 26) rfl rfl (any_of HT_.out (by kernel_rfl)) (fun _ _ _ h => h) (Or.inl ⟨by rfl, ?_⟩) ?_ ?_
                      rotate_left
                      · intro w'
                        go_simp
                        with_reducible rfl
                      rotate_left
                      · simp only [Act.put, PU, i64_w, i32_w]
                        rfl
                      refine pure_ (i := 2) (N := some 71) (v := ?_) (a' := ?_) (tf 3 26) rfl rfl (any_of HT_.out (by kernel_rfl)) (fun _ _ _ h => h) (Or.inl ⟨by rfl, ?_⟩) ?_ ?_
                      rotate_left
                      · intro w'
                        go_simp
                        with_reducible rfl
                      rotate_left
                      · simp only [Act.put, PU, i64_w, i32_w]
                        rfl
                      refine pure_ (i := 3) (N := some 72) (v := ?_) (a' := ?_) (tf 4 26) rfl rfl (any_of HT_.out (by kernel_rfl)) (fun _ _ _ h => h) (Or.inl ⟨by rfl, ?_⟩) ?_ ?_
                      rotate_left
                      · intro w'
                        go_simp
                        with_reducible rfl
                      rotate_left
                      · simp only [Act.put, PU, i64_w, i32_w]
                        rfl
                      refine pure_ (i := 4) (N := some 73) (v := ?_) (a' := ?_) (tf 5 26) rfl rfl (any_of HT_.out (by kernel_rfl)) (fun _ _ _ h => h) (Or.inl ⟨by rfl, ?_⟩) ?_ ?_
                      rotate_left
                      · intro w'
                        go_simp
                        with_reducible rfl
                      rotate_left
                      · simp only [Act.put, PU, i64_w, i32_w]
                        rfl
                      refine pure_ (i := 5) (N := some 74) (v := ?_) (a' := ?_) (tf 6 26) rfl rfl (any_of HT_.out (by kernel_rfl)) (fun _ _ _ h => h) (Or.inl ⟨by rfl, ?_⟩) ?_ ?_
                      rotate_left
                      · intro w'
                        go_simp
                        with_reducible rfl
                      rotate_left
                      · simp only [Act.put, PU, i64_w, i32_w]
                        rfl
                      refine pure_ (i := 6) (N := some 75) (v := ?_) (a' := ?_) (tf 7 26) rfl rfl (any_of HT_.out (by kernel_rfl)) (fun _ _ _ h => h) (Or.inl ⟨by rfl, ?_⟩) ?_ ?_
                      rotate_left
                      · intro w'
                        go_simp
                        with_reducible rfl
                      rotate_left
                      · simp only [Act.put, PU, i64_w, i32_w]
                        rfl
                      refine pure_ (i := 7) (N := some 76) (v := ?_) (a' := ?_) (tf 8 26) rfl rfl (any_of HT_.out (by kernel_rfl)) (fun _ _ _ h => h) (Or.inl ⟨by rfl, ?_⟩) ?_ ?_
                      rotate_left
                      · intro w'
                        go_simp
                        with_reducible rfl
                      rotate_left
                      · simp only [Act.put, PU, i64_w, i32_w]
                        rfl
                      refine pure_ (i := 8) (N := some 77) (v := ?_) (a' := ?_) (tf 9 26) rfl rfl (any_of HT_.out (by kernel_rfl)) (fun _ _ _ h => h) (Or.inl ⟨by rfl, ?_⟩) ?_ ?_
                      rotate_left
                      · intro w'
                        go_simp
                        with_reducible rfl
                      rotate_left
                      · simp only [Act.put, PU, i64_w, i32_w]
                        rfl
                      refine pure_ (i := 9) (N := some 78) (v := ?_) (a' := ?_) (tf 10 26) rfl rfl (any_of HT_.out (by kernel_rfl)) (fun _ _ _ h => h) (Or.inl ⟨by rfl, ?_⟩) ?_ ?_
                      rotate_left
                      · intro w'
                        go_simp
                        with_reducible rfl
                      rotate_left
                      · simp only [Act.put, PU, i64_w, i32_w]
                        rfl
                      refine pure_ (i := 10) (N := some 79) (v := undef) (a' := ?_) (tf 11 26) rfl rfl (any_of HT_.out (by kernel_rfl)) (fun _ _ _ h => h) (Or.inr ⟨by rfl, rfl⟩) ?_ ?_
                      rotate_left
                      · simp only [Act.put, PU, i64_w, i32_w]
                        rfl
                      refine pure_ (i := 11) (N := some 80) (v := undef) (a' := ?_) (tf 12 26) rfl rfl (any_of HT_.out (by kernel_rfl)) (fun _ _ _ h => h) (Or.inr ⟨by rfl, rfl⟩) ?_ ?_
                      rotate_left
                      · simp only [Act.put, PU, i64_w, i32_w]
                        rfl
                      refine pure_ (i := 12) (N := some 81) (v := ?_) (a' := ?_) (tf 13 26) rfl rfl (any_of HT_.out (by kernel_rfl)) (fun _ _ _ h => h) (Or.inl ⟨by rfl, ?_⟩) ?_ ?_
                      rotate_left
                      · intro w'
                        go_simp
                        with_reducible rfl
                      rotate_left
                      · simp only [Act.put, PU, i64_w, i32_w]
                        rfl
                      refine pure_ (i := 13) (N := some 82) (v := ?_) (a' := ?_) (tf 14 26) rfl rfl (any_of HT_.out (by kernel_rfl)) (fun _ _ _ h => h) (Or.inl ⟨by rfl, ?_⟩) ?_ ?_
                      rotate_left
                      · intro w'
                        go_simp
                        with_reducible rfl
                      rotate_left
                      · simp only [Act.put, PU, i64_w, i32_w]
                        rfl
                      refine pure_ (i := 14) (N := some 83) (v := ?_) (a' := ?_) (tf 15 26) rfl rfl (any_of HT_.out (by kernel_rfl)) (fun _ _ _ h => h) (Or.inl ⟨by rfl, ?_⟩) ?_ ?_
                      rotate_left
                      · intro w'
                        go_simp
                        with_reducible rfl
                      rotate_left
                      · simp only [Act.put, PU, i64_w, i32_w]
                        rfl
                      refine pure_ (i := 15) (N := some 84) (v := ?_) (a' := ?_) (tf 16 26) rfl rfl (any_of HT_.out (by kernel_rfl)) (fun _ _ _ h => h) (Or.inl ⟨by rfl, ?_⟩) ?_ ?_
                      rotate_left
                      · intro w'
                        go_simp
                        with_reducible rfl
                      rotate_left
                      · simp only [Act.put, PU, i64_w, i32_w]
                        rfl
                      refine pure_ (i := 16) (N := some 85) (v := ?_) (a' := ?_) (tf 17 26) rfl rfl (any_of HT_.out (by kernel_rfl)) (fun _ _ _ h => h) (Or.inl ⟨by rfl, ?_⟩) ?_ ?_
                      rotate_left
                      · intro w'
                        go_simp
                        with_reducible rfl
                      rotate_left
                      · simp only [Act.put, PU, i64_w, i32_w]
                        rfl
                      refine pure_ (i := 17) (N := some 86) (v := ?_) (a' := ?_) (tf 18 26) rfl rfl (any_of HT_.out (by kernel_rfl)) (fun _ _ _ h => h) (Or.inl ⟨by rfl, ?_⟩) ?_ ?_
                      rotate_left
                      · intro w'
                        go_simp
                        with_reducible rfl
                      rotate_left
                      · simp only [Act.put, PU, i64_w, i32_w]
                        rfl
                      refine pure_ (i := 18) (N := some 87) (v := ?_) (a' := ?_) (tf 19 26) rfl rfl (any_of HT_.out (by kernel_rfl)) (fun _ _ _ h => h) (Or.inl ⟨by rfl, ?_⟩) ?_ ?_
                      rotate_left
                      · intro w'
                        go_simp
                        with_reducible rfl
                      rotate_left
                      · simp only [Act.put, PU, i64_w, i32_w]
                        rfl
                      refine pure_ (i := 20) (N := some 89) (v := ?_) (a' := ?_) #[true, true, true, true, true, true, true, true, true, true, true, true, true, true, true, true, true, true, true, false, true, false, false, false, false, false] rfl rfl (any_of HT_.out (by kernel_rfl)) (fun _ _ _ h => h) (Or.inl ⟨by rfl, ?_⟩) ?_ ?_
                      rotate_left
                      · intro w'
                        go_simp
                        with_reducible rfl
                      rotate_left
                      · simp only [Act.put, PU, i64_w, i32_w]
                        rfl
                      refine pure_ (i := 21) (N := some 90) (v := ?_) (a' := ?_) #[true, true, true, true, true, true, true, true, true, true, true, true, true, true, true, true, true, true, true, false, true, true, false, false, false, false] rfl rfl (any_of HT_.out (by kernel_rfl)) (fun _ _ _ h => h) (Or.inl ⟨by rfl, ?_⟩) ?_ ?_
                      rotate_left
                      · intro w'
                        go_simp
                        with_reducible rfl
                      rotate_left
                      · simp only [Act.put, PU, i64_w, i32_w]
                        rfl
                      refine take_ (i := 19) (N := some 88) (v := ?_) (a' := ?_) (tf 22 26) rfl rfl (take_ofW HT_.out HW_.out (by kernel_rfl)) (fun _ _ _ h => h) (Or.inl ⟨by rfl, ?_⟩) hHeld ?_ ?_
                      rotate_left
                      · rintro w' ⟨s0, s1, s2, s3⟩
                        go_simp
                        with_reducible rfl
                      rotate_left
                      · simp only [Act.put, PU, i64_w, i32_w]
                        rfl
                      refine take_ (i := 22) (N := some 91) (v := ?_) (a' := ?_) (tf 23 26) rfl rfl (take_ofW HT_.out HW_.out (by kernel_rfl)) (fun _ _ _ h => h) (Or.inl ⟨by rfl, ?_⟩) hHeld ?_ ?_
                      rotate_left
                      · rintro w' ⟨s0, s1, s2, s3⟩
                        go_simp
                        with_reducible rfl
                      rotate_left
                      · simp only [Act.put, PU, i64_w, i32_w]
                        rfl
                      refine pure_ (i := 23) (N := some 92) (v := ?_) (a' := ?_) (tf 24 26) rfl rfl (any_of HT_.out (by kernel_rfl)) (fun _ _ _ h => h) (Or.inl ⟨by rfl, ?_⟩) ?_ ?_
                      rotate_left
                      · intro w'
                        go_simp
                        with_reducible rfl
                      rotate_left
                      · simp only [Act.put, PU, i64_w, i32_w]
                        rfl
                      refine pure_ (i := 24) (N := some 93) (v := ?_) (a' := ?_) (tf 25 26) rfl rfl (any_of HT_.out (by kernel_rfl)) (fun _ _ _ h => h) (Or.inl ⟨by rfl, ?_⟩) ?_ ?_
                      rotate_left
                      · intro w'
                        go_simp
                        with_reducible rfl
                      rotate_left
                      · simp only [Act.put, PU, i64_w, i32_w]
                        rfl
                      refine pure_ (i := 25) (N := some 94) (v := ?_) (a' := ?_) (tf 26 26) rfl rfl (any_of HT_.out (by kernel_rfl)) (fun _ _ _ h => h) (Or.inl ⟨by rfl, ?_⟩) ?_ ?_
                      rotate_left
                      · intro w'
                        go_simp
                        with_reducible rfl
                      rotate_left
                      · simp only [Act.put, PU, i64_w, i32_w]
                        rfl
                      refine done_ (done_of HT_.out (by kernel_rfl)) ?_
                      try go_wp2
                      go_meet
                      case rel => exact ⟨_, ((t275 != (rd x7_2 0))), (by first | (rw [HR_.out]; done) | rfl | (rw [HR_.out]; rfl) | (simp [HR_.out]; done) | (simp; done) | (simp [*]; done)), H', ⟨by have := HJ3.out; have := HK2.out; first | omega | exact Nat.le_refl _⟩, ⟨by (with_reducible repeat (first | apply Kd.Q_alloc | apply Kd.Q_drewN | apply Kd.Q_drew)); exact HO_7.out⟩, ⟨by (with_reducible repeat (first | apply Kd.V_alloc | apply Kd.V_drewN | apply Kd.V_drew)); exact HO_266002.out⟩, ⟨by (with_reducible repeat (first | apply Kd.V_alloc | apply Kd.V_drewN | apply Kd.V_drew)); exact HO273.out⟩, ⟨by (with_reducible repeat (first | refine blk_drewN ?_ _ | refine blk_drew ?_ | refine blk_alloc ?_ _)); exact BK265.out⟩, ⟨by (with_reducible repeat (first | refine blk_drewN ?_ _ | refine blk_drew ?_ | refine blk_alloc ?_ _)); exact BK278.out⟩, ⟨by (with_reducible repeat (first | refine blk_drewN ?_ _ | refine blk_drew ?_ | refine blk_alloc ?_ _)); exact BK279.out⟩, ⟨LG HB.out (G1 GE265.out (G1 GE278.out (G1 GE279.out G0)))⟩⟩
                    · rw [if_neg c39] at H
                      have c39b0 : (t277 == 0) = false := beq_eq_false_iff_ne.mpr c39
                      (try (have c39x : (decide ((x7_2.length : Int) > 0)) = false := by simpa [c39b0] using c35b0))
                      (try (have c39z : decide (0 < x7_2.length) = false := by rw [show decide (0 < x7_2.length) = decide ((x7_2.length : Int) > 0) from decide_eq_decide.mpr (by omega)]; exact c39x))
                      have c39b1 : (t277 != 0) = true := bne_iff_ne.mpr c39
                      by_cases c44 : t277 = 7
                      · rw [if_pos c44] at H
                        have c44b0 : (t277 == 7) = true := beq_iff_eq.mpr c44
                        have c44b1 : (t277 != 7) = false := bne_eq_false_iff_eq.mpr c44
                        clear c44
                        have H' := Aside0.mk H
                        clear H
                        try go_wp2
                        have n0_ : Aside0 (Kd.Q (Kd.int .i64) 3 ((((((w28.setCell ⟨gb278, 0, none⟩ (.int .i64 t269)).setCell ⟨gb278, 1, none⟩ (.bool t270)).setCell ⟨gb278, 2, none⟩ (.slice Ao32 t271.length co32)).setCell ⟨gb279, 0, none⟩ (.int .i64 t274)).setCell ⟨gb279, 1, none⟩ (.int .i64 t275)).setCell ⟨gb279, 2, none⟩ (.string t276)) w.heap.size (fun _ => True) u7 x7_2) := ⟨by (with_reducible repeat (first | apply Kd.Q_alloc | apply Kd.Q_drewN | apply Kd.Q_drew)); exact Kd.Q_mono (Kd.Q_ms (gs := [gb279, gb278]) (Kd.Q_types (Kd.Q_types HO_7.out BK278.out (by decide)) BK279.out (by decide)) (fun _ hk => N1 (hk.2) (N1 (hk.1.2) (N0)))) (fun _ hk => trivial)⟩
                        have n1_ : Aside0 (Kd.V k36 36 ((((((w28.setCell ⟨gb278, 0, none⟩ (.int .i64 t269)).setCell ⟨gb278, 1, none⟩ (.bool t270)).setCell ⟨gb278, 2, none⟩ (.slice Ao32 t271.length co32)).setCell ⟨gb279, 0, none⟩ (.int .i64 t274)).setCell ⟨gb279, 1, none⟩ (.int .i64 t275)).setCell ⟨gb279, 2, none⟩ (.string t276)) w.heap.size (fun k_ => some k_ ≠ (u7 : Value).ownBlock ∧ k_ ≠ gb265 ∧ k_ ≠ gb278 ∧ k_ ≠ gb279) (.slice Ao25 x266002_2.length co25) x266002_2) := ⟨by (with_reducible repeat (first | apply Kd.V_alloc | apply Kd.V_drewN | apply Kd.V_drew)); exact Kd.V_mono (Kd.V_ms (gs := [gb279, gb278]) (Kd.V_mono (Kd.V_mono HO_266002.out (fun k_ hk => (⟨hk, hk.1.2⟩ : _ ∧ k_ ≠ gb278))) (fun k_ hk => (⟨hk, hk.1.2⟩ : _ ∧ k_ ≠ gb279))) (fun _ hk => N1 (hk.2) (N1 (hk.1.2) (N0)))) (fun _ hk => ⟨hk.1.1.1.1.1, ⟨hk.1.1.1.1.2, ⟨hk.1.1.1.2, hk.1.1.2⟩⟩⟩)⟩
                        have n2_ : Aside0 (Kd.V k36 36 ((((((w28.setCell ⟨gb278, 0, none⟩ (.int .i64 t269)).setCell ⟨gb278, 1, none⟩ (.bool t270)).setCell ⟨gb278, 2, none⟩ (.slice Ao32 t271.length co32)).setCell ⟨gb279, 0, none⟩ (.int .i64 t274)).setCell ⟨gb279, 1, none⟩ (.int .i64 t275)).setCell ⟨gb279, 2, none⟩ (.string t276)) w.heap.size (fun k_ => some k_ ≠ (u7 : Value).ownBlock ∧ k_ ≠ gb265 ∧ k_ ≠ gb278 ∧ k_ ≠ gb279) (.slice Ao32 t271.length co32) t271) := ⟨by (with_reducible repeat (first | apply Kd.V_alloc | apply Kd.V_drewN | apply Kd.V_drew)); exact Kd.V_mono (Kd.V_ms (gs := [gb279, gb278]) (Kd.V_mono (Kd.V_mono HO273.out (fun k_ hk => (⟨hk, hk.1.2⟩ : _ ∧ k_ ≠ gb278))) (fun k_ hk => (⟨hk, hk.1.2⟩ : _ ∧ k_ ≠ gb279))) (fun _ hk => N1 (hk.2) (N1 (hk.1.2) (N0)))) (fun _ hk => ⟨hk.1.1.1.1.1, ⟨hk.1.1.1.1.2, ⟨hk.1.1.1.2, hk.1.1.2⟩⟩⟩)⟩
                        have n3_ : Aside0 (((((((w28.setCell ⟨gb278, 0, none⟩ (.int .i64 t269)).setCell ⟨gb278, 1, none⟩ (.bool t270)).setCell ⟨gb278, 2, none⟩ (.slice Ao32 t271.length co32)).setCell ⟨gb279, 0, none⟩ (.int .i64 t274)).setCell ⟨gb279, 1, none⟩ (.int .i64 t275)).setCell ⟨gb279, 2, none⟩ (.string t276)).heap[gb265]? = some (.cells #[.int .i64 x266000_2, .bool x266001_2, .slice Ao25 x266002_2.length co25] 31 (0, 0))) := ⟨by exact BM BK265.out (N1 NB265_279.out (N1 NB265_278.out N0))⟩
                        have n4_ : Aside0 (((((((w28.setCell ⟨gb278, 0, none⟩ (.int .i64 t269)).setCell ⟨gb278, 1, none⟩ (.bool t270)).setCell ⟨gb278, 2, none⟩ (.slice Ao32 t271.length co32)).setCell ⟨gb279, 0, none⟩ (.int .i64 t274)).setCell ⟨gb279, 1, none⟩ (.int .i64 t275)).setCell ⟨gb279, 2, none⟩ (.string t276)).heap[gb278]? = some (.cells #[.int .i64 t269, .bool t270, .slice Ao32 t271.length co32] 31 (0, 0))) := ⟨by (with_reducible repeat (first | refine blk_drewN ?_ _ | refine blk_drew ?_ | refine blk_alloc ?_ _)); refine blk_far ?_ NB278_279.out _; (with_reducible repeat (first | refine blk_drewN ?_ _ | refine blk_drew ?_ | refine blk_alloc ?_ _)); refine blk_far ?_ NB278_279.out _; (with_reducible repeat (first | refine blk_drewN ?_ _ | refine blk_drew ?_ | refine blk_alloc ?_ _)); refine blk_far ?_ NB278_279.out _; exact BP BK278.out (by rfl)⟩
                        have n5_ : Aside0 (((((((w28.setCell ⟨gb278, 0, none⟩ (.int .i64 t269)).setCell ⟨gb278, 1, none⟩ (.bool t270)).setCell ⟨gb278, 2, none⟩ (.slice Ao32 t271.length co32)).setCell ⟨gb279, 0, none⟩ (.int .i64 t274)).setCell ⟨gb279, 1, none⟩ (.int .i64 t275)).setCell ⟨gb279, 2, none⟩ (.string t276)).heap[gb279]? = some (.cells #[.int .i64 t274, .int .i64 t275, .string t276] 36 (0, 0))) := ⟨by (with_reducible repeat (first | refine blk_drewN ?_ _ | refine blk_drew ?_ | refine blk_alloc ?_ _)); refine blk_put (cs := #[.int .i64 t274, .int .i64 t275, .string (⟨#[]⟩ : ByteArray)]) ?_ 2 _ rfl; (with_reducible repeat (first | refine blk_drewN ?_ _ | refine blk_drew ?_ | refine blk_alloc ?_ _)); refine blk_put (cs := #[.int .i64 t274, .int .i64 0, .string (⟨#[]⟩ : ByteArray)]) ?_ 1 _ rfl; (with_reducible repeat (first | refine blk_drewN ?_ _ | refine blk_drew ?_ | refine blk_alloc ?_ _)); refine blk_put (cs := #[.int .i64 0, .int .i64 0, .string (⟨#[]⟩ : ByteArray)]) ?_ 0 _ rfl; exact BF BK279.out NB279_278.out⟩
                        have n6_ : Aside0 (Below w.heap.size w ((((((w28.setCell ⟨gb278, 0, none⟩ (.int .i64 t269)).setCell ⟨gb278, 1, none⟩ (.bool t270)).setCell ⟨gb278, 2, none⟩ (.slice Ao32 t271.length co32)).setCell ⟨gb279, 0, none⟩ (.int .i64 t274)).setCell ⟨gb279, 1, none⟩ (.int .i64 t275)).setCell ⟨gb279, 2, none⟩ (.string t276))) := ⟨LG HB.out (G1 GE265.out (G1 GE278.out (G1 GE279.out G0)))⟩
                        (try clear HO_7)
                        (try clear HO_266002)
                        (try clear HO273)
                        (try clear BK265)
                        (try clear BK278)
                        (try clear BK279)
                        (try clear HB)
                        generalize ((((((w28.setCell ⟨gb278, 0, none⟩ (.int .i64 t269)).setCell ⟨gb278, 1, none⟩ (.bool t270)).setCell ⟨gb278, 2, none⟩ (.slice Ao32 t271.length co32)).setCell ⟨gb279, 0, none⟩ (.int .i64 t274)).setCell ⟨gb279, 1, none⟩ (.int .i64 t275)).setCell ⟨gb279, 2, none⟩ (.string t276)) = w45 at n0_ n1_ n2_ n3_ n4_ n5_ n6_ ⊢
                        have HO_7 := n0_
                        have HO_266002 := n1_
                        have HO273 := n2_
                        have BK265 := n3_
                        have BK278 := n4_
                        have BK279 := n5_
                        have HB := n6_
                        clear n0_ n1_ n2_ n3_ n4_ n5_ n6_
                        have n0_ := Aside0.mk (Kd.Q_drew HO_7.out)
                        have n1_ := Aside0.mk (Kd.V_drew HO_266002.out)
                        have n2_ := Aside0.mk (Kd.V_drew HO273.out)
                        have n3_ := Aside0.mk (blk_drew BK265.out)
                        have n4_ := Aside0.mk (blk_drew BK278.out)
                        have n5_ := Aside0.mk (blk_drew BK279.out)
                        have n6_ := Aside0.mk (below_drew1 HB.out)
                        clear HO_7
                        clear HO_266002
                        clear HO273
                        clear BK265
                        clear BK278
                        clear BK279
                        clear HB
                        have HO_7 := n0_
                        have HO_266002 := n1_
                        have HO273 := n2_
                        have BK265 := n3_
                        have BK278 := n4_
                        have BK279 := n5_
                        have HB := n6_
                        clear n0_ n1_ n2_ n3_ n4_ n5_ n6_
                        obtain ⟨Ao47, co47, eo47, _⟩ := Kd.Q_slice HO_7.out
                        (first | subst eo47 | (injection eo47 with f1_ f2_ f3_; have f4_ := f1_.symm; have f5_ := f3_.symm; clear f1_ f2_ f3_; subst f4_; subst f5_))
                        refine start_ (n := 26) (S := fun w' => True) (ds := []) (tf 0 26) (by kernel_rfl) rfl rfl trivial (fun hHeld => ?_); refine with_tabW hopperlaw08_PipeRows.tab10 hopperlaw08_PipeRows.bits10 (fun HT_ HW_ => ?_)
                        generalize w45.drew = w46 at HO_7 HO_266002 HO273 BK265 BK278 BK279 HB hHeld ⊢
                        refine pure_ (i := 0) (N := some 69) (v := ?_) (a' := ?_) (tf 1 26) rfl rfl (any_of HT_.out (by kernel_rfl)) (fun _ _ _ h => h) (Or.inl ⟨by rfl, ?_⟩) ?_ ?_
                        rotate_left
                        · intro w'
                          go_simp
                          with_reducible rfl
                        rotate_left
                        · simp only [Act.put, PU, i64_w, i32_w]
                          rfl
                        refine pure_ (i := 1) (N := some 70) (v := ?_) (a' := ?_) (tf 2 26) rfl rfl (any_of HT_.out (by kernel_rfl)) (fun _ _ _ h => h) (Or.inl ⟨by rfl, ?_⟩) ?_ ?_
                        rotate_left
                        · intro w'
                          go_simp
                          with_reducible rfl
                        rotate_left
                        · simp only [Act.put, PU, i64_w, i32_w]
                          rfl
                        refine pure_ (i := 2) (N := some 71) (v := ?_) (a' := ?_) (tf 3 26) rfl rfl (any_of HT_.out (by kernel_rfl)) (fun _ _ _ h => h) (Or.inl ⟨by rfl, ?_⟩) ?_ ?_
                        rotate_left
                        · intro w'
                          go_simp
                          with_reducible rfl
                        rotate_left
                        · simp only [Act.put, PU, i64_w, i32_w]
                          rfl
                        refine pure_ (i := 3) (N := some 72) (v := ?_) (a' := ?_) (tf 4 26) rfl rfl (any_of HT_.out (by kernel_rfl)) (fun _ _ _ h => h) (Or.inl ⟨by rfl, ?_⟩) ?_ ?_
                        rotate_left
                        · intro w'
                          go_simp
                          with_reducible rfl
                        rotate_left
                        · simp only [Act.put, PU, i64_w, i32_w]
                          rfl
                        refine pure_ (i := 4) (N := some 73) (v := ?_) (a' := ?_) (tf 5 26) rfl rfl (any_of HT_.out (by kernel_rfl)) (fun _ _ _ h => h) (Or.inl ⟨by rfl, ?_⟩) ?_ ?_
                        rotate_left
                        · intro w'
                          go_simp
                          with_reducible rfl
                        rotate_left
                        · simp only [Act.put, PU, i64_w, i32_w]
                          rfl
                        refine pure_ (i := 5) (N := some 74) (v := ?_) (a' := ?_) (tf 6 26) rfl rfl (any_of HT_.out (by kernel_rfl)) (fun _ _ _ h => h) (Or.inl ⟨by rfl, ?_⟩) ?_ ?_
                        rotate_left
                        · intro w'
                          go_simp
                          with_reducible rfl
                        rotate_left
                        · simp only [Act.put, PU, i64_w, i32_w]
                          rfl
                        refine pure_ (i := 6) (N := some 75) (v := ?_) (a' := ?_) (tf 7 26) rfl rfl (any_of HT_.out (by kernel_rfl)) (fun _ _ _ h => h) (Or.inl ⟨by rfl, ?_⟩) ?_ ?_
                        rotate_left
                        · intro w'
                          go_simp
                          with_reducible rfl
                        rotate_left
                        · simp only [Act.put, PU, i64_w, i32_w]
                          rfl
                        refine pure_ (i := 7) (N := some 76) (v := ?_) (a' := ?_) (tf 8 26) rfl rfl (any_of HT_.out (by kernel_rfl)) (fun _ _ _ h => h) (Or.inl ⟨by rfl, ?_⟩) ?_ ?_
                        rotate_left
                        · intro w'
                          go_simp
                          with_reducible rfl
                        rotate_left
                        · simp only [Act.put, PU, i64_w, i32_w]
                          rfl
                        refine pure_ (i := 8) (N := some 77) (v := ?_) (a' := ?_) (tf 9 26) rfl rfl (any_of HT_.out (by kernel_rfl)) (fun _ _ _ h => h) (Or.inl ⟨by rfl, ?_⟩) ?_ ?_
                        rotate_left
                        · intro w'
                          go_simp
                          with_reducible rfl
                        rotate_left
                        · simp only [Act.put, PU, i64_w, i32_w]
                          rfl
                        refine pure_ (i := 9) (N := some 78) (v := ?_) (a' := ?_) (tf 10 26) rfl rfl (any_of HT_.out (by kernel_rfl)) (fun _ _ _ h => h) (Or.inl ⟨by rfl, ?_⟩) ?_ ?_
                        rotate_left
                        · intro w'
                          go_simp
                          with_reducible rfl
                        rotate_left
                        · simp only [Act.put, PU, i64_w, i32_w]
                          rfl
                        refine pure_ (i := 10) (N := some 79) (v := ?_) (a' := ?_) (tf 11 26) rfl rfl (any_of HT_.out (by kernel_rfl)) (fun _ _ _ h => h) (Or.inl ⟨by rfl, ?_⟩) ?_ ?_
                        rotate_left
                        · intro w'
                          go_simp
                          with_reducible rfl
                        rotate_left
                        · simp only [Act.put, PU, i64_w, i32_w]
                          rfl
                        refine pure_ (i := 11) (N := some 80) (v := ?_) (a' := ?_) (tf 12 26) rfl rfl (any_of HT_.out (by kernel_rfl)) (fun _ _ _ h => h) (Or.inl ⟨by rfl, ?_⟩) ?_ ?_
                        rotate_left
                        · intro w'
                          go_simp
                          with_reducible rfl
                        rotate_left
                        · simp only [Act.put, PU, i64_w, i32_w]
                          rfl
                        refine pure_ (i := 12) (N := some 81) (v := ?_) (a' := ?_) (tf 13 26) rfl rfl (any_of HT_.out (by kernel_rfl)) (fun _ _ _ h => h) (Or.inl ⟨by rfl, ?_⟩) ?_ ?_
                        rotate_left
                        · intro w'
                          go_simp
                          with_reducible rfl
                        rotate_left
                        · simp only [Act.put, PU, i64_w, i32_w]
                          rfl
                        refine pure_ (i := 13) (N := some 82) (v := ?_) (a' := ?_) (tf 14 26) rfl rfl (any_of HT_.out (by kernel_rfl)) (fun _ _ _ h => h) (Or.inl ⟨by rfl, ?_⟩) ?_ ?_
                        rotate_left
                        · intro w'
                          go_simp
                          with_reducible rfl
                        rotate_left
                        · simp only [Act.put, PU, i64_w, i32_w]
                          rfl
                        refine pure_ (i := 14) (N := some 83) (v := ?_) (a' := ?_) (tf 15 26) rfl rfl (any_of HT_.out (by kernel_rfl)) (fun _ _ _ h => h) (Or.inl ⟨by rfl, ?_⟩) ?_ ?_
                        rotate_left
                        · intro w'
                          go_simp
                          with_reducible rfl
                        rotate_left
                        · simp only [Act.put, PU, i64_w, i32_w]
                          rfl
                        refine pure_ (i := 15) (N := some 84) (v := ?_) (a' := ?_) (tf 16 26) rfl rfl (any_of HT_.out (by kernel_rfl)) (fun _ _ _ h => h) (Or.inl ⟨by rfl, ?_⟩) ?_ ?_
                        rotate_left
                        · intro w'
                          go_simp
                          with_reducible rfl
                        rotate_left
                        · simp only [Act.put, PU, i64_w, i32_w]
                          rfl
                        refine pure_ (i := 16) (N := some 85) (v := ?_) (a' := ?_) (tf 17 26) rfl rfl (any_of HT_.out (by kernel_rfl)) (fun _ _ _ h => h) (Or.inl ⟨by rfl, ?_⟩) ?_ ?_
                        rotate_left
                        · intro w'
                          go_simp
                          with_reducible rfl
                        rotate_left
                        · simp only [Act.put, PU, i64_w, i32_w]
                          rfl
                        refine pure_ (i := 17) (N := some 86) (v := ?_) (a' := ?_) (tf 18 26) rfl rfl (any_of HT_.out (by kernel_rfl)) (fun _ _ _ h => h) (Or.inl ⟨by rfl, ?_⟩) ?_ ?_
                        rotate_left
                        · intro w'
                          go_simp
                          with_reducible rfl
                        rotate_left
                        · simp only [Act.put, PU, i64_w, i32_w]
                          rfl
                        refine pure_ (i := 18) (N := some 87) (v := undef) (a' := ?_) (tf 19 26) rfl rfl (any_of HT_.out (by kernel_rfl)) (fun _ _ _ h => h) (Or.inr ⟨by rfl, rfl⟩) ?_ ?_
                        rotate_left
                        · simp only [Act.put, PU, i64_w, i32_w]
                          rfl
                        refine pure_ (i := 19) (N := some 88) (v := undef) (a' := ?_) (tf 20 26) rfl rfl (any_of HT_.out (by kernel_rfl)) (fun _ _ _ h => h) (Or.inr ⟨by rfl, rfl⟩) ?_ ?_
                        rotate_left
                        · simp only [Act.put, PU, i64_w, i32_w]
                          rfl
                        refine pure_ (i := 20) (N := some 89) (v := undef) (a' := ?_) (tf 21 26) rfl rfl (any_of HT_.out (by kernel_rfl)) (fun _ _ _ h => h) (Or.inr ⟨by rfl, rfl⟩) ?_ ?_
                        rotate_left
                        · simp only [Act.put, PU, i64_w, i32_w]
                          rfl
                        refine pure_ (i := 21) (N := some 90) (v := undef) (a' := ?_) (tf 22 26) rfl rfl (any_of HT_.out (by kernel_rfl)) (fun _ _ _ h => h) (Or.inr ⟨by rfl, rfl⟩) ?_ ?_
                        rotate_left
                        · simp only [Act.put, PU, i64_w, i32_w]
                          rfl
                        refine pure_ (i := 22) (N := some 91) (v := undef) (a' := ?_) (tf 23 26) rfl rfl (any_of HT_.out (by kernel_rfl)) (fun _ _ _ h => h) (Or.inr ⟨by rfl, rfl⟩) ?_ ?_
                        rotate_left
                        · simp only [Act.put, PU, i64_w, i32_w]
                          rfl
                        refine pure_ (i := 23) (N := some 92) (v := undef) (a' := ?_) (tf 24 26) rfl rfl (any_of HT_.out (by kernel_rfl)) (fun _ _ _ h => h) (Or.inr ⟨by rfl, rfl⟩) ?_ ?_
                        rotate_left
                        · simp only [Act.put, PU, i64_w, i32_w]
                          rfl
                        refine pure_ (i := 24) (N := some 93) (v := ?_) (a' := ?_) (tf 25 26) rfl rfl (any_of HT_.out (by kernel_rfl)) (fun _ _ _ h => h) (Or.inl ⟨by rfl, ?_⟩) ?_ ?_
                        rotate_left
                        · intro w'
                          go_simp
                          with_reducible rfl
                        rotate_left
                        · simp only [Act.put, PU, i64_w, i32_w]
                          rfl
                        refine pure_ (i := 25) (N := some 94) (v := ?_) (a' := ?_) (tf 26 26) rfl rfl (any_of HT_.out (by kernel_rfl)) (fun _ _ _ h => h) (Or.inl ⟨by rfl, ?_⟩) ?_ ?_
                        rotate_left
                        · intro w'
                          go_simp
                          with_reducible rfl
                        rotate_left
                        · simp only [Act.put, PU, i64_w, i32_w]
                          rfl
                        refine done_ (done_of HT_.out (by kernel_rfl)) ?_
                        try go_wp2
                        go_meet
                        case rel => exact ⟨_, (false), (by first | (rw [HR_.out]; done) | rfl | (rw [HR_.out]; rfl) | (simp [HR_.out]; done) | (simp; done) | (simp [*]; done)), H', ⟨by have := HJ3.out; have := HK2.out; first | omega | exact Nat.le_refl _⟩, ⟨by (with_reducible repeat (first | apply Kd.Q_alloc | apply Kd.Q_drewN | apply Kd.Q_drew)); exact HO_7.out⟩, ⟨by (with_reducible repeat (first | apply Kd.V_alloc | apply Kd.V_drewN | apply Kd.V_drew)); exact HO_266002.out⟩, ⟨by (with_reducible repeat (first | apply Kd.V_alloc | apply Kd.V_drewN | apply Kd.V_drew)); exact HO273.out⟩, ⟨by (with_reducible repeat (first | refine blk_drewN ?_ _ | refine blk_drew ?_ | refine blk_alloc ?_ _)); exact BK265.out⟩, ⟨by (with_reducible repeat (first | refine blk_drewN ?_ _ | refine blk_drew ?_ | refine blk_alloc ?_ _)); exact BK278.out⟩, ⟨by (with_reducible repeat (first | refine blk_drewN ?_ _ | refine blk_drew ?_ | refine blk_alloc ?_ _)); exact BK279.out⟩, ⟨LG HB.out (G1 GE265.out (G1 GE278.out (G1 GE279.out G0)))⟩⟩
                      · rw [if_neg c44] at H
                        have c44b0 : (t277 == 7) = false := beq_eq_false_iff_ne.mpr c44
                        have c44b1 : (t277 != 7) = true := bne_iff_ne.mpr c44
                        have H' := Aside0.mk H
                        clear H
                        try go_wp2
                        have n0_ : Aside0 (Kd.Q (Kd.int .i64) 3 ((((((w28.setCell ⟨gb278, 0, none⟩ (.int .i64 t269)).setCell ⟨gb278, 1, none⟩ (.bool t270)).setCell ⟨gb278, 2, none⟩ (.slice Ao32 t271.length co32)).setCell ⟨gb279, 0, none⟩ (.int .i64 t274)).setCell ⟨gb279, 1, none⟩ (.int .i64 t275)).setCell ⟨gb279, 2, none⟩ (.string t276)) w.heap.size (fun _ => True) u7 x7_2) := ⟨by (with_reducible repeat (first | apply Kd.Q_alloc | apply Kd.Q_drewN | apply Kd.Q_drew)); exact Kd.Q_mono (Kd.Q_ms (gs := [gb279, gb278]) (Kd.Q_types (Kd.Q_types HO_7.out BK278.out (by decide)) BK279.out (by decide)) (fun _ hk => N1 (hk.2) (N1 (hk.1.2) (N0)))) (fun _ hk => trivial)⟩
                        have n1_ : Aside0 (Kd.V k36 36 ((((((w28.setCell ⟨gb278, 0, none⟩ (.int .i64 t269)).setCell ⟨gb278, 1, none⟩ (.bool t270)).setCell ⟨gb278, 2, none⟩ (.slice Ao32 t271.length co32)).setCell ⟨gb279, 0, none⟩ (.int .i64 t274)).setCell ⟨gb279, 1, none⟩ (.int .i64 t275)).setCell ⟨gb279, 2, none⟩ (.string t276)) w.heap.size (fun k_ => some k_ ≠ (u7 : Value).ownBlock ∧ k_ ≠ gb265 ∧ k_ ≠ gb278 ∧ k_ ≠ gb279) (.slice Ao25 x266002_2.length co25) x266002_2) := ⟨by (with_reducible repeat (first | apply Kd.V_alloc | apply Kd.V_drewN | apply Kd.V_drew)); exact Kd.V_mono (Kd.V_ms (gs := [gb279, gb278]) (Kd.V_mono (Kd.V_mono HO_266002.out (fun k_ hk => (⟨hk, hk.1.2⟩ : _ ∧ k_ ≠ gb278))) (fun k_ hk => (⟨hk, hk.1.2⟩ : _ ∧ k_ ≠ gb279))) (fun _ hk => N1 (hk.2) (N1 (hk.1.2) (N0)))) (fun _ hk => ⟨hk.1.1.1.1.1, ⟨hk.1.1.1.1.2, ⟨hk.1.1.1.2, hk.1.1.2⟩⟩⟩)⟩
                        have n2_ : Aside0 (Kd.V k36 36 ((((((w28.setCell ⟨gb278, 0, none⟩ (.int .i64 t269)).setCell ⟨gb278, 1, none⟩ (.bool t270)).setCell ⟨gb278, 2, none⟩ (.slice Ao32 t271.length co32)).setCell ⟨gb279, 0, none⟩ (.int .i64 t274)).setCell ⟨gb279, 1, none⟩ (.int .i64 t275)).setCell ⟨gb279, 2, none⟩ (.string t276)) w.heap.size (fun k_ => some k_ ≠ (u7 : Value).ownBlock ∧ k_ ≠ gb265 ∧ k_ ≠ gb278 ∧ k_ ≠ gb279) (.slice Ao32 t271.length co32) t271) := ⟨by (with_reducible repeat (first | apply Kd.V_alloc | apply Kd.V_drewN | apply Kd.V_drew)); exact Kd.V_mono (Kd.V_ms (gs := [gb279, gb278]) (Kd.V_mono (Kd.V_mono HO273.out (fun k_ hk => (⟨hk, hk.1.2⟩ : _ ∧ k_ ≠ gb278))) (fun k_ hk => (⟨hk, hk.1.2⟩ : _ ∧ k_ ≠ gb279))) (fun _ hk => N1 (hk.2) (N1 (hk.1.2) (N0)))) (fun _ hk => ⟨hk.1.1.1.1.1, ⟨hk.1.1.1.1.2, ⟨hk.1.1.1.2, hk.1.1.2⟩⟩⟩)⟩
                        have n3_ : Aside0 (((((((w28.setCell ⟨gb278, 0, none⟩ (.int .i64 t269)).setCell ⟨gb278, 1, none⟩ (.bool t270)).setCell ⟨gb278, 2, none⟩ (.slice Ao32 t271.length co32)).setCell ⟨gb279, 0, none⟩ (.int .i64 t274)).setCell ⟨gb279, 1, none⟩ (.int .i64 t275)).setCell ⟨gb279, 2, none⟩ (.string t276)).heap[gb265]? = some (.cells #[.int .i64 x266000_2, .bool x266001_2, .slice Ao25 x266002_2.length co25] 31 (0, 0))) := ⟨by exact BM BK265.out (N1 NB265_279.out (N1 NB265_278.out N0))⟩
                        have n4_ : Aside0 (((((((w28.setCell ⟨gb278, 0, none⟩ (.int .i64 t269)).setCell ⟨gb278, 1, none⟩ (.bool t270)).setCell ⟨gb278, 2, none⟩ (.slice Ao32 t271.length co32)).setCell ⟨gb279, 0, none⟩ (.int .i64 t274)).setCell ⟨gb279, 1, none⟩ (.int .i64 t275)).setCell ⟨gb279, 2, none⟩ (.string t276)).heap[gb278]? = some (.cells #[.int .i64 t269, .bool t270, .slice Ao32 t271.length co32] 31 (0, 0))) := ⟨by (with_reducible repeat (first | refine blk_drewN ?_ _ | refine blk_drew ?_ | refine blk_alloc ?_ _)); refine blk_far ?_ NB278_279.out _; (with_reducible repeat (first | refine blk_drewN ?_ _ | refine blk_drew ?_ | refine blk_alloc ?_ _)); refine blk_far ?_ NB278_279.out _; (with_reducible repeat (first | refine blk_drewN ?_ _ | refine blk_drew ?_ | refine blk_alloc ?_ _)); refine blk_far ?_ NB278_279.out _; exact BP BK278.out (by rfl)⟩
                        have n5_ : Aside0 (((((((w28.setCell ⟨gb278, 0, none⟩ (.int .i64 t269)).setCell ⟨gb278, 1, none⟩ (.bool t270)).setCell ⟨gb278, 2, none⟩ (.slice Ao32 t271.length co32)).setCell ⟨gb279, 0, none⟩ (.int .i64 t274)).setCell ⟨gb279, 1, none⟩ (.int .i64 t275)).setCell ⟨gb279, 2, none⟩ (.string t276)).heap[gb279]? = some (.cells #[.int .i64 t274, .int .i64 t275, .string t276] 36 (0, 0))) := ⟨by (with_reducible repeat (first | refine blk_drewN ?_ _ | refine blk_drew ?_ | refine blk_alloc ?_ _)); refine blk_put (cs := #[.int .i64 t274, .int .i64 t275, .string (⟨#[]⟩ : ByteArray)]) ?_ 2 _ rfl; (with_reducible repeat (first | refine blk_drewN ?_ _ | refine blk_drew ?_ | refine blk_alloc ?_ _)); refine blk_put (cs := #[.int .i64 t274, .int .i64 0, .string (⟨#[]⟩ : ByteArray)]) ?_ 1 _ rfl; (with_reducible repeat (first | refine blk_drewN ?_ _ | refine blk_drew ?_ | refine blk_alloc ?_ _)); refine blk_put (cs := #[.int .i64 0, .int .i64 0, .string (⟨#[]⟩ : ByteArray)]) ?_ 0 _ rfl; exact BF BK279.out NB279_278.out⟩
                        have n6_ : Aside0 (Below w.heap.size w ((((((w28.setCell ⟨gb278, 0, none⟩ (.int .i64 t269)).setCell ⟨gb278, 1, none⟩ (.bool t270)).setCell ⟨gb278, 2, none⟩ (.slice Ao32 t271.length co32)).setCell ⟨gb279, 0, none⟩ (.int .i64 t274)).setCell ⟨gb279, 1, none⟩ (.int .i64 t275)).setCell ⟨gb279, 2, none⟩ (.string t276))) := ⟨LG HB.out (G1 GE265.out (G1 GE278.out (G1 GE279.out G0)))⟩
                        (try clear HO_7)
                        (try clear HO_266002)
                        (try clear HO273)
                        (try clear BK265)
                        (try clear BK278)
                        (try clear BK279)
                        (try clear HB)
                        generalize ((((((w28.setCell ⟨gb278, 0, none⟩ (.int .i64 t269)).setCell ⟨gb278, 1, none⟩ (.bool t270)).setCell ⟨gb278, 2, none⟩ (.slice Ao32 t271.length co32)).setCell ⟨gb279, 0, none⟩ (.int .i64 t274)).setCell ⟨gb279, 1, none⟩ (.int .i64 t275)).setCell ⟨gb279, 2, none⟩ (.string t276)) = w48 at n0_ n1_ n2_ n3_ n4_ n5_ n6_ ⊢
                        have HO_7 := n0_
                        have HO_266002 := n1_
                        have HO273 := n2_
                        have BK265 := n3_
                        have BK278 := n4_
                        have BK279 := n5_
                        have HB := n6_
                        clear n0_ n1_ n2_ n3_ n4_ n5_ n6_
                        have n0_ := Aside0.mk (Kd.Q_drew HO_7.out)
                        have n1_ := Aside0.mk (Kd.V_drew HO_266002.out)
                        have n2_ := Aside0.mk (Kd.V_drew HO273.out)
                        have n3_ := Aside0.mk (blk_drew BK265.out)
                        have n4_ := Aside0.mk (blk_drew BK278.out)
                        have n5_ := Aside0.mk (blk_drew BK279.out)
                        have n6_ := Aside0.mk (below_drew1 HB.out)
                        clear HO_7
                        clear HO_266002
                        clear HO273
                        clear BK265
                        clear BK278
                        clear BK279
                        clear HB
                        have HO_7 := n0_
                        have HO_266002 := n1_
                        have HO273 := n2_
                        have BK265 := n3_
                        have BK278 := n4_
                        have BK279 := n5_
                        have HB := n6_
                        clear n0_ n1_ n2_ n3_ n4_ n5_ n6_
                        obtain ⟨Ao50, co50, eo50, _⟩ := Kd.Q_slice HO_7.out
                        (first | subst eo50 | (injection eo50 with f1_ f2_ f3_; have f4_ := f1_.symm; have f5_ := f3_.symm; clear f1_ f2_ f3_; subst f4_; subst f5_))
                        refine start_ (n := 26) (S := fun w' => True) (ds := []) (tf 0 26) (by kernel_rfl) rfl rfl trivial (fun hHeld => ?_); refine with_tabW hopperlaw08_PipeRows.tab10 hopperlaw08_PipeRows.bits10 (fun HT_ HW_ => ?_)
                        generalize w48.drew = w49 at HO_7 HO_266002 HO273 BK265 BK278 BK279 HB hHeld ⊢
                        refine pure_ (i := 0) (N := some 69) (v := ?_) (a' := ?_) (tf 1 26) rfl rfl (any_of HT_.out (by kernel_rfl)) (fun _ _ _ h => h) (Or.inl ⟨by rfl, ?_⟩) ?_ ?_
                        rotate_left
                        · intro w'
                          go_simp
                          with_reducible rfl
                        rotate_left
                        · simp only [Act.put, PU, i64_w, i32_w]
                          rfl
                        refine pure_ (i := 1) (N := some 70) (v := ?_) (a' := ?_) (tf 2 26) rfl rfl (any_of HT_.out (by kernel_rfl)) (fun _ _ _ h => h) (Or.inl ⟨by rfl, ?_⟩) ?_ ?_
                        rotate_left
                        · intro w'
                          go_simp
                          with_reducible rfl
                        rotate_left
                        · simp only [Act.put, PU, i64_w, i32_w]
                          rfl
                        refine pure_ (i := 2) (N := some 71) (v := ?_) (a' := ?_) (tf 3 26) rfl rfl (any_of HT_.out (by kernel_rfl)) (fun _ _ _ h => h) (Or.inl ⟨by rfl, ?_⟩) ?_ ?_
                        rotate_left
                        · intro w'
                          go_simp
                          with_reducible rfl
                        rotate_left
                        · simp only [Act.put, PU, i64_w, i32_w]
                          rfl
                        refine pure_ (i := 3) (N := some 72) (v := ?_) (a' := ?_) (tf 4 26) rfl rfl (any_of HT_.out (by kernel_rfl)) (fun _ _ _ h => h) (Or.inl ⟨by rfl, ?_⟩) ?_ ?_
                        rotate_left
                        · intro w'
                          go_simp
                          with_reducible rfl
                        rotate_left
                        · simp only [Act.put, PU, i64_w, i32_w]
                          rfl
                        refine pure_ (i := 4) (N := some 73) (v := ?_) (a' := ?_) (tf 5 26) rfl rfl (any_of HT_.out (by kernel_rfl)) (fun _ _ _ h => h) (Or.inl ⟨by rfl, ?_⟩) ?_ ?_
                        rotate_left
                        · intro w'
                          go_simp
                          with_reducible rfl
                        rotate_left
                        · simp only [Act.put, PU, i64_w, i32_w]
                          rfl
                        refine pure_ (i := 5) (N := some 74) (v := ?_) (a' := ?_) (tf 6 26) rfl rfl (any_of HT_.out (by kernel_rfl)) (fun _ _ _ h => h) (Or.inl ⟨by rfl, ?_⟩) ?_ ?_
                        rotate_left
                        · intro w'
                          go_simp
                          with_reducible rfl
                        rotate_left
                        · simp only [Act.put, PU, i64_w, i32_w]
                          rfl
                        refine pure_ (i := 6) (N := some 75) (v := ?_) (a' := ?_) (tf 7 26) rfl rfl (any_of HT_.out (by kernel_rfl)) (fun _ _ _ h => h) (Or.inl ⟨by rfl, ?_⟩) ?_ ?_
                        rotate_left
                        · intro w'
                          go_simp
                          with_reducible rfl
                        rotate_left
                        · simp only [Act.put, PU, i64_w, i32_w]
                          rfl
                        refine pure_ (i := 7) (N := some 76) (v := ?_) (a' := ?_) (tf 8 26) rfl rfl (any_of HT_.out (by kernel_rfl)) (fun _ _ _ h => h) (Or.inl ⟨by rfl, ?_⟩) ?_ ?_
                        rotate_left
                        · intro w'
                          go_simp
                          with_reducible rfl
                        rotate_left
                        · simp only [Act.put, PU, i64_w, i32_w]
                          rfl
                        refine pure_ (i := 8) (N := some 77) (v := ?_) (a' := ?_) (tf 9 26) rfl rfl (any_of HT_.out (by kernel_rfl)) (fun _ _ _ h => h) (Or.inl ⟨by rfl, ?_⟩) ?_ ?_
                        rotate_left
                        · intro w'
                          go_simp
                          with_reducible rfl
                        rotate_left
                        · simp only [Act.put, PU, i64_w, i32_w]
                          rfl
                        refine pure_ (i := 9) (N := some 78) (v := ?_) (a' := ?_) (tf 10 26) rfl rfl (any_of HT_.out (by kernel_rfl)) (fun _ _ _ h => h) (Or.inl ⟨by rfl, ?_⟩) ?_ ?_
                        rotate_left
                        · intro w'
                          go_simp
                          with_reducible rfl
                        rotate_left
                        · simp only [Act.put, PU, i64_w, i32_w]
                          rfl
                        refine pure_ (i := 10) (N := some 79) (v := ?_) (a' := ?_) (tf 11 26) rfl rfl (any_of HT_.out (by kernel_rfl)) (fun _ _ _ h => h) (Or.inl ⟨by rfl, ?_⟩) ?_ ?_
                        rotate_left
                        · intro w'
                          go_simp
                          with_reducible rfl
                        rotate_left
                        · simp only [Act.put, PU, i64_w, i32_w]
                          rfl
                        refine pure_ (i := 11) (N := some 80) (v := ?_) (a' := ?_) (tf 12 26) rfl rfl (any_of HT_.out (by kernel_rfl)) (fun _ _ _ h => h) (Or.inl ⟨by rfl, ?_⟩) ?_ ?_
                        rotate_left
                        · intro w'
                          go_simp
                          with_reducible rfl
                        rotate_left
                        · simp only [Act.put, PU, i64_w, i32_w]
                          rfl
                        refine pure_ (i := 12) (N := some 81) (v := ?_) (a' := ?_) (tf 13 26) rfl rfl (any_of HT_.out (by kernel_rfl)) (fun _ _ _ h => h) (Or.inl ⟨by rfl, ?_⟩) ?_ ?_
                        rotate_left
                        · intro w'
                          go_simp
                          with_reducible rfl
                        rotate_left
                        · simp only [Act.put, PU, i64_w, i32_w]
                          rfl
                        refine pure_ (i := 13) (N := some 82) (v := ?_) (a' := ?_) (tf 14 26) rfl rfl (any_of HT_.out (by kernel_rfl)) (fun _ _ _ h => h) (Or.inl ⟨by rfl, ?_⟩) ?_ ?_
                        rotate_left
                        · intro w'
                          go_simp
                          with_reducible rfl
                        rotate_left
                        · simp only [Act.put, PU, i64_w, i32_w]
                          rfl
                        refine pure_ (i := 14) (N := some 83) (v := ?_) (a' := ?_) (tf 15 26) rfl rfl (any_of HT_.out (by kernel_rfl)) (fun _ _ _ h => h) (Or.inl ⟨by rfl, ?_⟩) ?_ ?_
                        rotate_left
                        · intro w'
                          go_simp
                          with_reducible rfl
                        rotate_left
                        · simp only [Act.put, PU, i64_w, i32_w]
                          rfl
                        refine pure_ (i := 15) (N := some 84) (v := undef) (a' := ?_) (tf 16 26) rfl rfl (any_of HT_.out (by kernel_rfl)) (fun _ _ _ h => h) (Or.inr ⟨by rfl, rfl⟩) ?_ ?_
                        rotate_left
                        · simp only [Act.put, PU, i64_w, i32_w]
                          rfl
                        refine pure_ (i := 16) (N := some 85) (v := undef) (a' := ?_) (tf 17 26) rfl rfl (any_of HT_.out (by kernel_rfl)) (fun _ _ _ h => h) (Or.inr ⟨by rfl, rfl⟩) ?_ ?_
                        rotate_left
                        · simp only [Act.put, PU, i64_w, i32_w]
                          rfl
                        refine pure_ (i := 17) (N := some 86) (v := undef) (a' := ?_) (tf 18 26) rfl rfl (any_of HT_.out (by kernel_rfl)) (fun _ _ _ h => h) (Or.inr ⟨by rfl, rfl⟩) ?_ ?_
                        rotate_left
                        · simp only [Act.put, PU, i64_w, i32_w]
                          rfl
                        refine pure_ (i := 18) (N := some 87) (v := undef) (a' := ?_) (tf 19 26) rfl rfl (any_of HT_.out (by kernel_rfl)) (fun _ _ _ h => h) (Or.inr ⟨by rfl, rfl⟩) ?_ ?_
                        rotate_left
                        · simp only [Act.put, PU, i64_w, i32_w]
                          rfl
                        refine pure_ (i := 19) (N := some 88) (v := undef) (a' := ?_) (tf 20 26) rfl rfl (any_of HT_.out (by kernel_rfl)) (fun _ _ _ h => h) (Or.inr ⟨by rfl, rfl⟩) ?_ ?_
                        rotate_left
                        · simp only [Act.put, PU, i64_w, i32_w]
                          rfl
                        refine pure_ (i := 20) (N := some 89) (v := undef) (a' := ?_) (tf 21 26) rfl rfl (any_of HT_.out (by kernel_rfl)) (fun _ _ _ h => h) (Or.inr ⟨by rfl, rfl⟩) ?_ ?_
                        rotate_left
                        · simp only [Act.put, PU, i64_w, i32_w]
                          rfl
                        refine pure_ (i := 21) (N := some 90) (v := undef) (a' := ?_) (tf 22 26) rfl rfl (any_of HT_.out (by kernel_rfl)) (fun _ _ _ h => h) (Or.inr ⟨by rfl, rfl⟩) ?_ ?_
                        rotate_left
                        · simp only [Act.put, PU, i64_w, i32_w]
                          rfl
                        refine pure_ (i := 22) (N := some 91) (v := undef) (a' := ?_) (tf 23 26) rfl rfl (any_of HT_.out (by kernel_rfl)) (fun _ _ _ h => h) (Or.inr ⟨by rfl, rfl⟩) ?_ ?_
                        rotate_left
                        · simp only [Act.put, PU, i64_w, i32_w]
                          rfl
                        refine pure_ (i := 23) (N := some 92) (v := undef) (a' := ?_) (tf 24 26) rfl rfl (any_of HT_.out (by kernel_rfl)) (fun _ _ _ h => h) (Or.inr ⟨by rfl, rfl⟩) ?_ ?_
                        rotate_left
                        · simp only [Act.put, PU, i64_w, i32_w]
                          rfl
                        refine pure_ (i := 24) (N := some 93) (v := undef) (a' := ?_) (tf 25 26) rfl rfl (any_of HT_.out (by kernel_rfl)) (fun _ _ _ h => h) (Or.inr ⟨by rfl, rfl⟩) ?_ ?_
                        rotate_left
                        · simp only [Act.put, PU, i64_w, i32_w]
                          rfl
                        refine pure_ (i := 25) (N := some 94) (v := ?_) (a' := ?_) (tf 26 26) rfl rfl (any_of HT_.out (by kernel_rfl)) (fun _ _ _ h => h) (Or.inl ⟨by rfl, ?_⟩) ?_ ?_
                        rotate_left
                        · intro w'
                          go_simp
                          with_reducible rfl
                        rotate_left
                        · simp only [Act.put, PU, i64_w, i32_w]
                          rfl
                        refine done_ (done_of HT_.out (by kernel_rfl)) ?_
                        try go_wp2
                        go_meet
                        case rel => exact ⟨_, (true), (by first | (rw [HR_.out]; done) | rfl | (rw [HR_.out]; rfl) | (simp [HR_.out]; done) | (simp; done) | (simp [*]; done)), H', ⟨by have := HJ3.out; have := HK2.out; first | omega | exact Nat.le_refl _⟩, ⟨by (with_reducible repeat (first | apply Kd.Q_alloc | apply Kd.Q_drewN | apply Kd.Q_drew)); exact HO_7.out⟩, ⟨by (with_reducible repeat (first | apply Kd.V_alloc | apply Kd.V_drewN | apply Kd.V_drew)); exact HO_266002.out⟩, ⟨by (with_reducible repeat (first | apply Kd.V_alloc | apply Kd.V_drewN | apply Kd.V_drew)); exact HO273.out⟩, ⟨by (with_reducible repeat (first | refine blk_drewN ?_ _ | refine blk_drew ?_ | refine blk_alloc ?_ _)); exact BK265.out⟩, ⟨by (with_reducible repeat (first | refine blk_drewN ?_ _ | refine blk_drew ?_ | refine blk_alloc ?_ _)); exact BK278.out⟩, ⟨by (with_reducible repeat (first | refine blk_drewN ?_ _ | refine blk_drew ?_ | refine blk_alloc ?_ _)); exact BK279.out⟩, ⟨LG HB.out (G1 GE265.out (G1 GE278.out (G1 GE279.out G0)))⟩⟩
                case rest =>
                  clear HC23
                  try clear p2
                  try clear c3
                  try clear c4
                  try clear c39
                  try clear c39b0
                  try clear c39b1
                  try clear c40
                  try clear c44
                  try clear c44b0
                  try clear c44b1
                  obtain ⟨kq, x94_22, rfl, HA, HJ22, HO_7, HO_266002, HO_279002, BK265, BK278, BK279, HB⟩ := hcut
                  cases kq with
                  | zero => exact absurd HA.out (by simp [hopperlaw08_PipeRows.j2])
                  | succ kj22 =>
                    have H := HA.out
                    clear HA
                    simp only [hopperlaw08_PipeRows.j2] at H
                    by_cases c51 : x94_22 = true
                    · subst c51
                      have H1 : (some false) = some true := by rw [if_pos rfl] at H; exact H
                      clear H
                      have H := H1
                      clear H1
                      exact absurd H (by simp)
                    · replace c51 := Bool.eq_false_iff.mpr c51
                      subst c51
                      have H1 : (if (x7_2.length : Int) > 0 then (if 1 ≤ (x7_2.length : Int) then (hopperlaw08_PipeRows.l0 kj22 a0 l1 (x7_2.drop (1 : Int).toNat) (wrap64 (x8_2 + 1)) t269 t270 t271) else (none)) else (hopperlaw08_PipeRows.l0 kj22 a0 l1 x7_2 (wrap64 (x8_2 + 1)) t269 t270 t271)) = some true := by rw [if_neg (show ¬ (false = true) by decide)] at H; exact H
                      clear H
                      have H := H1
                      clear H1
                      by_cases c52 : (x7_2.length : Int) > 0
                      · rw [if_pos c52] at H
                        have c52b0 : decide (0 < (x7_2.length : Int)) = true := decide_eq_true c52
                        have c52b1 : decide (0 < x7_2.length) = true := decide_eq_true (by omega)
                        clear c52
                        by_cases c53 : 1 ≤ (x7_2.length : Int)
                        rotate_left
                        · rw [if_neg c53] at H
                          exact absurd H (by simp)
                        rw [if_pos c53] at H
                        have c53b0 := eq_true c53
                        have c53b1 : decide (1 ≤ (x7_2.length : Int)) = true := decide_eq_true c53
                        clear c53
                        obtain ⟨y281, hy281⟩ : ∃ y_ : List Int, y_ = (x7_2.drop (1 : Int).toNat) := ⟨_, rfl⟩
                        replace H : (hopperlaw08_PipeRows.l0 kj22 a0 l1 y281 (wrap64 (x8_2 + 1)) t269 t270 t271) = some true := by first | (rw [hy281]; with_reducible exact H) | (have H2_ := (Option.bind_some _ _).symm.trans H; rw [hy281]; with_reducible exact H2_) | (have H2_ := (Option.bind_some _ _).symm.trans H; with_reducible exact H2_) | with_reducible exact H | (rw [hy281]; exact H) | exact H
                        have Ny281 := Aside0.mk hy281
                        clear hy281
                        have H' := Aside0.mk H
                        clear H
                        obtain ⟨Ao54, co54, eo54, _⟩ := Kd.Q_slice HO_7.out
                        subst eo54
                        have q55 : (1 : Int) ≤ ((x7_2.length : Int) : Int) := of_decide_eq_true (by first | (with_reducible assumption) | assumption)
                        obtain ⟨i055, hi055, _, hsz55, _⟩ := info_parts info3
                        have hcut55 := cut_from (P := Try.prog) 50 3 .i64 Try.underlying50 hi055 1 hsz55 Ao54 x7_2.length co54 1 (by omega) q55
                        have hr55 := Kd.Q_drop (k := (1 : Int).toNat) HO_7.out (by omega)
                        obtain ⟨A55, hA55⟩ : ∃ A1, A1 = (if co54 = (1 : Int).toNat then Ao54 else (Ao54 : Option Addr).map (·.add ((1 : Int).toNat * 1))) := ⟨_, rfl⟩
                        obtain ⟨c55, hc55⟩ : ∃ c1, c1 = co54 - (1 : Int).toNat := ⟨_, rfl⟩
                        have hy55 : y281.length = x7_2.length - (1 : Int).toNat := (by rw [Ny281.out, List.length_drop])
                        rw [← Ny281.out] at hr55
                        rw [← hy55, ← hA55, ← hc55] at hcut55
                        replace hr55 : Kd.Q (Kd.int .i64) 3 wc w.heap.size (fun _ => True) (.slice A55 y281.length c55) y281 := (by rw [hA55, hc55, hy55]; exact hr55)
                        have HE55 : Aside0 ((Value.slice A55 y281.length c55).ownBlock = (.slice Ao54 x7_2.length co54 : Value).ownBlock) := ⟨by rw [hA55]; split <;> (cases (Ao54 : Option Addr) <;> rfl)⟩
                        clear hy55 hi055 hsz55 HO_7 hA55 hc55
                        have HO283 := Aside0.mk hr55
                        clear hr55
                        replace q55 := eq_true q55
                        have n_ := Aside0.mk (Kd.V_mono (ok' := fun k_ => (some k_ ≠ (.slice A55 y281.length c55 : Value).ownBlock ∧ (k_ ≠ gb265 ∧ (k_ ≠ gb278 ∧ k_ ≠ gb279)))) HO_266002.out (fun k_ hk => ⟨(by rw [HE55.out]; exact hk.1), ⟨hk.2.1, ⟨hk.2.2.1, hk.2.2.2⟩⟩⟩))
                        clear HO_266002
                        have HO_266002 := n_
                        clear n_
                        have n_ := Aside0.mk (Kd.V_mono (ok' := fun k_ => (some k_ ≠ (.slice A55 y281.length c55 : Value).ownBlock ∧ (k_ ≠ gb265 ∧ (k_ ≠ gb278 ∧ k_ ≠ gb279)))) HO_279002.out (fun k_ hk => ⟨(by rw [HE55.out]; exact hk.1), ⟨hk.2.1, ⟨hk.2.2.1, hk.2.2.2⟩⟩⟩))
                        clear HO_279002
                        have HO_279002 := n_
                        clear n_
                        have hnb56 := NB278_265.out
                        have hnc56 := NB265_278.out
                        have hnb57 := NB278_279.out
                        have hnc57 := NB279_278.out
                        have hcz58_0 : wc.cell? ⟨gb278, 0, none⟩ = some (.int .i64 t269) := (blk_cell BK278.out 0).trans rfl
                        have hcz58_1 : wc.cell? ⟨gb278, 1, none⟩ = some (.bool t270) := (blk_cell BK278.out 1).trans rfl
                        have hcz58_2 : wc.cell? ⟨gb278, 2, none⟩ = some (.slice Ao32 t271.length co32) := (blk_cell BK278.out 2).trans rfl
                        have hfz58_0 := blk_frozen BK278.out 0
                        have hfz58_1 := blk_frozen BK278.out 1
                        have hfz58_2 := blk_frozen BK278.out 2
                        have hnb59 := NB265_279.out
                        have hnc59 := NB279_265.out
                        have hcz60_0 : wc.cell? ⟨gb265, 0, none⟩ = some (.int .i64 x266000_2) := (blk_cell BK265.out 0).trans rfl
                        have hcz60_1 : wc.cell? ⟨gb265, 1, none⟩ = some (.bool x266001_2) := (blk_cell BK265.out 1).trans rfl
                        have hcz60_2 : wc.cell? ⟨gb265, 2, none⟩ = some (.slice Ao25 x266002_2.length co25) := (blk_cell BK265.out 2).trans rfl
                        have hfz60_0 := blk_frozen BK265.out 0
                        have hfz60_1 := blk_frozen BK265.out 1
                        have hfz60_2 := blk_frozen BK265.out 2
                        go_wp2
                        go_roundg kj22
                        case measure => have := HJ3.out; have := HK2.out; have := HJ22.out; omega
                        case rel => exact ⟨(y281), (wrap64 (x8_2 + 1)), (t269), (t270), (t271), (.slice Ao32 t271.length co32), (by first | (rw [HR_.out]; done) | rfl | (rw [HR_.out]; rfl) | (simp [HR_.out]; done) | (simp; done) | (simp [*]; done)), H', ⟨by have := HJ3.out; have := HK2.out; have := HJ22.out; omega⟩, ⟨by (with_reducible repeat (first | apply Kd.Q_alloc | apply Kd.Q_drewN | apply Kd.Q_drew)); exact Kd.Q_mono (Kd.Q_mv (g := gb265) (Kd.Q_types HO283.out BK265.out (by decide)) (fun _ hk => hk.2)) (fun _ hk => trivial)⟩, ⟨by (with_reducible repeat (first | apply Kd.V_alloc | apply Kd.V_drewN | apply Kd.V_drew)); exact Kd.V_mono (Kd.V_mv (g := gb265) (Kd.V_mono HO_279002.out (fun k_ hk => (⟨hk, hk.2.1⟩ : _ ∧ k_ ≠ gb265))) (fun _ hk => hk.2)) (fun _ hk => ⟨hk.1.1, hk.1.2.1⟩)⟩, ⟨by exact BP BK265.out (by rfl)⟩, ⟨LG HB.out (G1 GE265.out (G1 GE278.out (G1 GE279.out G0)))⟩⟩
                      · rw [if_neg c52] at H
                        have c52b0 : decide (0 < (x7_2.length : Int)) = false := decide_eq_false c52
                        have c52b1 : decide (0 < x7_2.length) = false := decide_eq_false (by omega)
                        clear c52
                        have H' := Aside0.mk H
                        clear H
                        obtain ⟨Ao61, co61, eo61, _⟩ := Kd.Q_slice HO_7.out
                        subst eo61
                        have hnb62 := NB278_265.out
                        have hnc62 := NB265_278.out
                        have hnb63 := NB278_279.out
                        have hnc63 := NB279_278.out
                        have hcz64_0 : wc.cell? ⟨gb278, 0, none⟩ = some (.int .i64 t269) := (blk_cell BK278.out 0).trans rfl
                        have hcz64_1 : wc.cell? ⟨gb278, 1, none⟩ = some (.bool t270) := (blk_cell BK278.out 1).trans rfl
                        have hcz64_2 : wc.cell? ⟨gb278, 2, none⟩ = some (.slice Ao32 t271.length co32) := (blk_cell BK278.out 2).trans rfl
                        have hfz64_0 := blk_frozen BK278.out 0
                        have hfz64_1 := blk_frozen BK278.out 1
                        have hfz64_2 := blk_frozen BK278.out 2
                        have hnb65 := NB265_279.out
                        have hnc65 := NB279_265.out
                        have hcz66_0 : wc.cell? ⟨gb265, 0, none⟩ = some (.int .i64 x266000_2) := (blk_cell BK265.out 0).trans rfl
                        have hcz66_1 : wc.cell? ⟨gb265, 1, none⟩ = some (.bool x266001_2) := (blk_cell BK265.out 1).trans rfl
                        have hcz66_2 : wc.cell? ⟨gb265, 2, none⟩ = some (.slice Ao25 x266002_2.length co25) := (blk_cell BK265.out 2).trans rfl
                        have hfz66_0 := blk_frozen BK265.out 0
                        have hfz66_1 := blk_frozen BK265.out 1
                        have hfz66_2 := blk_frozen BK265.out 2
                        go_wp2
                        go_roundg kj22
                        case measure => have := HJ3.out; have := HK2.out; have := HJ22.out; omega
                        case rel => exact ⟨(x7_2), (wrap64 (x8_2 + 1)), (t269), (t270), (t271), (.slice Ao32 t271.length co32), (by first | (rw [HR_.out]; done) | rfl | (rw [HR_.out]; rfl) | (simp [HR_.out]; done) | (simp; done) | (simp [*]; done)), H', ⟨by have := HJ3.out; have := HK2.out; have := HJ22.out; omega⟩, ⟨by (with_reducible repeat (first | apply Kd.Q_alloc | apply Kd.Q_drewN | apply Kd.Q_drew)); exact Kd.Q_mono (Kd.Q_mv (g := gb265) (Kd.Q_types HO_7.out BK265.out (by decide)) (fun _ hk => hk.2)) (fun _ hk => trivial)⟩, ⟨by (with_reducible repeat (first | apply Kd.V_alloc | apply Kd.V_drewN | apply Kd.V_drew)); exact Kd.V_mono (Kd.V_mv (g := gb265) (Kd.V_mono HO_279002.out (fun k_ hk => (⟨hk, hk.2.1⟩ : _ ∧ k_ ≠ gb265))) (fun _ hk => hk.2)) (fun _ hk => ⟨hk.1.1, hk.1.2.1⟩)⟩, ⟨by exact BP BK265.out (by rfl)⟩, ⟨LG HB.out (G1 GE265.out (G1 GE278.out (G1 GE279.out G0)))⟩⟩
              · rw [if_neg c21] at H
                have c21b0 : ((rd l1 x8_2) == 0) = false := beq_eq_false_iff_ne.mpr c21
                have c21b1 : ((rd l1 x8_2) != 0) = true := bne_iff_ne.mpr c21
                replace H := Option.bind_eq_some_iff.mp H
                obtain ⟨⟨t285, t286, t287, t290⟩, A670, H⟩ := H
                try dsimp only at H
                have A67 := Aside0.mk A670
                clear A670
                by_cases c68 : ((t290 == 0) != (decide ((x7_2.length : Int) < a0))) = true
                · rw [if_pos c68] at H
                  have c68b0 : ((t290 == 0) != (decide ((x7_2.length : Int) < a0))) = true := c68
                  (try (have c68b1 : decide ((t290 == 0) = (decide ((x7_2.length : Int) < a0))) = false := by simpa using c68))
                  (try (have c68b2 : ((t290 == 0) == (decide ((x7_2.length : Int) < a0))) = false := by simpa using c68))
                  (try (have c68b3 : ¬ ((t290 == 0) = (decide ((x7_2.length : Int) < a0))) := by simpa using c68))
                  clear c68
                  exact absurd H (by simp)
                · rw [if_neg c68] at H
                  have c68b0 : ((t290 == 0) != (decide ((x7_2.length : Int) < a0))) = false := by simpa using c68
                  (try (have c68b1 : decide ((t290 == 0) = (decide ((x7_2.length : Int) < a0))) = true := by simpa using c68))
                  (try (have c68b2 : ((t290 == 0) == (decide ((x7_2.length : Int) < a0))) = true := by simpa using c68))
                  clear c68
                  by_cases c69 : t290 = 0
                  · rw [if_pos c69] at H
                    have c69b0 : (t290 == 0) = true := beq_iff_eq.mpr c69
                    (try (have c69x : (decide ((x7_2.length : Int) < a0)) = true := by simpa [c69b0] using c68b0))
                    have c69b1 : (t290 != 0) = false := bne_eq_false_iff_eq.mpr c69
                    clear c69
                    by_cases c70 : x7_2.length < 17592186044416
                    rotate_left
                    · rw [if_neg c70] at H
                      exact absurd H (by simp)
                    rw [if_pos c70] at H
                    have LMc70 := Aside0.mk c70
                    clear c70
                    obtain ⟨y293, hy293⟩ : ∃ y_ : List Int, y_ = (x7_2 ++ [rd l1 x8_2]) := ⟨_, rfl⟩
                    replace H : (hopperlaw08_PipeRows.l0 k2 a0 l1 y293 (wrap64 (x8_2 + 1)) t285 t286 t287) = some true := by first | (rw [hy293]; with_reducible exact H) | (have H2_ := (Option.bind_some _ _).symm.trans H; rw [hy293]; with_reducible exact H2_) | (have H2_ := (Option.bind_some _ _).symm.trans H; with_reducible exact H2_) | with_reducible exact H | (rw [hy293]; exact H) | exact H
                    have Ny293 := Aside0.mk hy293
                    clear hy293
                    have H' := Aside0.mk H
                    clear H
                    have p268 : 0 ≤ (x8_2 : Int) := of_decide_eq_true (by first | (with_reducible assumption) | assumption)
                    have q268 : x8_2 < (l1.length : Int) := of_decide_eq_true (by first | (with_reducible assumption) | assumption)
                    obtain ⟨ad268, e268, hx268_0⟩ := Kd.at_int HR1.out x8_2 p268 q268
                    cases e268
                    replace hx268_0 := (HB.out.cell (World.block_lt_of_cell? w _ hx268_0)).trans hx268_0
                    replace p268 := eq_true p268
                    replace q268 := eq_true q268
                    obtain ⟨Ao71, co71, eo71⟩ := Kd.V_slice HO_266002.out
                    subst eo71
                    try go_wp2
                    have n0_ := Aside0.mk (Kd.Q_drew HO_7.out)
                    have n1_ := Aside0.mk (Kd.V_drew HO_266002.out)
                    have n2_ := Aside0.mk (blk_drew BK265.out)
                    have n3_ := Aside0.mk (below_drew1 HB.out)
                    clear HO_7
                    clear HO_266002
                    clear BK265
                    clear HB
                    have HO_7 := n0_
                    have HO_266002 := n1_
                    have BK265 := n2_
                    have HB := n3_
                    clear n0_ n1_ n2_ n3_
                    have p284 : 0 ≤ (x8_2 : Int) := of_decide_eq_true (by first | (with_reducible assumption) | assumption)
                    have q284 : x8_2 < (l1.length : Int) := of_decide_eq_true (by first | (with_reducible assumption) | assumption)
                    obtain ⟨ad284, e284, hx284_0⟩ := Kd.at_int HR1.out x8_2 p284 q284
                    have hw284_0 := hx284_0
                    obtain rfl : ad268 = ad284 := (by injection e284)
                    replace hx284_0 := (HB.out.cell (World.block_lt_of_cell? w _ hx284_0)).trans hx284_0
                    replace p284 := eq_true p284
                    replace q284 := eq_true q284
                    refine start_ (n := 13) (S := fun w' => w'.cell? ⟨gb265, 0, none⟩ = some (.int .i64 x266000_2) ∧ w'.cell? ⟨gb265, 1, none⟩ = some (.bool x266001_2) ∧ w'.cell? ⟨gb265, 2, none⟩ = some (.slice Ao71 x266002_2.length co71) ∧ w'.cell? (ad268.add (x8_2).toNat) = some (.int .i64 (rd l1 x8_2))) (ds := []) (tf 0 13) (by kernel_rfl) rfl rfl ⟨(blk_cell BK265.out 0).trans rfl, (blk_cell BK265.out 1).trans rfl, (blk_cell BK265.out 2).trans rfl, ((HB.out.cell (World.block_lt_of_cell? w _ hw284_0)).trans hw284_0)⟩ (fun hHeld => ?_); refine with_tabW hopperlaw08_PipeRows.tab15 hopperlaw08_PipeRows.bits15 (fun HT_ HW_ => ?_)
                    generalize wr.drew = w72 at HO_7 HO_266002 BK265 HB hx284_0 hHeld ⊢
                    refine pure_ (i := 1) (N := some 103) (v := ?_) (a' := ?_) #[false, true, false, false, false, false, false, false, false, false, false, false, false] rfl rfl (any_of HT_.out (by kernel_rfl)) (fun _ _ _ h => h) (Or.inl ⟨by rfl, ?_⟩) ?_ ?_
                    rotate_left
                    · intro w'
                      go_simp
                      with_reducible rfl
                    rotate_left
                    · simp only [Act.put, PU, i64_w, i32_w]
                      rfl
                    refine pure_ (i := 2) (N := some 104) (v := ?_) (a' := ?_) #[false, true, true, false, false, false, false, false, false, false, false, false, false] rfl rfl (any_of HT_.out (by kernel_rfl)) (fun _ _ _ h => h) (Or.inl ⟨by rfl, ?_⟩) ?_ ?_
                    rotate_left
                    · intro w'
                      go_simp
                      with_reducible rfl
                    rotate_left
                    · simp only [Act.put, PU, i64_w, i32_w]
                      rfl
                    refine pure_ (i := 3) (N := some 105) (v := ?_) (a' := ?_) #[false, true, true, true, false, false, false, false, false, false, false, false, false] rfl rfl (any_of HT_.out (by kernel_rfl)) (fun _ _ _ h => h) (Or.inl ⟨by rfl, ?_⟩) ?_ ?_
                    rotate_left
                    · intro w'
                      go_simp
                      with_reducible rfl
                    rotate_left
                    · simp only [Act.put, PU, i64_w, i32_w]
                      rfl
                    refine take_ (i := 0) (N := some 102) (v := ?_) (a' := ?_) (tf 4 13) rfl rfl (take_ofW HT_.out HW_.out (by kernel_rfl)) (fun _ _ _ h => h) (Or.inl ⟨by rfl, ?_⟩) hHeld ?_ ?_
                    rotate_left
                    · rintro w' ⟨s0, s1, s2, s3⟩
                      go_simp
                      with_reducible rfl
                    rotate_left
                    · simp only [Act.put, PU, i64_w, i32_w]
                      rfl
                    refine take_ (i := 4) (N := some 106) (v := ?_) (a' := ?_) (tf 5 13) rfl rfl (take_ofW HT_.out HW_.out (by kernel_rfl)) (fun _ _ _ h => h) (Or.inl ⟨by rfl, ?_⟩) hHeld ?_ ?_
                    rotate_left
                    · rintro w' ⟨s0, s1, s2, s3⟩
                      go_simp
                      with_reducible rfl
                    rotate_left
                    · simp only [Act.put, PU, i64_w, i32_w]
                      rfl
                    refine pure_ (i := 5) (N := some 107) (v := ?_) (a' := ?_) (tf 6 13) rfl rfl (any_of HT_.out (by kernel_rfl)) (fun _ _ _ h => h) (Or.inl ⟨by rfl, ?_⟩) ?_ ?_
                    rotate_left
                    · intro w'
                      go_simp
                      with_reducible rfl
                    rotate_left
                    · simp only [Act.put, PU, i64_w, i32_w]
                      rfl
                    refine join_ (σ := Value × Nat) 2 (tf 11 13) (fun s_ => [(108, .tuple #[.agg #[.int .i64 t285, .bool t286, s_.1], .int .i64 t290]), (12, .pointer (some ⟨s_.2, 0, none⟩)), (101, .tuple #[.agg #[.int .i64 t285, .bool t286, s_.1], .int .i64 t290]), (109, .agg #[.int .i64 t285, .bool t286, s_.1]), (110, .int .i64 t290)]) (fun s_ w' => (w'.cell? ⟨gb265, 0, none⟩ = some (.int .i64 x266000_2) ∧ w'.cell? ⟨gb265, 1, none⟩ = some (.bool x266001_2) ∧ w'.cell? ⟨gb265, 2, none⟩ = some (.slice Ao71 x266002_2.length co71) ∧ w'.cell? (ad268.add (x8_2).toNat) = some (.int .i64 (rd l1 x8_2))) ∧ (Kd.V k36 36 w' w.heap.size (fun k_ => some k_ ≠ (u7 : Value).ownBlock ∧ k_ ≠ gb265 ∧ k_ ≠ s_.2) s_.1 t287) ∧ (Kd.V k36 36 w' w.heap.size (fun k_ => some k_ ≠ (u7 : Value).ownBlock ∧ k_ ≠ gb265 ∧ k_ ≠ s_.2) (.slice Ao71 x266002_2.length co71) x266002_2) ∧ (Kd.Q (Kd.int .i64) 3 w' w.heap.size (fun _ => True) u7 x7_2) ∧ (w'.heap[gb265]? = some (.cells #[.int .i64 x266000_2, .bool x266001_2, .slice Ao71 x266002_2.length co71] 31 (0, 0))) ∧ (w'.heap[s_.2]? = some (.cells #[.int .i64 0, .bool false, .slice none 0 0] 31 (0, 0))) ∧ (w.heap.size ≤ s_.2) ∧ (w.heap.size ≤ s_.2) ∧ (gb265 ≠ s_.2) ∧ (s_.2 ≠ gb265) ∧ (Below w.heap.size w w')) ?_ ?_
                    rotate_left
                    · intro hCont
                      refine two_ (i := 6) (j := 10) (Ni := some 108) (Nj := some 12) (tf 7 13) #[true, true, true, true, true, true, false, false, false, false, true, false, false] rfl rfl rfl rfl (two_of HT_.out (by kernel_rfl)) (by decide) (by decide) (fun K hK => ?_) (fun K hK => ?_)
                      · skip
                        refine goes_ Try.func10 (by kernel_rfl) rfl #[.agg #[.int .i64 x266000_2, .bool x266001_2, .slice Ao71 x266002_2.length co71], .agg #[.int .i64 0, .int .i64 (rd l1 x8_2), .string (⟨#[]⟩ : ByteArray)]] (by rfl) rfl rfl (by (try simp only [List.map_toArray, List.map_cons, List.map_nil]); first | done | rfl | (simp only [List.length_drop, List.length_take]; rfl)) ?_
                        with_reducible refine (pipe_Pipe_Send.calls x266000_2 x266001_2 (fun k_ => (some k_ ≠ (u7 : Value).ownBlock ∧ k_ ≠ gb265)) _ _ x266002_2 0 (rd l1 x8_2) (⟨#[]⟩ : ByteArray) t285 t286 t287 t290 _ ?side1 A67.out).mono ?_
                        (case side1 => exact HO_266002.out)
                        rintro e w73 ⟨v288, rfl, ho0, hb⟩
                        refine ⟨_, rfl, ?_⟩
                        have n0_ := Aside0.mk (Kd.Q_below (Kd.QA HO_7.out) hb)
                        have n1_ := Aside0.mk (Kd.V_below (Kd.VA HO_266002.out) hb)
                        have n2_ := Aside0.mk (Kd.V_lower (Kd.V_mono (ok' := fun k_ => some k_ ≠ (u7 : Value).ownBlock ∧ k_ ≠ gb265) ho0 (fun k_ hk_ => ⟨Or.elim hk_ (fun hs_ => hs_.1) (fun hn_ => (Kd.fresh' (Kd.Q_lt (Kd.QA HO_7.out)) k_ hn_)), Or.elim hk_ (fun hs_ => hs_.2) (fun hn_ => (Kd.freshB (g := gb265) (o := .cells #[.int .i64 x266000_2, .bool x266001_2, .slice Ao71 x266002_2.length co71] 31 (0, 0)) (BA BK265.out) k_ hn_))⟩)) (below_size (LG HB.out (G1 GE265.out G0))))
                        have n3_ := Aside0.mk (blk_below (BA BK265.out) hb)
                        have n4_ := Aside0.mk (below_step (LG HB.out (G1 GE265.out G0)) hb)
                        clear HO_7
                        clear HO_266002
                        clear BK265
                        clear HB
                        have HO_7 := n0_
                        have HO_266002 := n1_
                        have HO289 := n2_
                        have BK265 := n3_
                        have HB := n4_
                        clear n0_ n1_ n2_ n3_ n4_
                        (try clear hb)
                        (try clear hb2)
                        (try clear hk)
                        (try clear hi)
                        (try clear ho0)
                        refine hK.out _ _ ⟨(blk_cell BK265.out 0).trans rfl, (blk_cell BK265.out 1).trans rfl, (blk_cell BK265.out 2).trans rfl, ((HB.out.cell (World.block_lt_of_cell? w _ hw284_0)).trans hw284_0)⟩ (fun hHeld => ?_)
                        clear hK K
                        refine norm_ (a' := ?_) ?_ ?_
                        rotate_left
                        · show Act.put _ (some 108) _ = _
                          simp only [Act.put, PU, i64_w, i32_w]
                          rfl
                        refine pure_ (i := 7) (N := some 101) (v := ?_) (a' := ?_) (tf 8 13) rfl rfl (any_of HT_.out (by kernel_rfl)) (fun _ _ _ h => h) (Or.inl ⟨by rfl, ?_⟩) ?_ ?_
                        rotate_left
                        · intro w'
                          go_simp
                          with_reducible rfl
                        rotate_left
                        · simp only [Act.put, PU, i64_w, i32_w]
                          rfl
                        refine pure_ (i := 8) (N := some 109) (v := ?_) (a' := ?_) (tf 9 13) rfl rfl (any_of HT_.out (by kernel_rfl)) (fun _ _ _ h => h) (Or.inl ⟨by rfl, ?_⟩) ?_ ?_
                        rotate_left
                        · intro w'
                          go_simp
                          with_reducible rfl
                        rotate_left
                        · simp only [Act.put, PU, i64_w, i32_w]
                          rfl
                        refine pure_ (i := 9) (N := some 110) (v := ?_) (a' := ?_) (tf 10 13) rfl rfl (any_of HT_.out (by kernel_rfl)) (fun _ _ _ h => h) (Or.inl ⟨by rfl, ?_⟩) ?_ ?_
                        rotate_left
                        · intro w'
                          go_simp
                          with_reducible rfl
                        rotate_left
                        · simp only [Act.put, PU, i64_w, i32_w]
                          rfl
                        refine one_ (i := 10) (N := some 12) (tf 11 13) rfl rfl (one_of HT_.out (by kernel_rfl)) (by decide) (fun K hK => ?_)
                        refine box_step ?hg (N := 12) ?hd (cs := #[.int .i64 0, .bool false, .slice none 0 0]) (t := 31) ?hr ?_; (case hd => rfl); (case hg => rfl); (case hr => first | (go_simp; done) | (go_simp; rfl))
                        intro gb291 hg w74 hbox hb
                        have n0_ := Aside0.mk (Kd.Q_below (Kd.QA HO_7.out) hb)
                        have n1_ := Aside0.mk (Kd.V_below (Kd.V_elderB (Kd.VA HO_266002.out) gb291 (Nat.le_of_eq hg.symm)) hb)
                        have n2_ := Aside0.mk (Kd.V_below (Kd.V_elderB (Kd.VA HO289.out) gb291 (Nat.le_of_eq hg.symm)) hb)
                        have n3_ := Aside0.mk (blk_below (BA BK265.out) hb)
                        have n4_ := Aside0.mk (below_step (LG HB.out (G1 GE265.out G0)) hb)
                        have n5_ := Aside0.mk (hbox)
                        have n6_ := Aside0.mk (ge1 hg (LG HB.out (G1 GE265.out G0)))
                        have n7_ := Aside0.mk (ge1 hg (LG HB.out (G1 GE265.out G0)))
                        have n8_ := Aside0.mk ((by rw [hg]; exact Nat.ne_of_lt (blk_lt (g := gb265) (o := .cells #[.int .i64 x266000_2, .bool x266001_2, .slice Ao71 x266002_2.length co71] 31 (0, 0)) (BA BK265.out)) : gb265 ≠ gb291))
                        have n9_ := Aside0.mk ((by rw [hg]; exact Nat.ne_of_gt (blk_lt (g := gb265) (o := .cells #[.int .i64 x266000_2, .bool x266001_2, .slice Ao71 x266002_2.length co71] 31 (0, 0)) (BA BK265.out)) : gb291 ≠ gb265))
                        clear HO_7
                        clear HO_266002
                        clear HO289
                        clear BK265
                        clear HB
                        have HO_7 := n0_
                        have HO_266002 := n1_
                        have HO289 := n2_
                        have BK265 := n3_
                        have HB := n4_
                        have BK291 := n5_
                        have GW291 := n6_
                        have GE291 := n7_
                        have NB265_291 := n8_
                        have NB291_265 := n9_
                        clear n0_ n1_ n2_ n3_ n4_ n5_ n6_ n7_ n8_ n9_
                        clear hb hbox hg
                        refine hK.out _ _ ⟨(blk_cell BK265.out 0).trans rfl, (blk_cell BK265.out 1).trans rfl, (blk_cell BK265.out 2).trans rfl, ((HB.out.cell (World.block_lt_of_cell? w _ hw284_0)).trans hw284_0)⟩ (fun hHeld => ?_)
                        clear hK K
                        refine norm_ (a' := ?_) ?_ ?_
                        rotate_left
                        · show Act.put _ (some 12) _ = _
                          simp only [Act.put, PU, i64_w, i32_w]
                          rfl
                        exact norm_ (by simp only [putAll, Act.put, PU]) (hCont (v288, gb291) _ ⟨hHeld, (Kd.VA (Kd.V_mono HO289.out (fun _ hk => ⟨hk.1.1, ⟨hk.1.2, hk.2⟩⟩))), (Kd.VA (Kd.V_mono HO_266002.out (fun _ hk => ⟨hk.1.1, ⟨hk.1.2, hk.2⟩⟩))), (Kd.QA HO_7.out), (BA BK265.out), (BA BK291.out), GW291.out, GE291.out, NB265_291.out, NB291_265.out, (LG HB.out (G1 GE265.out (G1 GE291.out G0)))⟩)
                      · skip
                        refine box_step ?hg (N := 12) ?hd (cs := #[.int .i64 0, .bool false, .slice none 0 0]) (t := 31) ?hr ?_; (case hd => rfl); (case hg => rfl); (case hr => first | (go_simp; done) | (go_simp; rfl))
                        intro gb291 hg w73 hbox hb
                        have n0_ := Aside0.mk (Kd.Q_below (Kd.QA HO_7.out) hb)
                        have n1_ := Aside0.mk (Kd.V_below (Kd.V_elderB (Kd.VA HO_266002.out) gb291 (Nat.le_of_eq hg.symm)) hb)
                        have n2_ := Aside0.mk (blk_below (BA BK265.out) hb)
                        have n3_ := Aside0.mk (below_step (LG HB.out (G1 GE265.out G0)) hb)
                        have n4_ := Aside0.mk (hbox)
                        have n5_ := Aside0.mk (ge1 hg (LG HB.out (G1 GE265.out G0)))
                        have n6_ := Aside0.mk (ge1 hg (LG HB.out (G1 GE265.out G0)))
                        have n7_ := Aside0.mk ((by rw [hg]; exact Nat.ne_of_lt (blk_lt (g := gb265) (o := .cells #[.int .i64 x266000_2, .bool x266001_2, .slice Ao71 x266002_2.length co71] 31 (0, 0)) (BA BK265.out)) : gb265 ≠ gb291))
                        have n8_ := Aside0.mk ((by rw [hg]; exact Nat.ne_of_gt (blk_lt (g := gb265) (o := .cells #[.int .i64 x266000_2, .bool x266001_2, .slice Ao71 x266002_2.length co71] 31 (0, 0)) (BA BK265.out)) : gb291 ≠ gb265))
                        clear HO_7
                        clear HO_266002
                        clear BK265
                        clear HB
                        have HO_7 := n0_
                        have HO_266002 := n1_
                        have BK265 := n2_
                        have HB := n3_
                        have BK291 := n4_
                        have GW291 := n5_
                        have GE291 := n6_
                        have NB265_291 := n7_
                        have NB291_265 := n8_
                        clear n0_ n1_ n2_ n3_ n4_ n5_ n6_ n7_ n8_
                        clear hb hbox hg
                        refine hK.out _ _ ⟨(blk_cell BK265.out 0).trans rfl, (blk_cell BK265.out 1).trans rfl, (blk_cell BK265.out 2).trans rfl, ((HB.out.cell (World.block_lt_of_cell? w _ hw284_0)).trans hw284_0)⟩ (fun hHeld => ?_)
                        clear hK K
                        refine norm_ (a' := ?_) ?_ ?_
                        rotate_left
                        · show Act.put _ (some 12) _ = _
                          simp only [Act.put, PU, i64_w, i32_w]
                          rfl
                        refine one_ (i := 6) (N := some 108) #[true, true, true, true, true, true, true, false, false, false, true, false, false] rfl rfl (one_of HT_.out (by kernel_rfl)) (by decide) (fun K hK => ?_)
                        refine goes_ Try.func10 (by kernel_rfl) rfl #[.agg #[.int .i64 x266000_2, .bool x266001_2, .slice Ao71 x266002_2.length co71], .agg #[.int .i64 0, .int .i64 (rd l1 x8_2), .string (⟨#[]⟩ : ByteArray)]] (by rfl) rfl rfl (by (try simp only [List.map_toArray, List.map_cons, List.map_nil]); first | done | rfl | (simp only [List.length_drop, List.length_take]; rfl)) ?_
                        with_reducible refine (pipe_Pipe_Send.calls x266000_2 x266001_2 (fun k_ => ((some k_ ≠ (u7 : Value).ownBlock ∧ k_ ≠ gb265) ∧ k_ ≠ gb291)) _ _ x266002_2 0 (rd l1 x8_2) (⟨#[]⟩ : ByteArray) t285 t286 t287 t290 _ ?side1 A67.out).mono ?_
                        (case side1 => exact HO_266002.out)
                        rintro e w74 ⟨v288, rfl, ho0, hb⟩
                        refine ⟨_, rfl, ?_⟩
                        have n0_ := Aside0.mk (Kd.Q_below (Kd.QA HO_7.out) hb)
                        have n1_ := Aside0.mk (Kd.V_below (Kd.VA HO_266002.out) hb)
                        have n2_ := Aside0.mk (Kd.V_lower (Kd.V_mono (ok' := fun k_ => some k_ ≠ (u7 : Value).ownBlock ∧ k_ ≠ gb265 ∧ k_ ≠ gb291) ho0 (fun k_ hk_ => ⟨Or.elim hk_ (fun hs_ => hs_.1.1) (fun hn_ => (Kd.fresh' (Kd.Q_lt (Kd.QA HO_7.out)) k_ hn_)), Or.elim hk_ (fun hs_ => hs_.1.2) (fun hn_ => (Kd.freshB (g := gb265) (o := .cells #[.int .i64 x266000_2, .bool x266001_2, .slice Ao71 x266002_2.length co71] 31 (0, 0)) (BA BK265.out) k_ hn_)), Or.elim hk_ (fun hs_ => hs_.2) (fun hn_ => (Kd.freshB (g := gb291) (o := .cells #[.int .i64 0, .bool false, .slice none 0 0] 31 (0, 0)) (BA BK291.out) k_ hn_))⟩)) (below_size (LG HB.out (G1 GE265.out (G1 GE291.out G0)))))
                        have n3_ := Aside0.mk (blk_below (BA BK265.out) hb)
                        have n4_ := Aside0.mk (blk_below (BA BK291.out) hb)
                        have n5_ := Aside0.mk (below_step (LG HB.out (G1 GE265.out (G1 GE291.out G0))) hb)
                        clear HO_7
                        clear HO_266002
                        clear BK265
                        clear BK291
                        clear HB
                        have HO_7 := n0_
                        have HO_266002 := n1_
                        have HO289 := n2_
                        have BK265 := n3_
                        have BK291 := n4_
                        have HB := n5_
                        clear n0_ n1_ n2_ n3_ n4_ n5_
                        (try clear hb)
                        (try clear hb2)
                        (try clear hk)
                        (try clear hi)
                        (try clear ho0)
                        refine hK.out _ _ ⟨(blk_cell BK265.out 0).trans rfl, (blk_cell BK265.out 1).trans rfl, (blk_cell BK265.out 2).trans rfl, ((HB.out.cell (World.block_lt_of_cell? w _ hw284_0)).trans hw284_0)⟩ (fun hHeld => ?_)
                        clear hK K
                        refine norm_ (a' := ?_) ?_ ?_
                        rotate_left
                        · show Act.put _ (some 108) _ = _
                          simp only [Act.put, PU, i64_w, i32_w]
                          rfl
                        refine pure_ (i := 7) (N := some 101) (v := ?_) (a' := ?_) #[true, true, true, true, true, true, true, true, false, false, true, false, false] rfl rfl (any_of HT_.out (by kernel_rfl)) (fun _ _ _ h => h) (Or.inl ⟨by rfl, ?_⟩) ?_ ?_
                        rotate_left
                        · intro w'
                          go_simp
                          with_reducible rfl
                        rotate_left
                        · simp only [Act.put, PU, i64_w, i32_w]
                          rfl
                        refine pure_ (i := 8) (N := some 109) (v := ?_) (a' := ?_) #[true, true, true, true, true, true, true, true, true, false, true, false, false] rfl rfl (any_of HT_.out (by kernel_rfl)) (fun _ _ _ h => h) (Or.inl ⟨by rfl, ?_⟩) ?_ ?_
                        rotate_left
                        · intro w'
                          go_simp
                          with_reducible rfl
                        rotate_left
                        · simp only [Act.put, PU, i64_w, i32_w]
                          rfl
                        refine pure_ (i := 9) (N := some 110) (v := ?_) (a' := ?_) (tf 11 13) rfl rfl (any_of HT_.out (by kernel_rfl)) (fun _ _ _ h => h) (Or.inl ⟨by rfl, ?_⟩) ?_ ?_
                        rotate_left
                        · intro w'
                          go_simp
                          with_reducible rfl
                        rotate_left
                        · simp only [Act.put, PU, i64_w, i32_w]
                          rfl
                        exact norm_ (by simp only [putAll, Act.put, PU]) (hCont (v288, gb291) _ ⟨hHeld, (Kd.VA HO289.out), (Kd.VA (Kd.V_mono HO_266002.out (fun _ hk => ⟨hk.1.1, ⟨hk.1.2, hk.2⟩⟩))), (Kd.QA HO_7.out), (BA BK265.out), (BA BK291.out), GW291.out, GE291.out, NB265_291.out, NB291_265.out, (LG HB.out (G1 GE265.out (G1 GE291.out G0)))⟩)
                    rintro ⟨v288, gb291⟩ w75 ⟨hS_, h0_, h1_, h2_, h3_, h4_, h5_, h6_, h7_, h8_, h9_⟩
                    have n0_ : Aside0 (Kd.V k36 36 w75 w.heap.size (fun k_ => some k_ ≠ (u7 : Value).ownBlock ∧ k_ ≠ gb265 ∧ k_ ≠ gb291) v288 t287) := ⟨h0_⟩
                    have n1_ : Aside0 (Kd.V k36 36 w75 w.heap.size (fun k_ => some k_ ≠ (u7 : Value).ownBlock ∧ k_ ≠ gb265 ∧ k_ ≠ gb291) (.slice Ao71 x266002_2.length co71) x266002_2) := ⟨h1_⟩
                    have n2_ : Aside0 (Kd.Q (Kd.int .i64) 3 w75 w.heap.size (fun _ => True) u7 x7_2) := ⟨h2_⟩
                    have n3_ : Aside0 (w75.heap[gb265]? = some (.cells #[.int .i64 x266000_2, .bool x266001_2, .slice Ao71 x266002_2.length co71] 31 (0, 0))) := ⟨h3_⟩
                    have n4_ : Aside0 (w75.heap[gb291]? = some (.cells #[.int .i64 0, .bool false, .slice none 0 0] 31 (0, 0))) := ⟨h4_⟩
                    have n5_ : Aside0 (w.heap.size ≤ gb291) := ⟨h5_⟩
                    have n6_ : Aside0 (w.heap.size ≤ gb291) := ⟨h6_⟩
                    have n7_ : Aside0 (gb265 ≠ gb291) := ⟨h7_⟩
                    have n8_ : Aside0 (gb291 ≠ gb265) := ⟨h8_⟩
                    have n9_ : Aside0 (Below w.heap.size w w75) := ⟨h9_⟩
                    clear HO_7
                    clear HO_266002
                    clear BK265
                    clear HB
                    clear h0_ h1_ h2_ h3_ h4_ h5_ h6_ h7_ h8_ h9_
                    have HO289 := n0_
                    have HO_266002 := n1_
                    have HO_7 := n2_
                    have BK265 := n3_
                    have BK291 := n4_
                    have GW291 := n5_
                    have GE291 := n6_
                    have NB265_291 := n7_
                    have NB291_265 := n8_
                    have HB := n9_
                    clear n0_ n1_ n2_ n3_ n4_ n5_ n6_ n7_ n8_ n9_
                    have hHeld : w75.cell? ⟨gb265, 0, none⟩ = some (.int .i64 x266000_2) ∧ w75.cell? ⟨gb265, 1, none⟩ = some (.bool x266001_2) ∧ w75.cell? ⟨gb265, 2, none⟩ = some (.slice Ao71 x266002_2.length co71) ∧ w75.cell? (ad268.add (x8_2).toNat) = some (.int .i64 (rd l1 x8_2)) := hS_
                    obtain ⟨Ao78, co78, eo78⟩ := Kd.V_slice HO289.out
                    (first | subst eo78 | (injection eo78 with f1_ f2_ f3_; have f4_ := f1_.symm; have f5_ := f3_.symm; clear f1_ f2_ f3_; subst f4_; subst f5_))
                    refine norm_ (a' := ?_) ?_ ?_
                    rotate_left
                    · simp only [putAll, Act.put, PU]
                      rfl
                    refine one_ (i := 11) (N := none) (tf 12 13) rfl rfl (one_of HT_.out (by kernel_rfl)) (by decide) (fun K hK => ?_)
                    have hs76 : w75.cell? ⟨gb291, 0, none⟩ = some (.int .i64 0) := (blk_cell BK291.out 0).trans rfl
                    have hfs76 := blk_frozen BK291.out 0
                    have hns76_0 := NB265_291.out
                    have hms76_0 := NB291_265.out
                    have hs77 : w75.cell? ⟨gb291, 1, none⟩ = some (.bool false) := (blk_cell BK291.out 1).trans rfl
                    have hfs77 := blk_frozen BK291.out 1
                    have hns77_0 := NB265_291.out
                    have hms77_0 := NB291_265.out
                    have hs79 : w75.cell? ⟨gb291, 2, none⟩ = some (.slice none 0 0) := (blk_cell BK291.out 2).trans rfl
                    have hfs79 := blk_frozen BK291.out 2
                    have hns79_0 := NB265_291.out
                    have hms79_0 := NB291_265.out
                    refine skip_ (w1 := ?_) (by rfl) rfl ?_ ?_
                    rotate_left
                    · go_simp
                      rfl
                    refine hK.out _ _ ⟨((cell_far (p := ⟨gb291, _, none⟩) NB265_291.out _).trans (((cell_far (p := ⟨gb291, _, none⟩) NB265_291.out _).trans (((cell_far (p := ⟨gb291, _, none⟩) NB265_291.out _).trans (hHeld.1)))))), ((cell_far (p := ⟨gb291, _, none⟩) NB265_291.out _).trans (((cell_far (p := ⟨gb291, _, none⟩) NB265_291.out _).trans (((cell_far (p := ⟨gb291, _, none⟩) NB265_291.out _).trans (hHeld.2.1)))))), ((cell_far (p := ⟨gb291, _, none⟩) NB265_291.out _).trans (((cell_far (p := ⟨gb291, _, none⟩) NB265_291.out _).trans (((cell_far (p := ⟨gb291, _, none⟩) NB265_291.out _).trans (hHeld.2.2.1)))))), ((cell_far (p := ⟨gb291, _, none⟩) (by first | exact Nat.ne_of_lt (Nat.lt_of_lt_of_le (by have := World.block_lt_of_cell? _ _ hw284_0; first | rwa [add_block] at this | exact this) GW291.out) | (rw [add_block]; exact Nat.ne_of_lt (Nat.lt_of_lt_of_le (by have := World.block_lt_of_cell? _ _ hw284_0; first | rwa [add_block] at this | exact this) GW291.out)) | (show (Addr.add _ _).block ≠ _; rw [add_block]; exact Nat.ne_of_lt (Nat.lt_of_lt_of_le (by have := World.block_lt_of_cell? _ _ hw284_0; first | rwa [add_block] at this | exact this) GW291.out)) | (dsimp only; exact Nat.ne_of_lt (Nat.lt_of_lt_of_le (by have := World.block_lt_of_cell? _ _ hw284_0; first | rwa [add_block] at this | exact this) GW291.out))) _).trans (((cell_far (p := ⟨gb291, _, none⟩) (by first | exact Nat.ne_of_lt (Nat.lt_of_lt_of_le (by have := World.block_lt_of_cell? _ _ hw284_0; first | rwa [add_block] at this | exact this) GW291.out) | (rw [add_block]; exact Nat.ne_of_lt (Nat.lt_of_lt_of_le (by have := World.block_lt_of_cell? _ _ hw284_0; first | rwa [add_block] at this | exact this) GW291.out)) | (show (Addr.add _ _).block ≠ _; rw [add_block]; exact Nat.ne_of_lt (Nat.lt_of_lt_of_le (by have := World.block_lt_of_cell? _ _ hw284_0; first | rwa [add_block] at this | exact this) GW291.out)) | (dsimp only; exact Nat.ne_of_lt (Nat.lt_of_lt_of_le (by have := World.block_lt_of_cell? _ _ hw284_0; first | rwa [add_block] at this | exact this) GW291.out))) _).trans (((cell_far (p := ⟨gb291, _, none⟩) (by first | exact Nat.ne_of_lt (Nat.lt_of_lt_of_le (by have := World.block_lt_of_cell? _ _ hw284_0; first | rwa [add_block] at this | exact this) GW291.out) | (rw [add_block]; exact Nat.ne_of_lt (Nat.lt_of_lt_of_le (by have := World.block_lt_of_cell? _ _ hw284_0; first | rwa [add_block] at this | exact this) GW291.out)) | (show (Addr.add _ _).block ≠ _; rw [add_block]; exact Nat.ne_of_lt (Nat.lt_of_lt_of_le (by have := World.block_lt_of_cell? _ _ hw284_0; first | rwa [add_block] at this | exact this) GW291.out)) | (dsimp only; exact Nat.ne_of_lt (Nat.lt_of_lt_of_le (by have := World.block_lt_of_cell? _ _ hw284_0; first | rwa [add_block] at this | exact this) GW291.out))) _).trans (hHeld.2.2.2))))))⟩ (fun hHeld => ?_)
                    clear hK K
                    refine pure_ (i := 12) (N := some 13) (v := ?_) (a' := ?_) (tf 13 13) rfl rfl (any_of HT_.out (by kernel_rfl)) (fun _ _ _ h => h) (Or.inl ⟨by rfl, ?_⟩) ?_ ?_
                    rotate_left
                    · intro w'
                      go_simp
                      with_reducible rfl
                    rotate_left
                    · simp only [Act.put, PU, i64_w, i32_w]
                      rfl
                    refine done_ (done_of HT_.out (by kernel_rfl)) ?_
                    obtain ⟨Ao80, co80, eo80, _⟩ := Kd.Q_slice HO_7.out
                    subst eo80
                    have p292 : 0 ≤ (x8_2 : Int) := of_decide_eq_true (by first | (with_reducible assumption) | assumption)
                    have q292 : x8_2 < (l1.length : Int) := of_decide_eq_true (by first | (with_reducible assumption) | assumption)
                    obtain ⟨ad292, e292, hx292_0⟩ := Kd.at_int HR1.out x8_2 p292 q292
                    obtain rfl : ad268 = ad292 := (by injection e292)
                    have hn292_0 : ad268.block ≠ gb291 := Nat.ne_of_lt (Nat.lt_of_lt_of_le (by have := World.block_lt_of_cell? _ _ hx292_0; first | rwa [add_block] at this | exact this) GW291.out)
                    have hn292_1 : ad268.block ≠ gb291 := Nat.ne_of_lt (Nat.lt_of_lt_of_le (by have := World.block_lt_of_cell? _ _ hx292_0; first | rwa [add_block] at this | exact this) GW291.out)
                    have hn292_2 : ad268.block ≠ gb291 := Nat.ne_of_lt (Nat.lt_of_lt_of_le (by have := World.block_lt_of_cell? _ _ hx292_0; first | rwa [add_block] at this | exact this) GW291.out)
                    replace hx292_0 := (HB.out.cell (World.block_lt_of_cell? w _ hx292_0)).trans hx292_0
                    replace hx292_0 := (cell_far (p := ⟨gb291, 0, none⟩) (by first | (rw [add_block]; exact hn292_0) | (show (Addr.add _ _).block ≠ _; rw [add_block]; exact hn292_0) | exact hn292_0) (.int .i64 t285)).trans hx292_0
                    replace hx292_0 := (cell_far (p := ⟨gb291, 1, none⟩) (by first | (rw [add_block]; exact hn292_1) | (show (Addr.add _ _).block ≠ _; rw [add_block]; exact hn292_1) | exact hn292_1) (.bool t286)).trans hx292_0
                    replace hx292_0 := (cell_far (p := ⟨gb291, 2, none⟩) (by first | (rw [add_block]; exact hn292_2) | (show (Addr.add _ _).block ≠ _; rw [add_block]; exact hn292_2) | exact hn292_2) (.slice Ao78 t287.length co78)).trans hx292_0
                    clear hn292_0
                    clear hn292_1
                    clear hn292_2
                    replace p292 := eq_true p292
                    replace q292 := eq_true q292
                    try go_wp2_with (first | ((with_reducible refine gate_builtin (b := .append) (xs := #[.tmp 120, .tmp 125]) rfl ?_); (try (refine gate_guard (by rfl) ?_; dsimp only)); at_builtin; refine Kd.Q_append (Kd.int .i64) (w0 := w) w.heap.size rfl (.tmp 120) (.tmp 125) 50 3 (.int .i64 0) 8 rfl Try.underlying50 info3 rfl (by decide) (by omega) (.slice Ao80 x7_2.length co80) x7_2 (rd l1 x8_2) [.int .i64 (rd l1 x8_2)] (fun _ => True) (fun _ => False) rfl (by first | (go_simp; done) | (go_simp; rfl)) ?aP (fun _ hk => hk.elim) ?aF ?aO ?aB ?aS ?aL ?_; (case aP => exact rfl); (case aB => exact (LG HB.out (G1 GE291.out G0))); (case aF => exact (fun _ _ => trivial)); (case aO => exact (Kd.Q_mono (Kd.Q_mv (g := gb291) (Kd.Q_types HO_7.out BK291.out (by decide)) (fun _ hk => hk.2)) (fun _ hk => trivial))); (case aS => exact (below_size (LG HB.out (G1 GE291.out G0)))); (case aL => have := LMc70.out; omega); intro v294 w81 ho hb hg hat; rw [← Ny293.out] at ho; replace BK265 := Aside0.mk (blk_grown (g := gb265) (o := .cells #[.int .i64 x266000_2, .bool x266001_2, .slice Ao71 x266002_2.length co71] 31 (0, 0)) (BF BK265.out NB265_291.out) hg (Kd.Q_ne HO_7.out BK265.out (by decide))); replace HO289 := Aside0.mk (Kd.V_afterv (ok := (fun k_ => k_ ≠ gb265 ∧ k_ ≠ gb291)) (Kd.V_mono (Kd.V_mv (g := gb291) (Kd.V_mono HO289.out (fun k_ hk => (⟨hk, hk.2.2⟩ : _ ∧ k_ ≠ gb291))) (fun _ hk => hk.2)) (fun _ hk => ⟨⟨hk.1.2.1, hk.1.2.2⟩, hk.1.1⟩)) hg hat); replace BK291 := Aside0.mk (blk_grown (g := gb291) (o := .cells #[.int .i64 t285, .bool t286, .slice Ao78 t287.length co78] 31 (0, 0)) (BP BK291.out (by rfl)) hg (Kd.Q_ne HO_7.out BK291.out (by decide))); replace HB := Aside0.mk (hb); have HO295 := Aside0.mk (ho); clear HO_7; (try clear HO_266002); clear ho hb hg hat; have hnb82 := NB291_265.out; have hnc82 := NB265_291.out; obtain ⟨hcz83_0, hcz83_1, hcz83_2, hfz83_0, hfz83_1, hfz83_2⟩ := cz3 BK291.out; obtain ⟨hcz84_0, hcz84_1, hcz84_2, hfz84_0, hfz84_1, hfz84_2⟩ := cz3 BK265.out))
                    go_roundg k2
                    case measure => have := HJ3.out; have := HK2.out; omega
                    case rel => exact ⟨(y293), (wrap64 (x8_2 + 1)), (t285), (t286), (t287), (.slice Ao78 t287.length co78), (by first | (rw [HR_.out]; done) | rfl | (rw [HR_.out]; rfl) | (simp [HR_.out]; done) | (simp; done) | (simp [*]; done)), H', ⟨by have := HJ3.out; have := HK2.out; omega⟩, ⟨by (with_reducible repeat (first | apply Kd.Q_alloc | apply Kd.Q_drewN | apply Kd.Q_drew)); exact Kd.Q_mono (Kd.Q_mv (g := gb265) (Kd.Q_types HO295.out BK265.out (by decide)) (fun _ hk => hk.2)) (fun _ hk => trivial)⟩, ⟨by (with_reducible repeat (first | apply Kd.V_alloc | apply Kd.V_drewN | apply Kd.V_drew)); exact Kd.V_mono (Kd.V_mv (g := gb265) (Kd.V_mono HO289.out (fun k_ hk => (⟨hk, hk.1.1⟩ : _ ∧ k_ ≠ gb265))) (fun _ hk => hk.2)) (fun _ hk => ⟨hk.1.2, hk.1.1.1⟩)⟩, ⟨by exact BP BK265.out (by rfl)⟩, ⟨LG HB.out (G1 GE265.out (G1 GE291.out G0))⟩⟩
                  · rw [if_neg c69] at H
                    have c69b0 : (t290 == 0) = false := beq_eq_false_iff_ne.mpr c69
                    (try (have c69x : (decide ((x7_2.length : Int) < a0)) = false := by simpa [c69b0] using c68b0))
                    have c69b1 : (t290 != 0) = true := bne_iff_ne.mpr c69
                    have H' := Aside0.mk H
                    clear H
                    have p268 : 0 ≤ (x8_2 : Int) := of_decide_eq_true (by first | (with_reducible assumption) | assumption)
                    have q268 : x8_2 < (l1.length : Int) := of_decide_eq_true (by first | (with_reducible assumption) | assumption)
                    obtain ⟨ad268, e268, hx268_0⟩ := Kd.at_int HR1.out x8_2 p268 q268
                    cases e268
                    replace hx268_0 := (HB.out.cell (World.block_lt_of_cell? w _ hx268_0)).trans hx268_0
                    replace p268 := eq_true p268
                    replace q268 := eq_true q268
                    obtain ⟨Ao85, co85, eo85⟩ := Kd.V_slice HO_266002.out
                    subst eo85
                    try go_wp2
                    have n0_ := Aside0.mk (Kd.Q_drew HO_7.out)
                    have n1_ := Aside0.mk (Kd.V_drew HO_266002.out)
                    have n2_ := Aside0.mk (blk_drew BK265.out)
                    have n3_ := Aside0.mk (below_drew1 HB.out)
                    clear HO_7
                    clear HO_266002
                    clear BK265
                    clear HB
                    have HO_7 := n0_
                    have HO_266002 := n1_
                    have BK265 := n2_
                    have HB := n3_
                    clear n0_ n1_ n2_ n3_
                    have p284 : 0 ≤ (x8_2 : Int) := of_decide_eq_true (by first | (with_reducible assumption) | assumption)
                    have q284 : x8_2 < (l1.length : Int) := of_decide_eq_true (by first | (with_reducible assumption) | assumption)
                    obtain ⟨ad284, e284, hx284_0⟩ := Kd.at_int HR1.out x8_2 p284 q284
                    have hw284_0 := hx284_0
                    obtain rfl : ad268 = ad284 := (by injection e284)
                    replace hx284_0 := (HB.out.cell (World.block_lt_of_cell? w _ hx284_0)).trans hx284_0
                    replace p284 := eq_true p284
                    replace q284 := eq_true q284
                    refine start_ (n := 13) (S := fun w' => w'.cell? ⟨gb265, 0, none⟩ = some (.int .i64 x266000_2) ∧ w'.cell? ⟨gb265, 1, none⟩ = some (.bool x266001_2) ∧ w'.cell? ⟨gb265, 2, none⟩ = some (.slice Ao85 x266002_2.length co85) ∧ w'.cell? (ad268.add (x8_2).toNat) = some (.int .i64 (rd l1 x8_2))) (ds := []) (tf 0 13) (by kernel_rfl) rfl rfl ⟨(blk_cell BK265.out 0).trans rfl, (blk_cell BK265.out 1).trans rfl, (blk_cell BK265.out 2).trans rfl, ((HB.out.cell (World.block_lt_of_cell? w _ hw284_0)).trans hw284_0)⟩ (fun hHeld => ?_); refine with_tabW hopperlaw08_PipeRows.tab15 hopperlaw08_PipeRows.bits15 (fun HT_ HW_ => ?_)
                    generalize wr.drew = w86 at HO_7 HO_266002 BK265 HB hx284_0 hHeld ⊢
                    refine pure_ (i := 1) (N := some 103) (v := ?_) (a' := ?_) #[false, true, false, false, false, false, false, false, false, false, false, false, false] rfl rfl (any_of HT_.out (by kernel_rfl)) (fun _ _ _ h => h) (Or.inl ⟨by rfl, ?_⟩) ?_ ?_
                    rotate_left
                    · intro w'
                      go_simp
                      with_reducible rfl
                    rotate_left
                    · simp only [Act.put, PU, i64_w, i32_w]
                      rfl
                    refine pure_ (i := 2) (N := some 104) (v := ?_) (a' := ?_) #[false, true, true, false, false, false, false, false, false, false, false, false, false] rfl rfl (any_of HT_.out (by kernel_rfl)) (fun _ _ _ h => h) (Or.inl ⟨by rfl, ?_⟩) ?_ ?_
                    rotate_left
                    · intro w'
                      go_simp
                      with_reducible rfl
                    rotate_left
                    · simp only [Act.put, PU, i64_w, i32_w]
                      rfl
                    refine pure_ (i := 3) (N := some 105) (v := ?_) (a' := ?_) #[false, true, true, true, false, false, false, false, false, false, false, false, false] rfl rfl (any_of HT_.out (by kernel_rfl)) (fun _ _ _ h => h) (Or.inl ⟨by rfl, ?_⟩) ?_ ?_
                    rotate_left
                    · intro w'
                      go_simp
                      with_reducible rfl
                    rotate_left
                    · simp only [Act.put, PU, i64_w, i32_w]
                      rfl
                    refine take_ (i := 0) (N := some 102) (v := ?_) (a' := ?_) (tf 4 13) rfl rfl (take_ofW HT_.out HW_.out (by kernel_rfl)) (fun _ _ _ h => h) (Or.inl ⟨by rfl, ?_⟩) hHeld ?_ ?_
                    rotate_left
                    · rintro w' ⟨s0, s1, s2, s3⟩
                      go_simp
                      with_reducible rfl
                    rotate_left
                    · simp only [Act.put, PU, i64_w, i32_w]
                      rfl
                    refine take_ (i := 4) (N := some 106) (v := ?_) (a' := ?_) (tf 5 13) rfl rfl (take_ofW HT_.out HW_.out (by kernel_rfl)) (fun _ _ _ h => h) (Or.inl ⟨by rfl, ?_⟩) hHeld ?_ ?_
                    rotate_left
                    · rintro w' ⟨s0, s1, s2, s3⟩
                      go_simp
                      with_reducible rfl
                    rotate_left
                    · simp only [Act.put, PU, i64_w, i32_w]
                      rfl
                    refine pure_ (i := 5) (N := some 107) (v := ?_) (a' := ?_) (tf 6 13) rfl rfl (any_of HT_.out (by kernel_rfl)) (fun _ _ _ h => h) (Or.inl ⟨by rfl, ?_⟩) ?_ ?_
                    rotate_left
                    · intro w'
                      go_simp
                      with_reducible rfl
                    rotate_left
                    · simp only [Act.put, PU, i64_w, i32_w]
                      rfl
                    refine join_ (σ := Value × Nat) 2 (tf 11 13) (fun s_ => [(108, .tuple #[.agg #[.int .i64 t285, .bool t286, s_.1], .int .i64 t290]), (12, .pointer (some ⟨s_.2, 0, none⟩)), (101, .tuple #[.agg #[.int .i64 t285, .bool t286, s_.1], .int .i64 t290]), (109, .agg #[.int .i64 t285, .bool t286, s_.1]), (110, .int .i64 t290)]) (fun s_ w' => (w'.cell? ⟨gb265, 0, none⟩ = some (.int .i64 x266000_2) ∧ w'.cell? ⟨gb265, 1, none⟩ = some (.bool x266001_2) ∧ w'.cell? ⟨gb265, 2, none⟩ = some (.slice Ao85 x266002_2.length co85) ∧ w'.cell? (ad268.add (x8_2).toNat) = some (.int .i64 (rd l1 x8_2))) ∧ (Kd.V k36 36 w' w.heap.size (fun k_ => some k_ ≠ (u7 : Value).ownBlock ∧ k_ ≠ gb265 ∧ k_ ≠ s_.2) s_.1 t287) ∧ (Kd.V k36 36 w' w.heap.size (fun k_ => some k_ ≠ (u7 : Value).ownBlock ∧ k_ ≠ gb265 ∧ k_ ≠ s_.2) (.slice Ao85 x266002_2.length co85) x266002_2) ∧ (Kd.Q (Kd.int .i64) 3 w' w.heap.size (fun _ => True) u7 x7_2) ∧ (w'.heap[gb265]? = some (.cells #[.int .i64 x266000_2, .bool x266001_2, .slice Ao85 x266002_2.length co85] 31 (0, 0))) ∧ (w'.heap[s_.2]? = some (.cells #[.int .i64 0, .bool false, .slice none 0 0] 31 (0, 0))) ∧ (w.heap.size ≤ s_.2) ∧ (w.heap.size ≤ s_.2) ∧ (gb265 ≠ s_.2) ∧ (s_.2 ≠ gb265) ∧ (Below w.heap.size w w')) ?_ ?_
                    rotate_left
                    · intro hCont
                      refine two_ (i := 6) (j := 10) (Ni := some 108) (Nj := some 12) (tf 7 13) #[true, true, true, true, true, true, false, false, false, false, true, false, false] rfl rfl rfl rfl (two_of HT_.out (by kernel_rfl)) (by decide) (by decide) (fun K hK => ?_) (fun K hK => ?_)
                      · skip
                        refine goes_ Try.func10 (by kernel_rfl) rfl #[.agg #[.int .i64 x266000_2, .bool x266001_2, .slice Ao85 x266002_2.length co85], .agg #[.int .i64 0, .int .i64 (rd l1 x8_2), .string (⟨#[]⟩ : ByteArray)]] (by rfl) rfl rfl (by (try simp only [List.map_toArray, List.map_cons, List.map_nil]); first | done | rfl | (simp only [List.length_drop, List.length_take]; rfl)) ?_
                        with_reducible refine (pipe_Pipe_Send.calls x266000_2 x266001_2 (fun k_ => (some k_ ≠ (u7 : Value).ownBlock ∧ k_ ≠ gb265)) _ _ x266002_2 0 (rd l1 x8_2) (⟨#[]⟩ : ByteArray) t285 t286 t287 t290 _ ?side1 A67.out).mono ?_
                        (case side1 => exact HO_266002.out)
                        rintro e w87 ⟨v288, rfl, ho0, hb⟩
                        refine ⟨_, rfl, ?_⟩
                        have n0_ := Aside0.mk (Kd.Q_below (Kd.QA HO_7.out) hb)
                        have n1_ := Aside0.mk (Kd.V_below (Kd.VA HO_266002.out) hb)
                        have n2_ := Aside0.mk (Kd.V_lower (Kd.V_mono (ok' := fun k_ => some k_ ≠ (u7 : Value).ownBlock ∧ k_ ≠ gb265) ho0 (fun k_ hk_ => ⟨Or.elim hk_ (fun hs_ => hs_.1) (fun hn_ => (Kd.fresh' (Kd.Q_lt (Kd.QA HO_7.out)) k_ hn_)), Or.elim hk_ (fun hs_ => hs_.2) (fun hn_ => (Kd.freshB (g := gb265) (o := .cells #[.int .i64 x266000_2, .bool x266001_2, .slice Ao85 x266002_2.length co85] 31 (0, 0)) (BA BK265.out) k_ hn_))⟩)) (below_size (LG HB.out (G1 GE265.out G0))))
                        have n3_ := Aside0.mk (blk_below (BA BK265.out) hb)
                        have n4_ := Aside0.mk (below_step (LG HB.out (G1 GE265.out G0)) hb)
                        clear HO_7
                        clear HO_266002
                        clear BK265
                        clear HB
                        have HO_7 := n0_
                        have HO_266002 := n1_
                        have HO289 := n2_
                        have BK265 := n3_
                        have HB := n4_
                        clear n0_ n1_ n2_ n3_ n4_
                        (try clear hb)
                        (try clear hb2)
                        (try clear hk)
                        (try clear hi)
                        (try clear ho0)
                        refine hK.out _ _ ⟨(blk_cell BK265.out 0).trans rfl, (blk_cell BK265.out 1).trans rfl, (blk_cell BK265.out 2).trans rfl, ((HB.out.cell (World.block_lt_of_cell? w _ hw284_0)).trans hw284_0)⟩ (fun hHeld => ?_)
                        clear hK K
                        refine norm_ (a' := ?_) ?_ ?_
                        rotate_left
                        · show Act.put _ (some 108) _ = _
                          simp only [Act.put, PU, i64_w, i32_w]
                          rfl
                        refine pure_ (i := 7) (N := some 101) (v := ?_) (a' := ?_) (tf 8 13) rfl rfl (any_of HT_.out (by kernel_rfl)) (fun _ _ _ h => h) (Or.inl ⟨by rfl, ?_⟩) ?_ ?_
                        rotate_left
                        · intro w'
                          go_simp
                          with_reducible rfl
                        rotate_left
                        · simp only [Act.put, PU, i64_w, i32_w]
                          rfl
                        refine pure_ (i := 8) (N := some 109) (v := ?_) (a' := ?_) (tf 9 13) rfl rfl (any_of HT_.out (by kernel_rfl)) (fun _ _ _ h => h) (Or.inl ⟨by rfl, ?_⟩) ?_ ?_
                        rotate_left
                        · intro w'
                          go_simp
                          with_reducible rfl
                        rotate_left
                        · simp only [Act.put, PU, i64_w, i32_w]
                          rfl
                        refine pure_ (i := 9) (N := some 110) (v := ?_) (a' := ?_) (tf 10 13) rfl rfl (any_of HT_.out (by kernel_rfl)) (fun _ _ _ h => h) (Or.inl ⟨by rfl, ?_⟩) ?_ ?_
                        rotate_left
                        · intro w'
                          go_simp
                          with_reducible rfl
                        rotate_left
                        · simp only [Act.put, PU, i64_w, i32_w]
                          rfl
                        refine one_ (i := 10) (N := some 12) (tf 11 13) rfl rfl (one_of HT_.out (by kernel_rfl)) (by decide) (fun K hK => ?_)
                        refine box_step ?hg (N := 12) ?hd (cs := #[.int .i64 0, .bool false, .slice none 0 0]) (t := 31) ?hr ?_; (case hd => rfl); (case hg => rfl); (case hr => first | (go_simp; done) | (go_simp; rfl))
                        intro gb291 hg w88 hbox hb
                        have n0_ := Aside0.mk (Kd.Q_below (Kd.QA HO_7.out) hb)
                        have n1_ := Aside0.mk (Kd.V_below (Kd.V_elderB (Kd.VA HO_266002.out) gb291 (Nat.le_of_eq hg.symm)) hb)
                        have n2_ := Aside0.mk (Kd.V_below (Kd.V_elderB (Kd.VA HO289.out) gb291 (Nat.le_of_eq hg.symm)) hb)
                        have n3_ := Aside0.mk (blk_below (BA BK265.out) hb)
                        have n4_ := Aside0.mk (below_step (LG HB.out (G1 GE265.out G0)) hb)
                        have n5_ := Aside0.mk (hbox)
                        have n6_ := Aside0.mk (ge1 hg (LG HB.out (G1 GE265.out G0)))
                        have n7_ := Aside0.mk (ge1 hg (LG HB.out (G1 GE265.out G0)))
                        have n8_ := Aside0.mk ((by rw [hg]; exact Nat.ne_of_lt (blk_lt (g := gb265) (o := .cells #[.int .i64 x266000_2, .bool x266001_2, .slice Ao85 x266002_2.length co85] 31 (0, 0)) (BA BK265.out)) : gb265 ≠ gb291))
                        have n9_ := Aside0.mk ((by rw [hg]; exact Nat.ne_of_gt (blk_lt (g := gb265) (o := .cells #[.int .i64 x266000_2, .bool x266001_2, .slice Ao85 x266002_2.length co85] 31 (0, 0)) (BA BK265.out)) : gb291 ≠ gb265))
                        clear HO_7
                        clear HO_266002
                        clear HO289
                        clear BK265
                        clear HB
                        have HO_7 := n0_
                        have HO_266002 := n1_
                        have HO289 := n2_
                        have BK265 := n3_
                        have HB := n4_
                        have BK291 := n5_
                        have GW291 := n6_
                        have GE291 := n7_
                        have NB265_291 := n8_
                        have NB291_265 := n9_
                        clear n0_ n1_ n2_ n3_ n4_ n5_ n6_ n7_ n8_ n9_
                        clear hb hbox hg
                        refine hK.out _ _ ⟨(blk_cell BK265.out 0).trans rfl, (blk_cell BK265.out 1).trans rfl, (blk_cell BK265.out 2).trans rfl, ((HB.out.cell (World.block_lt_of_cell? w _ hw284_0)).trans hw284_0)⟩ (fun hHeld => ?_)
                        clear hK K
                        refine norm_ (a' := ?_) ?_ ?_
                        rotate_left
                        · show Act.put _ (some 12) _ = _
                          simp only [Act.put, PU, i64_w, i32_w]
                          rfl
                        exact norm_ (by simp only [putAll, Act.put, PU]) (hCont (v288, gb291) _ ⟨hHeld, (Kd.VA (Kd.V_mono HO289.out (fun _ hk => ⟨hk.1.1, ⟨hk.1.2, hk.2⟩⟩))), (Kd.VA (Kd.V_mono HO_266002.out (fun _ hk => ⟨hk.1.1, ⟨hk.1.2, hk.2⟩⟩))), (Kd.QA HO_7.out), (BA BK265.out), (BA BK291.out), GW291.out, GE291.out, NB265_291.out, NB291_265.out, (LG HB.out (G1 GE265.out (G1 GE291.out G0)))⟩)
                      · skip
                        refine box_step ?hg (N := 12) ?hd (cs := #[.int .i64 0, .bool false, .slice none 0 0]) (t := 31) ?hr ?_; (case hd => rfl); (case hg => rfl); (case hr => first | (go_simp; done) | (go_simp; rfl))
                        intro gb291 hg w87 hbox hb
                        have n0_ := Aside0.mk (Kd.Q_below (Kd.QA HO_7.out) hb)
                        have n1_ := Aside0.mk (Kd.V_below (Kd.V_elderB (Kd.VA HO_266002.out) gb291 (Nat.le_of_eq hg.symm)) hb)
                        have n2_ := Aside0.mk (blk_below (BA BK265.out) hb)
                        have n3_ := Aside0.mk (below_step (LG HB.out (G1 GE265.out G0)) hb)
                        have n4_ := Aside0.mk (hbox)
                        have n5_ := Aside0.mk (ge1 hg (LG HB.out (G1 GE265.out G0)))
                        have n6_ := Aside0.mk (ge1 hg (LG HB.out (G1 GE265.out G0)))
                        have n7_ := Aside0.mk ((by rw [hg]; exact Nat.ne_of_lt (blk_lt (g := gb265) (o := .cells #[.int .i64 x266000_2, .bool x266001_2, .slice Ao85 x266002_2.length co85] 31 (0, 0)) (BA BK265.out)) : gb265 ≠ gb291))
                        have n8_ := Aside0.mk ((by rw [hg]; exact Nat.ne_of_gt (blk_lt (g := gb265) (o := .cells #[.int .i64 x266000_2, .bool x266001_2, .slice Ao85 x266002_2.length co85] 31 (0, 0)) (BA BK265.out)) : gb291 ≠ gb265))
                        clear HO_7
                        clear HO_266002
                        clear BK265
                        clear HB
                        have HO_7 := n0_
                        have HO_266002 := n1_
                        have BK265 := n2_
                        have HB := n3_
                        have BK291 := n4_
                        have GW291 := n5_
                        have GE291 := n6_
                        have NB265_291 := n7_
                        have NB291_265 := n8_
                        clear n0_ n1_ n2_ n3_ n4_ n5_ n6_ n7_ n8_
                        clear hb hbox hg
                        refine hK.out _ _ ⟨(blk_cell BK265.out 0).trans rfl, (blk_cell BK265.out 1).trans rfl, (blk_cell BK265.out 2).trans rfl, ((HB.out.cell (World.block_lt_of_cell? w _ hw284_0)).trans hw284_0)⟩ (fun hHeld => ?_)
                        clear hK K
                        refine norm_ (a' := ?_) ?_ ?_
                        rotate_left
                        · show Act.put _ (some 12) _ = _
                          simp only [Act.put, PU, i64_w, i32_w]
                          rfl
                        refine one_ (i := 6) (N := some 108) #[true, true, true, true, true, true, true, false, false, false, true, false, false] rfl rfl (one_of HT_.out (by kernel_rfl)) (by decide) (fun K hK => ?_)
                        refine goes_ Try.func10 (by kernel_rfl) rfl #[.agg #[.int .i64 x266000_2, .bool x266001_2, .slice Ao85 x266002_2.length co85], .agg #[.int .i64 0, .int .i64 (rd l1 x8_2), .string (⟨#[]⟩ : ByteArray)]] (by rfl) rfl rfl (by (try simp only [List.map_toArray, List.map_cons, List.map_nil]); first | done | rfl | (simp only [List.length_drop, List.length_take]; rfl)) ?_
                        with_reducible refine (pipe_Pipe_Send.calls x266000_2 x266001_2 (fun k_ => ((some k_ ≠ (u7 : Value).ownBlock ∧ k_ ≠ gb265) ∧ k_ ≠ gb291)) _ _ x266002_2 0 (rd l1 x8_2) (⟨#[]⟩ : ByteArray) t285 t286 t287 t290 _ ?side1 A67.out).mono ?_
                        (case side1 => exact HO_266002.out)
                        rintro e w88 ⟨v288, rfl, ho0, hb⟩
                        refine ⟨_, rfl, ?_⟩
                        have n0_ := Aside0.mk (Kd.Q_below (Kd.QA HO_7.out) hb)
                        have n1_ := Aside0.mk (Kd.V_below (Kd.VA HO_266002.out) hb)
                        have n2_ := Aside0.mk (Kd.V_lower (Kd.V_mono (ok' := fun k_ => some k_ ≠ (u7 : Value).ownBlock ∧ k_ ≠ gb265 ∧ k_ ≠ gb291) ho0 (fun k_ hk_ => ⟨Or.elim hk_ (fun hs_ => hs_.1.1) (fun hn_ => (Kd.fresh' (Kd.Q_lt (Kd.QA HO_7.out)) k_ hn_)), Or.elim hk_ (fun hs_ => hs_.1.2) (fun hn_ => (Kd.freshB (g := gb265) (o := .cells #[.int .i64 x266000_2, .bool x266001_2, .slice Ao85 x266002_2.length co85] 31 (0, 0)) (BA BK265.out) k_ hn_)), Or.elim hk_ (fun hs_ => hs_.2) (fun hn_ => (Kd.freshB (g := gb291) (o := .cells #[.int .i64 0, .bool false, .slice none 0 0] 31 (0, 0)) (BA BK291.out) k_ hn_))⟩)) (below_size (LG HB.out (G1 GE265.out (G1 GE291.out G0)))))
                        have n3_ := Aside0.mk (blk_below (BA BK265.out) hb)
                        have n4_ := Aside0.mk (blk_below (BA BK291.out) hb)
                        have n5_ := Aside0.mk (below_step (LG HB.out (G1 GE265.out (G1 GE291.out G0))) hb)
                        clear HO_7
                        clear HO_266002
                        clear BK265
                        clear BK291
                        clear HB
                        have HO_7 := n0_
                        have HO_266002 := n1_
                        have HO289 := n2_
                        have BK265 := n3_
                        have BK291 := n4_
                        have HB := n5_
                        clear n0_ n1_ n2_ n3_ n4_ n5_
                        (try clear hb)
                        (try clear hb2)
                        (try clear hk)
                        (try clear hi)
                        (try clear ho0)
                        refine hK.out _ _ ⟨(blk_cell BK265.out 0).trans rfl, (blk_cell BK265.out 1).trans rfl, (blk_cell BK265.out 2).trans rfl, ((HB.out.cell (World.block_lt_of_cell? w _ hw284_0)).trans hw284_0)⟩ (fun hHeld => ?_)
                        clear hK K
                        refine norm_ (a' := ?_) ?_ ?_
                        rotate_left
                        · show Act.put _ (some 108) _ = _
                          simp only [Act.put, PU, i64_w, i32_w]
                          rfl
                        refine pure_ (i := 7) (N := some 101) (v := ?_) (a' := ?_) #[true, true, true, true, true, true, true, true, false, false, true, false, false] rfl rfl (any_of HT_.out (by kernel_rfl)) (fun _ _ _ h => h) (Or.inl ⟨by rfl, ?_⟩) ?_ ?_
                        rotate_left
                        · intro w'
                          go_simp
                          with_reducible rfl
                        rotate_left
                        · simp only [Act.put, PU, i64_w, i32_w]
                          rfl
                        refine pure_ (i := 8) (N := some 109) (v := ?_) (a' := ?_) #[true, true, true, true, true, true, true, true, true, false, true, false, false] rfl rfl (any_of HT_.out (by kernel_rfl)) (fun _ _ _ h => h) (Or.inl ⟨by rfl, ?_⟩) ?_ ?_
                        rotate_left
                        · intro w'
                          go_simp
                          with_reducible rfl
                        rotate_left
                        · simp only [Act.put, PU, i64_w, i32_w]
                          rfl
                        refine pure_ (i := 9) (N := some 110) (v := ?_) (a' := ?_) (tf 11 13) rfl rfl (any_of HT_.out (by kernel_rfl)) (fun _ _ _ h => h) (Or.inl ⟨by rfl, ?_⟩) ?_ ?_
                        rotate_left
                        · intro w'
                          go_simp
                          with_reducible rfl
                        rotate_left
                        · simp only [Act.put, PU, i64_w, i32_w]
                          rfl
                        exact norm_ (by simp only [putAll, Act.put, PU]) (hCont (v288, gb291) _ ⟨hHeld, (Kd.VA HO289.out), (Kd.VA (Kd.V_mono HO_266002.out (fun _ hk => ⟨hk.1.1, ⟨hk.1.2, hk.2⟩⟩))), (Kd.QA HO_7.out), (BA BK265.out), (BA BK291.out), GW291.out, GE291.out, NB265_291.out, NB291_265.out, (LG HB.out (G1 GE265.out (G1 GE291.out G0)))⟩)
                    rintro ⟨v288, gb291⟩ w89 ⟨hS_, h0_, h1_, h2_, h3_, h4_, h5_, h6_, h7_, h8_, h9_⟩
                    have n0_ : Aside0 (Kd.V k36 36 w89 w.heap.size (fun k_ => some k_ ≠ (u7 : Value).ownBlock ∧ k_ ≠ gb265 ∧ k_ ≠ gb291) v288 t287) := ⟨h0_⟩
                    have n1_ : Aside0 (Kd.V k36 36 w89 w.heap.size (fun k_ => some k_ ≠ (u7 : Value).ownBlock ∧ k_ ≠ gb265 ∧ k_ ≠ gb291) (.slice Ao85 x266002_2.length co85) x266002_2) := ⟨h1_⟩
                    have n2_ : Aside0 (Kd.Q (Kd.int .i64) 3 w89 w.heap.size (fun _ => True) u7 x7_2) := ⟨h2_⟩
                    have n3_ : Aside0 (w89.heap[gb265]? = some (.cells #[.int .i64 x266000_2, .bool x266001_2, .slice Ao85 x266002_2.length co85] 31 (0, 0))) := ⟨h3_⟩
                    have n4_ : Aside0 (w89.heap[gb291]? = some (.cells #[.int .i64 0, .bool false, .slice none 0 0] 31 (0, 0))) := ⟨h4_⟩
                    have n5_ : Aside0 (w.heap.size ≤ gb291) := ⟨h5_⟩
                    have n6_ : Aside0 (w.heap.size ≤ gb291) := ⟨h6_⟩
                    have n7_ : Aside0 (gb265 ≠ gb291) := ⟨h7_⟩
                    have n8_ : Aside0 (gb291 ≠ gb265) := ⟨h8_⟩
                    have n9_ : Aside0 (Below w.heap.size w w89) := ⟨h9_⟩
                    clear HO_7
                    clear HO_266002
                    clear BK265
                    clear HB
                    clear h0_ h1_ h2_ h3_ h4_ h5_ h6_ h7_ h8_ h9_
                    have HO289 := n0_
                    have HO_266002 := n1_
                    have HO_7 := n2_
                    have BK265 := n3_
                    have BK291 := n4_
                    have GW291 := n5_
                    have GE291 := n6_
                    have NB265_291 := n7_
                    have NB291_265 := n8_
                    have HB := n9_
                    clear n0_ n1_ n2_ n3_ n4_ n5_ n6_ n7_ n8_ n9_
                    have hHeld : w89.cell? ⟨gb265, 0, none⟩ = some (.int .i64 x266000_2) ∧ w89.cell? ⟨gb265, 1, none⟩ = some (.bool x266001_2) ∧ w89.cell? ⟨gb265, 2, none⟩ = some (.slice Ao85 x266002_2.length co85) ∧ w89.cell? (ad268.add (x8_2).toNat) = some (.int .i64 (rd l1 x8_2)) := hS_
                    obtain ⟨Ao92, co92, eo92⟩ := Kd.V_slice HO289.out
                    (first | subst eo92 | (injection eo92 with f1_ f2_ f3_; have f4_ := f1_.symm; have f5_ := f3_.symm; clear f1_ f2_ f3_; subst f4_; subst f5_))
                    refine norm_ (a' := ?_) ?_ ?_
                    rotate_left
                    · simp only [putAll, Act.put, PU]
                      rfl
                    refine one_ (i := 11) (N := none) (tf 12 13) rfl rfl (one_of HT_.out (by kernel_rfl)) (by decide) (fun K hK => ?_)
                    have hs90 : w89.cell? ⟨gb291, 0, none⟩ = some (.int .i64 0) := (blk_cell BK291.out 0).trans rfl
                    have hfs90 := blk_frozen BK291.out 0
                    have hns90_0 := NB265_291.out
                    have hms90_0 := NB291_265.out
                    have hs91 : w89.cell? ⟨gb291, 1, none⟩ = some (.bool false) := (blk_cell BK291.out 1).trans rfl
                    have hfs91 := blk_frozen BK291.out 1
                    have hns91_0 := NB265_291.out
                    have hms91_0 := NB291_265.out
                    have hs93 : w89.cell? ⟨gb291, 2, none⟩ = some (.slice none 0 0) := (blk_cell BK291.out 2).trans rfl
                    have hfs93 := blk_frozen BK291.out 2
                    have hns93_0 := NB265_291.out
                    have hms93_0 := NB291_265.out
                    refine skip_ (w1 := ?_) (by rfl) rfl ?_ ?_
                    rotate_left
                    · go_simp
                      rfl
                    refine hK.out _ _ ⟨((cell_far (p := ⟨gb291, _, none⟩) NB265_291.out _).trans (((cell_far (p := ⟨gb291, _, none⟩) NB265_291.out _).trans (((cell_far (p := ⟨gb291, _, none⟩) NB265_291.out _).trans (hHeld.1)))))), ((cell_far (p := ⟨gb291, _, none⟩) NB265_291.out _).trans (((cell_far (p := ⟨gb291, _, none⟩) NB265_291.out _).trans (((cell_far (p := ⟨gb291, _, none⟩) NB265_291.out _).trans (hHeld.2.1)))))), ((cell_far (p := ⟨gb291, _, none⟩) NB265_291.out _).trans (((cell_far (p := ⟨gb291, _, none⟩) NB265_291.out _).trans (((cell_far (p := ⟨gb291, _, none⟩) NB265_291.out _).trans (hHeld.2.2.1)))))), ((cell_far (p := ⟨gb291, _, none⟩) (by first | exact Nat.ne_of_lt (Nat.lt_of_lt_of_le (by have := World.block_lt_of_cell? _ _ hw284_0; first | rwa [add_block] at this | exact this) GW291.out) | (rw [add_block]; exact Nat.ne_of_lt (Nat.lt_of_lt_of_le (by have := World.block_lt_of_cell? _ _ hw284_0; first | rwa [add_block] at this | exact this) GW291.out)) | (show (Addr.add _ _).block ≠ _; rw [add_block]; exact Nat.ne_of_lt (Nat.lt_of_lt_of_le (by have := World.block_lt_of_cell? _ _ hw284_0; first | rwa [add_block] at this | exact this) GW291.out)) | (dsimp only; exact Nat.ne_of_lt (Nat.lt_of_lt_of_le (by have := World.block_lt_of_cell? _ _ hw284_0; first | rwa [add_block] at this | exact this) GW291.out))) _).trans (((cell_far (p := ⟨gb291, _, none⟩) (by first | exact Nat.ne_of_lt (Nat.lt_of_lt_of_le (by have := World.block_lt_of_cell? _ _ hw284_0; first | rwa [add_block] at this | exact this) GW291.out) | (rw [add_block]; exact Nat.ne_of_lt (Nat.lt_of_lt_of_le (by have := World.block_lt_of_cell? _ _ hw284_0; first | rwa [add_block] at this | exact this) GW291.out)) | (show (Addr.add _ _).block ≠ _; rw [add_block]; exact Nat.ne_of_lt (Nat.lt_of_lt_of_le (by have := World.block_lt_of_cell? _ _ hw284_0; first | rwa [add_block] at this | exact this) GW291.out)) | (dsimp only; exact Nat.ne_of_lt (Nat.lt_of_lt_of_le (by have := World.block_lt_of_cell? _ _ hw284_0; first | rwa [add_block] at this | exact this) GW291.out))) _).trans (((cell_far (p := ⟨gb291, _, none⟩) (by first | exact Nat.ne_of_lt (Nat.lt_of_lt_of_le (by have := World.block_lt_of_cell? _ _ hw284_0; first | rwa [add_block] at this | exact this) GW291.out) | (rw [add_block]; exact Nat.ne_of_lt (Nat.lt_of_lt_of_le (by have := World.block_lt_of_cell? _ _ hw284_0; first | rwa [add_block] at this | exact this) GW291.out)) | (show (Addr.add _ _).block ≠ _; rw [add_block]; exact Nat.ne_of_lt (Nat.lt_of_lt_of_le (by have := World.block_lt_of_cell? _ _ hw284_0; first | rwa [add_block] at this | exact this) GW291.out)) | (dsimp only; exact Nat.ne_of_lt (Nat.lt_of_lt_of_le (by have := World.block_lt_of_cell? _ _ hw284_0; first | rwa [add_block] at this | exact this) GW291.out))) _).trans (hHeld.2.2.2))))))⟩ (fun hHeld => ?_)
                    clear hK K
                    refine pure_ (i := 12) (N := some 13) (v := ?_) (a' := ?_) (tf 13 13) rfl rfl (any_of HT_.out (by kernel_rfl)) (fun _ _ _ h => h) (Or.inl ⟨by rfl, ?_⟩) ?_ ?_
                    rotate_left
                    · intro w'
                      go_simp
                      with_reducible rfl
                    rotate_left
                    · simp only [Act.put, PU, i64_w, i32_w]
                      rfl
                    refine done_ (done_of HT_.out (by kernel_rfl)) ?_
                    obtain ⟨Ao94, co94, eo94, _⟩ := Kd.Q_slice HO_7.out
                    subst eo94
                    have hnb95 := NB291_265.out
                    have hnc95 := NB265_291.out
                    have hcz96_0 : w89.cell? ⟨gb291, 0, none⟩ = some (.int .i64 0) := (blk_cell BK291.out 0).trans rfl
                    have hcz96_1 : w89.cell? ⟨gb291, 1, none⟩ = some (.bool false) := (blk_cell BK291.out 1).trans rfl
                    have hcz96_2 : w89.cell? ⟨gb291, 2, none⟩ = some (.slice none 0 0) := (blk_cell BK291.out 2).trans rfl
                    have hfz96_0 := blk_frozen BK291.out 0
                    have hfz96_1 := blk_frozen BK291.out 1
                    have hfz96_2 := blk_frozen BK291.out 2
                    have hcz97_0 : w89.cell? ⟨gb265, 0, none⟩ = some (.int .i64 x266000_2) := (blk_cell BK265.out 0).trans rfl
                    have hcz97_1 : w89.cell? ⟨gb265, 1, none⟩ = some (.bool x266001_2) := (blk_cell BK265.out 1).trans rfl
                    have hcz97_2 : w89.cell? ⟨gb265, 2, none⟩ = some (.slice Ao85 x266002_2.length co85) := (blk_cell BK265.out 2).trans rfl
                    have hfz97_0 := blk_frozen BK265.out 0
                    have hfz97_1 := blk_frozen BK265.out 1
                    have hfz97_2 := blk_frozen BK265.out 2
                    try go_wp2
                    go_roundg k2
                    case measure => have := HJ3.out; have := HK2.out; omega
                    case rel => exact ⟨(x7_2), (wrap64 (x8_2 + 1)), (t285), (t286), (t287), (.slice Ao92 t287.length co92), (by first | (rw [HR_.out]; done) | rfl | (rw [HR_.out]; rfl) | (simp [HR_.out]; done) | (simp; done) | (simp [*]; done)), H', ⟨by have := HJ3.out; have := HK2.out; omega⟩, ⟨by (with_reducible repeat (first | apply Kd.Q_alloc | apply Kd.Q_drewN | apply Kd.Q_drew)); exact Kd.Q_mono (Kd.Q_ms (gs := [gb265, gb291]) (Kd.Q_types (Kd.Q_types HO_7.out BK291.out (by decide)) BK265.out (by decide)) (fun _ hk => N1 (hk.2) (N1 (hk.1.2) (N0)))) (fun _ hk => trivial)⟩, ⟨by (with_reducible repeat (first | apply Kd.V_alloc | apply Kd.V_drewN | apply Kd.V_drew)); exact Kd.V_mono (Kd.V_ms (gs := [gb265, gb291]) (Kd.V_mono (Kd.V_mono HO289.out (fun k_ hk => (⟨hk, hk.2.2⟩ : _ ∧ k_ ≠ gb291))) (fun k_ hk => (⟨hk, hk.1.2.1⟩ : _ ∧ k_ ≠ gb265))) (fun _ hk => N1 (hk.2) (N1 (hk.1.2) (N0)))) (fun _ hk => ⟨hk.1.1.1, hk.1.1.2.1⟩)⟩, ⟨by (with_reducible repeat (first | refine blk_drewN ?_ _ | refine blk_drew ?_ | refine blk_alloc ?_ _)); refine blk_put (cs := #[.int .i64 t285, .bool t286, .slice Ao85 x266002_2.length co85]) ?_ 2 _ rfl; (with_reducible repeat (first | refine blk_drewN ?_ _ | refine blk_drew ?_ | refine blk_alloc ?_ _)); refine blk_put (cs := #[.int .i64 t285, .bool x266001_2, .slice Ao85 x266002_2.length co85]) ?_ 1 _ rfl; (with_reducible repeat (first | refine blk_drewN ?_ _ | refine blk_drew ?_ | refine blk_alloc ?_ _)); refine blk_put (cs := #[.int .i64 x266000_2, .bool x266001_2, .slice Ao85 x266002_2.length co85]) ?_ 0 _ rfl; exact BF BK265.out NB265_291.out⟩, ⟨LG HB.out (G1 GE265.out (G1 GE291.out G0))⟩⟩
            · rw [if_neg c19] at H
              have c19b0 : decide (x8_2 < (l1.length : Int)) = false := decide_eq_false c19
              clear c19
              replace H := Option.bind_eq_some_iff.mp H
              obtain ⟨⟨t296, t297, t298, t301⟩, A980, H⟩ := H
              try dsimp only at H
              have A98 := Aside0.mk A980
              clear A980
              have H' := Aside0.mk H
              clear H
              have hcz99_0 : wr.cell? ⟨gb265, 0, none⟩ = some (.int .i64 x266000_2) := (blk_cell BK265.out 0).trans rfl
              have hcz99_1 : wr.cell? ⟨gb265, 1, none⟩ = some (.bool x266001_2) := (blk_cell BK265.out 1).trans rfl
              have hcz99_2 : wr.cell? ⟨gb265, 2, none⟩ = some (u266002) := (blk_cell BK265.out 2).trans rfl
              have hfz99_0 := blk_frozen BK265.out 0
              have hfz99_1 := blk_frozen BK265.out 1
              have hfz99_2 := blk_frozen BK265.out 2
              obtain ⟨Ao100, co100, eo100⟩ := Kd.V_slice HO_266002.out
              subst eo100
              go_wp2_with (first | ((with_reducible refine gate_callee (f := 14) rfl ?_); refine goesL_ (some 130) rfl rfl Try.func14 (by kernel_rfl) rfl #[.agg #[.int .i64 x266000_2, .bool x266001_2, .slice Ao100 x266002_2.length co100]] rfl (by (try simp only [List.map_toArray, List.map_cons, List.map_nil]); first | done | rfl | (simp only [List.length_drop, List.length_take]; rfl)) ?_; (with_reducible refine (pipe_Pipe_Close.calls x266000_2 x266001_2 (fun k_ => (some k_ ≠ (u7 : Value).ownBlock ∧ k_ ≠ gb265)) _ _ x266002_2 t296 t297 t298 t301 _ ?side1 A98.out).mono ?_); (case side1 => exact HO_266002.out); rintro e w101 ⟨v299, rfl, ho0, hb⟩; refine ⟨_, rfl, ?_⟩; replace HO_266002 := Aside0.mk (Kd.V_below (Kd.VA HO_266002.out) hb); have HO300 := Aside0.mk (Kd.V_lower (Kd.V_mono (ok' := fun k_ => some k_ ≠ (u7 : Value).ownBlock ∧ k_ ≠ gb265) ho0 (fun k_ hk_ => ⟨Or.elim hk_ (fun hs_ => hs_.1) (fun hn_ => (Kd.fresh' (Kd.Q_lt (Kd.QA HO_7.out)) k_ hn_)), Or.elim hk_ (fun hs_ => hs_.2) (fun hn_ => (Kd.freshB (g := gb265) (o := .cells #[.int .i64 x266000_2, .bool x266001_2, .slice Ao100 x266002_2.length co100] 31 (0, 0)) (BA BK265.out) k_ hn_))⟩)) (below_size (LA HB.out))); replace HO_7 := Aside0.mk (Kd.Q_below (Kd.QA HO_7.out) hb); replace BK265 := Aside0.mk (blk_below (BA BK265.out) hb); replace HB := Aside0.mk (below_step (LA HB.out) hb); (try clear hb); (try clear hb2); (try clear hk); (try clear hi); (try clear ho0)) | ((with_reducible refine gate_dst (N := 14) rfl ?_); (try (refine gate_guard (by rfl) ?_; dsimp only)); refine box_event ?hg (N := 14) ?hd (cs := #[.int .i64 0, .bool false, .slice none 0 0]) (t := 31) ?hr ?_; (case hd => rfl); (case hg => rfl); (case hr => first | (go_simp; done) | (go_simp; rfl)); intro gb302 hg w102 hbox hb; replace HO_7 := Aside0.mk (Kd.Q_below (Kd.QA HO_7.out) hb); replace HO_266002 := Aside0.mk (Kd.V_below (Kd.V_elderB (Kd.VA HO_266002.out) gb302 (Nat.le_of_eq hg.symm)) hb); replace HO300 := Aside0.mk (Kd.V_below (Kd.V_elderB (Kd.VA HO300.out) gb302 (Nat.le_of_eq hg.symm)) hb); have BK302 := Aside0.mk (hbox); have GE302 := Aside0.mk (ge1 hg (LA HB.out)); replace HB := Aside0.mk (below_step (LA HB.out) hb); have NB265_302 := Aside0.mk ((by rw [hg]; exact Nat.ne_of_lt (blk_lt (g := gb265) (o := .cells #[.int .i64 x266000_2, .bool x266001_2, .slice Ao100 x266002_2.length co100] 31 (0, 0)) (BA BK265.out)) : gb265 ≠ gb302)); have NB302_265 := Aside0.mk ((by rw [hg]; exact Nat.ne_of_gt (blk_lt (g := gb265) (o := .cells #[.int .i64 x266000_2, .bool x266001_2, .slice Ao100 x266002_2.length co100] 31 (0, 0)) (BA BK265.out)) : gb302 ≠ gb265)); replace BK265 := Aside0.mk (blk_below (BA BK265.out) hb); clear hb hbox hg; have hnb103 := NB302_265.out; have hnc103 := NB265_302.out; obtain ⟨hcz104_0, hcz104_1, hcz104_2, hfz104_0, hfz104_1, hfz104_2⟩ := cz3 BK302.out; obtain ⟨Ao105, co105, eo105⟩ := Kd.V_slice HO300.out; subst eo105))
              go_loopg [16] k2 (fun kq v16 w' => ∃ (x16_3 : Int) (x303000_3 : Int) (x303001_3 : Bool) (x303002_3 : List (S36)) (u303002 : Value), v16 = .int .i64 x16_3 ∧ Aside0 (hopperlaw08_PipeRows.l1 kq x7_2 t301 x16_3 x303000_3 x303001_3 x303002_3 = some true) ∧ Aside0 (kq ≤ k2) ∧ Aside0 (Kd.Q (Kd.int .i64) 3 w' w.heap.size (fun _ => True) u7 x7_2) ∧ Aside0 (Kd.V k36 36 w' w.heap.size (fun k_ => some k_ ≠ (u7 : Value).ownBlock ∧ k_ ≠ gb265 ∧ k_ ≠ gb302) (.slice Ao100 x266002_2.length co100) x266002_2) ∧ Aside0 (Kd.V k36 36 w' w.heap.size (fun k_ => some k_ ≠ (u7 : Value).ownBlock ∧ k_ ≠ gb265 ∧ k_ ≠ gb302) u303002 x303002_3) ∧ Aside0 (w'.heap[gb265]? = some (.cells #[.int .i64 x266000_2, .bool x266001_2, (.slice Ao100 x266002_2.length co100)] 31 (0, 0))) ∧ Aside0 (w'.heap[gb302]? = some (.cells #[.int .i64 x303000_3, .bool x303001_3, u303002] 31 (0, 0))) ∧ Aside0 (Below w.heap.size w w'))
              case atStart => exact ⟨(0), (t296), (t297), (t298), (.slice Ao105 t298.length co105), (by first | (rw [HR_.out]; done) | rfl | (rw [HR_.out]; rfl) | (simp [HR_.out]; done) | (simp; done) | (simp [*]; done)), H', ⟨Nat.le_refl _⟩, ⟨by (with_reducible repeat (first | apply Kd.Q_alloc | apply Kd.Q_drewN | apply Kd.Q_drew)); exact Kd.Q_mono (Kd.Q_mv (g := gb302) (Kd.Q_types HO_7.out BK302.out (by decide)) (fun _ hk => hk.2)) (fun _ hk => trivial)⟩, ⟨by (with_reducible repeat (first | apply Kd.V_alloc | apply Kd.V_drewN | apply Kd.V_drew)); exact Kd.V_mono (Kd.V_mv (g := gb302) (Kd.V_mono HO_266002.out (fun k_ hk => (⟨hk, hk.2⟩ : _ ∧ k_ ≠ gb302))) (fun _ hk => hk.2)) (fun _ hk => ⟨hk.1.1.1, ⟨hk.1.1.2, hk.1.2⟩⟩)⟩, ⟨by (with_reducible repeat (first | apply Kd.V_alloc | apply Kd.V_drewN | apply Kd.V_drew)); exact Kd.V_mono (Kd.V_mv (g := gb302) (Kd.V_mono HO300.out (fun k_ hk => (⟨hk, hk.2⟩ : _ ∧ k_ ≠ gb302))) (fun _ hk => hk.2)) (fun _ hk => ⟨hk.1.1.1, ⟨hk.1.1.2, hk.1.2⟩⟩)⟩, ⟨by exact BF BK265.out NB265_302.out⟩, ⟨by exact BP BK302.out (by rfl)⟩, ⟨LG HB.out (G1 GE265.out (G1 GE302.out G0))⟩⟩
              case round =>
                clear H'
                try clear c1
                try clear c2
                try clear p2
                try clear q2
                try clear hx2
                try clear c6
                try clear p6
                try clear c7
                try clear c8
                try clear c9
                try clear c10
                try clear c14
                try clear c19
                try clear c19b0
                try clear c20
                try clear p26
                try clear q26
                try clear hx26
                try clear p28
                try clear q28
                try clear hx28
                try clear p29
                try clear q29
                try clear hx29
                try clear p64
                try clear c69
                try clear c69b0
                try clear c69b1
                try clear c70
                try clear c82
                try clear c95
                try clear c103
                try clear hcz104_0
                try clear hcz104_1
                try clear hcz104_2
                try clear hcz83_0
                try clear hcz83_1
                try clear hcz83_2
                try clear hcz84_0
                try clear hcz84_1
                try clear hcz84_2
                try clear hcz96_0
                try clear hcz96_1
                try clear hcz96_2
                try clear hcz97_0
                try clear hcz97_1
                try clear hcz97_2
                try clear hcz99_0
                try clear hcz99_1
                try clear hcz99_2
                try clear hfz104_0
                try clear hfz104_1
                try clear hfz104_2
                try clear hfz83_0
                try clear hfz83_1
                try clear hfz83_2
                try clear hfz84_0
                try clear hfz84_1
                try clear hfz84_2
                try clear hfz96_0
                try clear hfz96_1
                try clear hfz96_2
                try clear hfz97_0
                try clear hfz97_1
                try clear hfz97_2
                try clear hfz99_0
                try clear hfz99_1
                try clear hfz99_2
                try clear hx268_0
                try clear hx284_0
                try clear hx292_0
                try clear p268
                try clear p284
                try clear p292
                try clear q268
                try clear q284
                try clear q292
                obtain ⟨x16_3, x303000_3, x303001_3, x303002_3, u303002, rfl, HA, HK3, HO_7, HO_266002, HO_303002, BK265, BK302, HB⟩ := hrel
                cases gk with
                | zero => exact absurd HA.out (by simp [hopperlaw08_PipeRows.l1])
                | succ k3 =>
                  have H := HA.out
                  clear HA
                  simp only [hopperlaw08_PipeRows.l1] at H
                  by_cases c106 : x16_3 < (x7_2.length : Int)
                  · rw [if_pos c106] at H
                    have c106b0 : decide (x16_3 < (x7_2.length : Int)) = true := decide_eq_true c106
                    clear c106
                    replace H := Option.bind_eq_some_iff.mp H
                    obtain ⟨⟨t303, t304, t305, t308, t309, t310, t311⟩, A1070, H⟩ := H
                    try dsimp only at H
                    have A107 := Aside0.mk A1070
                    clear A1070
                    by_cases c108 : t311 = 0
                    rotate_left
                    · rw [if_neg c108] at H
                      have c108b0 : (t311 == 0) = false := beq_eq_false_iff_ne.mpr c108
                      have c108b1 : (t311 != 0) = true := bne_iff_ne.mpr c108
                      exact absurd H (by simp)
                    rw [if_pos c108] at H
                    have c108b0 : (t311 == 0) = true := beq_iff_eq.mpr c108
                    have c108b1 : (t311 != 0) = false := bne_eq_false_iff_eq.mpr c108
                    clear c108
                    by_cases c109 : 0 ≤ x16_3
                    rotate_left
                    · rw [if_neg c109] at H
                      exact absurd H (by simp)
                    rw [if_pos c109] at H
                    have c109b0 : decide (0 ≤ x16_3) = true := decide_eq_true c109
                    clear c109
                    by_cases c110 : t309 = (rd x7_2 x16_3)
                    rotate_left
                    · rw [if_neg c110] at H
                      have c110b0 : (t309 == (rd x7_2 x16_3)) = false := beq_eq_false_iff_ne.mpr c110
                      have c110b1 : (t309 != (rd x7_2 x16_3)) = true := bne_iff_ne.mpr c110
                      exact absurd H (by simp)
                    rw [if_pos c110] at H
                    have c110b0 : (t309 == (rd x7_2 x16_3)) = true := beq_iff_eq.mpr c110
                    have c110b1 : (t309 != (rd x7_2 x16_3)) = false := bne_eq_false_iff_eq.mpr c110
                    clear c110
                    have H' := Aside0.mk H
                    clear H
                    obtain ⟨Ao111, co111, eo111, _⟩ := Kd.Q_slice HO_7.out
                    subst eo111
                    have hnb112 := NB302_265.out
                    have hnc112 := NB265_302.out
                    have hcz113_0 : wr.cell? ⟨gb302, 0, none⟩ = some (.int .i64 x303000_3) := (blk_cell BK302.out 0).trans rfl
                    have hcz113_1 : wr.cell? ⟨gb302, 1, none⟩ = some (.bool x303001_3) := (blk_cell BK302.out 1).trans rfl
                    have hcz113_2 : wr.cell? ⟨gb302, 2, none⟩ = some (u303002) := (blk_cell BK302.out 2).trans rfl
                    have hfz113_0 := blk_frozen BK302.out 0
                    have hfz113_1 := blk_frozen BK302.out 1
                    have hfz113_2 := blk_frozen BK302.out 2
                    obtain ⟨Ao114, co114, eo114⟩ := Kd.V_slice HO_303002.out
                    subst eo114
                    try go_wp2_with (first | ((with_reducible refine gate_callee (f := 12) rfl ?_); refine goesL_ (some 141) rfl rfl Try.func12 (by kernel_rfl) rfl #[.agg #[.int .i64 x303000_3, .bool x303001_3, .slice Ao114 x303002_3.length co114]] rfl (by (try simp only [List.map_toArray, List.map_cons, List.map_nil]); first | done | rfl | (simp only [List.length_drop, List.length_take]; rfl)) ?_; (with_reducible refine (pipe_Pipe_Take.calls x303000_3 x303001_3 (fun k_ => (some k_ ≠ (.slice Ao111 x7_2.length co111 : Value).ownBlock ∧ (k_ ≠ gb265 ∧ k_ ≠ gb302))) _ _ x303002_3 t303 t304 t305 t308 t309 t310 t311 _ ?side1 A107.out).mono ?_); (case side1 => exact HO_303002.out); rintro e w115 ⟨v306, rfl, ho0, hb⟩; refine ⟨_, rfl, ?_⟩; replace HO_266002 := Aside0.mk (Kd.V_below (Kd.VA HO_266002.out) hb); replace HO_303002 := Aside0.mk (Kd.V_below (Kd.VA HO_303002.out) hb); have HO307 := Aside0.mk (Kd.V_lower (Kd.V_mono (ok' := fun k_ => some k_ ≠ (.slice Ao111 x7_2.length co111 : Value).ownBlock ∧ k_ ≠ gb265 ∧ k_ ≠ gb302) ho0 (fun k_ hk_ => ⟨Or.elim hk_ (fun hs_ => hs_.1) (fun hn_ => (Kd.fresh' (Kd.Q_lt (Kd.QA HO_7.out)) k_ hn_)), Or.elim hk_ (fun hs_ => hs_.2.1) (fun hn_ => (Kd.freshB (g := gb265) (o := .cells #[.int .i64 x266000_2, .bool x266001_2, .slice Ao100 x266002_2.length co100] 31 (0, 0)) (BA BK265.out) k_ hn_)), Or.elim hk_ (fun hs_ => hs_.2.2) (fun hn_ => (Kd.freshB (g := gb302) (o := .cells #[.int .i64 x303000_3, .bool x303001_3, .slice Ao114 x303002_3.length co114] 31 (0, 0)) (BA BK302.out) k_ hn_))⟩)) (below_size (LA HB.out))); replace HO_7 := Aside0.mk (Kd.Q_below (Kd.QA HO_7.out) hb); replace BK265 := Aside0.mk (blk_below (BA BK265.out) hb); replace BK302 := Aside0.mk (blk_below (BA BK302.out) hb); replace HB := Aside0.mk (below_step (LA HB.out) hb); (try clear hb); (try clear hb2); (try clear hk); (try clear hi); (try clear ho0)) | ((with_reducible refine gate_dst (N := 17) rfl ?_); (try (refine gate_guard (by rfl) ?_; dsimp only)); refine box_event ?hg (N := 17) ?hd (cs := #[.int .i64 0, .bool false, .slice none 0 0]) (t := 31) ?hr ?_; (case hd => rfl); (case hg => rfl); (case hr => first | (go_simp; done) | (go_simp; rfl)); intro gb312 hg w116 hbox hb; replace HO_7 := Aside0.mk (Kd.Q_below (Kd.QA HO_7.out) hb); replace HO_266002 := Aside0.mk (Kd.V_below (Kd.V_elderB (Kd.VA HO_266002.out) gb312 (Nat.le_of_eq hg.symm)) hb); replace HO_303002 := Aside0.mk (Kd.V_below (Kd.V_elderB (Kd.VA HO_303002.out) gb312 (Nat.le_of_eq hg.symm)) hb); replace HO307 := Aside0.mk (Kd.V_below (Kd.V_elderB (Kd.VA HO307.out) gb312 (Nat.le_of_eq hg.symm)) hb); have BK312 := Aside0.mk (hbox); have GE312 := Aside0.mk (ge1 hg (LA HB.out)); replace HB := Aside0.mk (below_step (LA HB.out) hb); have NB265_312 := Aside0.mk ((by rw [hg]; exact Nat.ne_of_lt (blk_lt (g := gb265) (o := .cells #[.int .i64 x266000_2, .bool x266001_2, .slice Ao100 x266002_2.length co100] 31 (0, 0)) (BA BK265.out)) : gb265 ≠ gb312)); have NB312_265 := Aside0.mk ((by rw [hg]; exact Nat.ne_of_gt (blk_lt (g := gb265) (o := .cells #[.int .i64 x266000_2, .bool x266001_2, .slice Ao100 x266002_2.length co100] 31 (0, 0)) (BA BK265.out)) : gb312 ≠ gb265)); replace BK265 := Aside0.mk (blk_below (BA BK265.out) hb); have NB302_312 := Aside0.mk ((by rw [hg]; exact Nat.ne_of_lt (blk_lt (g := gb302) (o := .cells #[.int .i64 x303000_3, .bool x303001_3, .slice Ao114 x303002_3.length co114] 31 (0, 0)) (BA BK302.out)) : gb302 ≠ gb312)); have NB312_302 := Aside0.mk ((by rw [hg]; exact Nat.ne_of_gt (blk_lt (g := gb302) (o := .cells #[.int .i64 x303000_3, .bool x303001_3, .slice Ao114 x303002_3.length co114] 31 (0, 0)) (BA BK302.out)) : gb312 ≠ gb302)); replace BK302 := Aside0.mk (blk_below (BA BK302.out) hb); clear hb hbox hg) | ((with_reducible refine gate_dst (N := 18) rfl ?_); (try (refine gate_guard (by rfl) ?_; dsimp only)); refine box_event ?hg (N := 18) ?hd (cs := #[.int .i64 0, .int .i64 0, .string (⟨#[]⟩ : ByteArray)]) (t := 36) ?hr ?_; (case hd => rfl); (case hg => rfl); (case hr => first | (go_simp; done) | (go_simp; rfl)); intro gb313 hg w117 hbox hb; replace HO_7 := Aside0.mk (Kd.Q_below (Kd.QA HO_7.out) hb); replace HO_266002 := Aside0.mk (Kd.V_below (Kd.V_elderB (Kd.VA HO_266002.out) gb313 (Nat.le_of_eq hg.symm)) hb); replace HO_303002 := Aside0.mk (Kd.V_below (Kd.V_elderB (Kd.VA HO_303002.out) gb313 (Nat.le_of_eq hg.symm)) hb); replace HO307 := Aside0.mk (Kd.V_below (Kd.V_elderB (Kd.VA HO307.out) gb313 (Nat.le_of_eq hg.symm)) hb); have BK313 := Aside0.mk (hbox); have GE313 := Aside0.mk (ge1 hg (LA HB.out)); replace HB := Aside0.mk (below_step (LA HB.out) hb); have NB265_313 := Aside0.mk ((by rw [hg]; exact Nat.ne_of_lt (blk_lt (g := gb265) (o := .cells #[.int .i64 x266000_2, .bool x266001_2, .slice Ao100 x266002_2.length co100] 31 (0, 0)) (BA BK265.out)) : gb265 ≠ gb313)); have NB313_265 := Aside0.mk ((by rw [hg]; exact Nat.ne_of_gt (blk_lt (g := gb265) (o := .cells #[.int .i64 x266000_2, .bool x266001_2, .slice Ao100 x266002_2.length co100] 31 (0, 0)) (BA BK265.out)) : gb313 ≠ gb265)); replace BK265 := Aside0.mk (blk_below (BA BK265.out) hb); have NB302_313 := Aside0.mk ((by rw [hg]; exact Nat.ne_of_lt (blk_lt (g := gb302) (o := .cells #[.int .i64 x303000_3, .bool x303001_3, .slice Ao114 x303002_3.length co114] 31 (0, 0)) (BA BK302.out)) : gb302 ≠ gb313)); have NB313_302 := Aside0.mk ((by rw [hg]; exact Nat.ne_of_gt (blk_lt (g := gb302) (o := .cells #[.int .i64 x303000_3, .bool x303001_3, .slice Ao114 x303002_3.length co114] 31 (0, 0)) (BA BK302.out)) : gb313 ≠ gb302)); replace BK302 := Aside0.mk (blk_below (BA BK302.out) hb); have NB312_313 := Aside0.mk ((by rw [hg]; exact Nat.ne_of_lt (blk_lt (g := gb312) (o := .cells #[.int .i64 0, .bool false, .slice none 0 0] 31 (0, 0)) (BA BK312.out)) : gb312 ≠ gb313)); have NB313_312 := Aside0.mk ((by rw [hg]; exact Nat.ne_of_gt (blk_lt (g := gb312) (o := .cells #[.int .i64 0, .bool false, .slice none 0 0] 31 (0, 0)) (BA BK312.out)) : gb313 ≠ gb312)); replace BK312 := Aside0.mk (blk_below (BA BK312.out) hb); clear hb hbox hg; have hnb118 := NB312_265.out; have hnc118 := NB265_312.out; have hnb119 := NB312_302.out; have hnc119 := NB302_312.out; have hnb120 := NB312_313.out; have hnc120 := NB313_312.out; obtain ⟨hcz121_0, hcz121_1, hcz121_2, hfz121_0, hfz121_1, hfz121_2⟩ := cz3 BK312.out; obtain ⟨Ao122, co122, eo122⟩ := Kd.V_slice HO307.out; subst eo122; have hnb123 := NB313_265.out; have hnc123 := NB265_313.out; have hnb124 := NB313_302.out; have hnc124 := NB302_313.out; obtain ⟨hcz125_0, hcz125_1, hcz125_2, hfz125_0, hfz125_1, hfz125_2⟩ := cz3 BK313.out))
                    have n0_ : Aside0 (Kd.Q (Kd.int .i64) 3 ((((((w117.setCell ⟨gb312, 0, none⟩ (.int .i64 t303)).setCell ⟨gb312, 1, none⟩ (.bool t304)).setCell ⟨gb312, 2, none⟩ (.slice Ao122 t305.length co122)).setCell ⟨gb313, 0, none⟩ (.int .i64 t308)).setCell ⟨gb313, 1, none⟩ (.int .i64 t309)).setCell ⟨gb313, 2, none⟩ (.string t310)) w.heap.size (fun _ => True) (.slice Ao111 x7_2.length co111) x7_2) := ⟨by (with_reducible repeat (first | apply Kd.Q_alloc | apply Kd.Q_drewN | apply Kd.Q_drew)); exact Kd.Q_mono (Kd.Q_ms (gs := [gb313, gb312]) (Kd.Q_types (Kd.Q_types HO_7.out BK312.out (by decide)) BK313.out (by decide)) (fun _ hk => N1 (hk.2) (N1 (hk.1.2) (N0)))) (fun _ hk => trivial)⟩
                    have n1_ : Aside0 (Kd.V k36 36 ((((((w117.setCell ⟨gb312, 0, none⟩ (.int .i64 t303)).setCell ⟨gb312, 1, none⟩ (.bool t304)).setCell ⟨gb312, 2, none⟩ (.slice Ao122 t305.length co122)).setCell ⟨gb313, 0, none⟩ (.int .i64 t308)).setCell ⟨gb313, 1, none⟩ (.int .i64 t309)).setCell ⟨gb313, 2, none⟩ (.string t310)) w.heap.size (fun k_ => some k_ ≠ (.slice Ao111 x7_2.length co111 : Value).ownBlock ∧ k_ ≠ gb265 ∧ k_ ≠ gb302 ∧ k_ ≠ gb312 ∧ k_ ≠ gb313) (.slice Ao100 x266002_2.length co100) x266002_2) := ⟨by (with_reducible repeat (first | apply Kd.V_alloc | apply Kd.V_drewN | apply Kd.V_drew)); exact Kd.V_mono (Kd.V_ms (gs := [gb313, gb312]) (Kd.V_mono (Kd.V_mono HO_266002.out (fun k_ hk => (⟨hk, hk.1.2⟩ : _ ∧ k_ ≠ gb312))) (fun k_ hk => (⟨hk, hk.1.2⟩ : _ ∧ k_ ≠ gb313))) (fun _ hk => N1 (hk.2) (N1 (hk.1.2) (N0)))) (fun _ hk => ⟨hk.1.1.1.1.1, ⟨hk.1.1.1.1.2.1, ⟨hk.1.1.1.1.2.2, ⟨hk.1.1.1.2, hk.1.1.2⟩⟩⟩⟩)⟩
                    have n2_ : Aside0 (Kd.V k36 36 ((((((w117.setCell ⟨gb312, 0, none⟩ (.int .i64 t303)).setCell ⟨gb312, 1, none⟩ (.bool t304)).setCell ⟨gb312, 2, none⟩ (.slice Ao122 t305.length co122)).setCell ⟨gb313, 0, none⟩ (.int .i64 t308)).setCell ⟨gb313, 1, none⟩ (.int .i64 t309)).setCell ⟨gb313, 2, none⟩ (.string t310)) w.heap.size (fun k_ => some k_ ≠ (.slice Ao111 x7_2.length co111 : Value).ownBlock ∧ k_ ≠ gb265 ∧ k_ ≠ gb302 ∧ k_ ≠ gb312 ∧ k_ ≠ gb313) (.slice Ao114 x303002_3.length co114) x303002_3) := ⟨by (with_reducible repeat (first | apply Kd.V_alloc | apply Kd.V_drewN | apply Kd.V_drew)); exact Kd.V_mono (Kd.V_ms (gs := [gb313, gb312]) (Kd.V_mono (Kd.V_mono HO_303002.out (fun k_ hk => (⟨hk, hk.1.2⟩ : _ ∧ k_ ≠ gb312))) (fun k_ hk => (⟨hk, hk.1.2⟩ : _ ∧ k_ ≠ gb313))) (fun _ hk => N1 (hk.2) (N1 (hk.1.2) (N0)))) (fun _ hk => ⟨hk.1.1.1.1.1, ⟨hk.1.1.1.1.2.1, ⟨hk.1.1.1.1.2.2, ⟨hk.1.1.1.2, hk.1.1.2⟩⟩⟩⟩)⟩
                    have n3_ : Aside0 (Kd.V k36 36 ((((((w117.setCell ⟨gb312, 0, none⟩ (.int .i64 t303)).setCell ⟨gb312, 1, none⟩ (.bool t304)).setCell ⟨gb312, 2, none⟩ (.slice Ao122 t305.length co122)).setCell ⟨gb313, 0, none⟩ (.int .i64 t308)).setCell ⟨gb313, 1, none⟩ (.int .i64 t309)).setCell ⟨gb313, 2, none⟩ (.string t310)) w.heap.size (fun k_ => some k_ ≠ (.slice Ao111 x7_2.length co111 : Value).ownBlock ∧ k_ ≠ gb265 ∧ k_ ≠ gb302 ∧ k_ ≠ gb312 ∧ k_ ≠ gb313) (.slice Ao122 t305.length co122) t305) := ⟨by (with_reducible repeat (first | apply Kd.V_alloc | apply Kd.V_drewN | apply Kd.V_drew)); exact Kd.V_mono (Kd.V_ms (gs := [gb313, gb312]) (Kd.V_mono (Kd.V_mono HO307.out (fun k_ hk => (⟨hk, hk.1.2⟩ : _ ∧ k_ ≠ gb312))) (fun k_ hk => (⟨hk, hk.1.2⟩ : _ ∧ k_ ≠ gb313))) (fun _ hk => N1 (hk.2) (N1 (hk.1.2) (N0)))) (fun _ hk => ⟨hk.1.1.1.1.1, ⟨hk.1.1.1.1.2.1, ⟨hk.1.1.1.1.2.2, ⟨hk.1.1.1.2, hk.1.1.2⟩⟩⟩⟩)⟩
                    have n4_ : Aside0 (((((((w117.setCell ⟨gb312, 0, none⟩ (.int .i64 t303)).setCell ⟨gb312, 1, none⟩ (.bool t304)).setCell ⟨gb312, 2, none⟩ (.slice Ao122 t305.length co122)).setCell ⟨gb313, 0, none⟩ (.int .i64 t308)).setCell ⟨gb313, 1, none⟩ (.int .i64 t309)).setCell ⟨gb313, 2, none⟩ (.string t310)).heap[gb265]? = some (.cells #[.int .i64 x266000_2, .bool x266001_2, .slice Ao100 x266002_2.length co100] 31 (0, 0))) := ⟨by exact BM BK265.out (N1 NB265_313.out (N1 NB265_312.out N0))⟩
                    have n5_ : Aside0 (((((((w117.setCell ⟨gb312, 0, none⟩ (.int .i64 t303)).setCell ⟨gb312, 1, none⟩ (.bool t304)).setCell ⟨gb312, 2, none⟩ (.slice Ao122 t305.length co122)).setCell ⟨gb313, 0, none⟩ (.int .i64 t308)).setCell ⟨gb313, 1, none⟩ (.int .i64 t309)).setCell ⟨gb313, 2, none⟩ (.string t310)).heap[gb302]? = some (.cells #[.int .i64 x303000_3, .bool x303001_3, .slice Ao114 x303002_3.length co114] 31 (0, 0))) := ⟨by exact BM BK302.out (N1 NB302_313.out (N1 NB302_312.out N0))⟩
                    have n6_ : Aside0 (((((((w117.setCell ⟨gb312, 0, none⟩ (.int .i64 t303)).setCell ⟨gb312, 1, none⟩ (.bool t304)).setCell ⟨gb312, 2, none⟩ (.slice Ao122 t305.length co122)).setCell ⟨gb313, 0, none⟩ (.int .i64 t308)).setCell ⟨gb313, 1, none⟩ (.int .i64 t309)).setCell ⟨gb313, 2, none⟩ (.string t310)).heap[gb312]? = some (.cells #[.int .i64 t303, .bool t304, .slice Ao122 t305.length co122] 31 (0, 0))) := ⟨by (with_reducible repeat (first | refine blk_drewN ?_ _ | refine blk_drew ?_ | refine blk_alloc ?_ _)); refine blk_far ?_ NB312_313.out _; (with_reducible repeat (first | refine blk_drewN ?_ _ | refine blk_drew ?_ | refine blk_alloc ?_ _)); refine blk_far ?_ NB312_313.out _; (with_reducible repeat (first | refine blk_drewN ?_ _ | refine blk_drew ?_ | refine blk_alloc ?_ _)); refine blk_far ?_ NB312_313.out _; exact BP BK312.out (by rfl)⟩
                    have n7_ : Aside0 (((((((w117.setCell ⟨gb312, 0, none⟩ (.int .i64 t303)).setCell ⟨gb312, 1, none⟩ (.bool t304)).setCell ⟨gb312, 2, none⟩ (.slice Ao122 t305.length co122)).setCell ⟨gb313, 0, none⟩ (.int .i64 t308)).setCell ⟨gb313, 1, none⟩ (.int .i64 t309)).setCell ⟨gb313, 2, none⟩ (.string t310)).heap[gb313]? = some (.cells #[.int .i64 t308, .int .i64 t309, .string t310] 36 (0, 0))) := ⟨by (with_reducible repeat (first | refine blk_drewN ?_ _ | refine blk_drew ?_ | refine blk_alloc ?_ _)); refine blk_put (cs := #[.int .i64 t308, .int .i64 t309, .string (⟨#[]⟩ : ByteArray)]) ?_ 2 _ rfl; (with_reducible repeat (first | refine blk_drewN ?_ _ | refine blk_drew ?_ | refine blk_alloc ?_ _)); refine blk_put (cs := #[.int .i64 t308, .int .i64 0, .string (⟨#[]⟩ : ByteArray)]) ?_ 1 _ rfl; (with_reducible repeat (first | refine blk_drewN ?_ _ | refine blk_drew ?_ | refine blk_alloc ?_ _)); refine blk_put (cs := #[.int .i64 0, .int .i64 0, .string (⟨#[]⟩ : ByteArray)]) ?_ 0 _ rfl; exact BF BK313.out NB313_312.out⟩
                    have n8_ : Aside0 (Below w.heap.size w ((((((w117.setCell ⟨gb312, 0, none⟩ (.int .i64 t303)).setCell ⟨gb312, 1, none⟩ (.bool t304)).setCell ⟨gb312, 2, none⟩ (.slice Ao122 t305.length co122)).setCell ⟨gb313, 0, none⟩ (.int .i64 t308)).setCell ⟨gb313, 1, none⟩ (.int .i64 t309)).setCell ⟨gb313, 2, none⟩ (.string t310))) := ⟨LG HB.out (G1 GE265.out (G1 GE302.out (G1 GE312.out (G1 GE313.out G0))))⟩
                    (try clear HO_7)
                    (try clear HO_266002)
                    (try clear HO_303002)
                    (try clear HO307)
                    (try clear BK265)
                    (try clear BK302)
                    (try clear BK312)
                    (try clear BK313)
                    (try clear HB)
                    generalize ((((((w117.setCell ⟨gb312, 0, none⟩ (.int .i64 t303)).setCell ⟨gb312, 1, none⟩ (.bool t304)).setCell ⟨gb312, 2, none⟩ (.slice Ao122 t305.length co122)).setCell ⟨gb313, 0, none⟩ (.int .i64 t308)).setCell ⟨gb313, 1, none⟩ (.int .i64 t309)).setCell ⟨gb313, 2, none⟩ (.string t310)) = w126 at n0_ n1_ n2_ n3_ n4_ n5_ n6_ n7_ n8_ ⊢
                    have HO_7 := n0_
                    have HO_266002 := n1_
                    have HO_303002 := n2_
                    have HO307 := n3_
                    have BK265 := n4_
                    have BK302 := n5_
                    have BK312 := n6_
                    have BK313 := n7_
                    have HB := n8_
                    clear n0_ n1_ n2_ n3_ n4_ n5_ n6_ n7_ n8_
                    have n0_ := Aside0.mk (Kd.Q_drew HO_7.out)
                    have n1_ := Aside0.mk (Kd.V_drew HO_266002.out)
                    have n2_ := Aside0.mk (Kd.V_drew HO_303002.out)
                    have n3_ := Aside0.mk (Kd.V_drew HO307.out)
                    have n4_ := Aside0.mk (blk_drew BK265.out)
                    have n5_ := Aside0.mk (blk_drew BK302.out)
                    have n6_ := Aside0.mk (blk_drew BK312.out)
                    have n7_ := Aside0.mk (blk_drew BK313.out)
                    have n8_ := Aside0.mk (below_drew1 HB.out)
                    clear HO_7
                    clear HO_266002
                    clear HO_303002
                    clear HO307
                    clear BK265
                    clear BK302
                    clear BK312
                    clear BK313
                    clear HB
                    have HO_7 := n0_
                    have HO_266002 := n1_
                    have HO_303002 := n2_
                    have HO307 := n3_
                    have BK265 := n4_
                    have BK302 := n5_
                    have BK312 := n6_
                    have BK313 := n7_
                    have HB := n8_
                    clear n0_ n1_ n2_ n3_ n4_ n5_ n6_ n7_ n8_
                    have p314 : 0 ≤ (x16_3 : Int) := of_decide_eq_true (by first | (with_reducible assumption) | assumption)
                    have q314 : x16_3 < (x7_2.length : Int) := of_decide_eq_true (by first | (with_reducible assumption) | assumption)
                    obtain ⟨ad314, e314, hx314_0⟩ := Kd.at_int (Kd.Q_reads' HO_7.out).2.2 x16_3 p314 q314
                    cases e314
                    replace p314 := eq_true p314
                    replace q314 := eq_true q314
                    refine start_ (n := 11) (S := fun w' => w'.cell? ⟨gb313, 0, none⟩ = some (.int .i64 t308) ∧ w'.cell? ⟨gb313, 1, none⟩ = some (.int .i64 t309) ∧ w'.cell? ⟨gb313, 2, none⟩ = some (.string t310) ∧ w'.cell? (ad314.add (x16_3).toNat) = some (.int .i64 (rd x7_2 x16_3))) (ds := []) (tf 0 11) (by kernel_rfl) rfl rfl ⟨(blk_cell BK313.out 0).trans rfl, (blk_cell BK313.out 1).trans rfl, (blk_cell BK313.out 2).trans rfl, hx314_0⟩ (fun hHeld => ?_); refine with_tabW hopperlaw08_PipeRows.tab26 hopperlaw08_PipeRows.bits26 (fun HT_ HW_ => ?_)
                    generalize w126.drew = w127 at HO_7 HO_266002 HO_303002 HO307 BK265 BK302 BK312 BK313 HB hx314_0 hHeld ⊢
                    refine pure_ (i := 0) (N := some 145) (v := ?_) (a' := ?_) (tf 1 11) rfl rfl (any_of HT_.out (by kernel_rfl)) (fun _ _ _ h => h) (Or.inl ⟨by rfl, ?_⟩) ?_ ?_
                    rotate_left
                    · intro w'
                      go_simp
                      with_reducible rfl
                    rotate_left
                    · simp only [Act.put, PU, i64_w, i32_w]
                      rfl
                    refine pure_ (i := 1) (N := some 146) (v := ?_) (a' := ?_) (tf 2 11) rfl rfl (any_of HT_.out (by kernel_rfl)) (fun _ _ _ h => h) (Or.inl ⟨by rfl, ?_⟩) ?_ ?_
                    rotate_left
                    · intro w'
                      go_simp
                      with_reducible rfl
                    rotate_left
                    · simp only [Act.put, PU, i64_w, i32_w]
                      rfl
                    refine pure_ (i := 2) (N := some 147) (v := ?_) (a' := ?_) (tf 3 11) rfl rfl (any_of HT_.out (by kernel_rfl)) (fun _ _ _ h => h) (Or.inl ⟨by rfl, ?_⟩) ?_ ?_
                    rotate_left
                    · intro w'
                      go_simp
                      with_reducible rfl
                    rotate_left
                    · simp only [Act.put, PU, i64_w, i32_w]
                      rfl
                    refine pure_ (i := 3) (N := some 148) (v := ?_) (a' := ?_) (tf 4 11) rfl rfl (any_of HT_.out (by kernel_rfl)) (fun _ _ _ h => h) (Or.inl ⟨by rfl, ?_⟩) ?_ ?_
                    rotate_left
                    · intro w'
                      go_simp
                      with_reducible rfl
                    rotate_left
                    · simp only [Act.put, PU, i64_w, i32_w]
                      rfl
                    refine pure_ (i := 5) (N := some 150) (v := ?_) (a' := ?_) #[true, true, true, true, false, true, false, false, false, false, false] rfl rfl (any_of HT_.out (by kernel_rfl)) (fun _ _ _ h => h) (Or.inl ⟨by rfl, ?_⟩) ?_ ?_
                    rotate_left
                    · intro w'
                      go_simp
                      with_reducible rfl
                    rotate_left
                    · simp only [Act.put, PU, i64_w, i32_w]
                      rfl
                    refine pure_ (i := 6) (N := some 151) (v := ?_) (a' := ?_) #[true, true, true, true, false, true, true, false, false, false, false] rfl rfl (any_of HT_.out (by kernel_rfl)) (fun _ _ _ h => h) (Or.inl ⟨by rfl, ?_⟩) ?_ ?_
                    rotate_left
                    · intro w'
                      go_simp
                      with_reducible rfl
                    rotate_left
                    · simp only [Act.put, PU, i64_w, i32_w]
                      rfl
                    refine pure_ (i := 7) (N := some 152) (v := ?_) (a' := ?_) #[true, true, true, true, false, true, true, true, false, false, false] rfl rfl (any_of HT_.out (by kernel_rfl)) (fun _ _ _ h => h) (Or.inl ⟨by rfl, ?_⟩) ?_ ?_
                    rotate_left
                    · intro w'
                      go_simp
                      with_reducible rfl
                    rotate_left
                    · simp only [Act.put, PU, i64_w, i32_w]
                      rfl
                    refine take_ (i := 4) (N := some 149) (v := ?_) (a' := ?_) (tf 8 11) rfl rfl (take_ofW HT_.out HW_.out (by kernel_rfl)) (fun _ _ _ h => h) (Or.inl ⟨by rfl, ?_⟩) hHeld ?_ ?_
                    rotate_left
                    · rintro w' ⟨s0, s1, s2, s3⟩
                      go_simp
                      with_reducible rfl
                    rotate_left
                    · simp only [Act.put, PU, i64_w, i32_w]
                      rfl
                    refine take_ (i := 8) (N := some 153) (v := ?_) (a' := ?_) (tf 9 11) rfl rfl (take_ofW HT_.out HW_.out (by kernel_rfl)) (fun _ _ _ h => h) (Or.inl ⟨by rfl, ?_⟩) hHeld ?_ ?_
                    rotate_left
                    · rintro w' ⟨s0, s1, s2, s3⟩
                      go_simp
                      with_reducible rfl
                    rotate_left
                    · simp only [Act.put, PU, i64_w, i32_w]
                      rfl
                    refine pure_ (i := 9) (N := some 154) (v := ?_) (a' := ?_) (tf 10 11) rfl rfl (any_of HT_.out (by kernel_rfl)) (fun _ _ _ h => h) (Or.inl ⟨by rfl, ?_⟩) ?_ ?_
                    rotate_left
                    · intro w'
                      go_simp
                      with_reducible rfl
                    rotate_left
                    · simp only [Act.put, PU, i64_w, i32_w]
                      rfl
                    refine pure_ (i := 10) (N := some 155) (v := ?_) (a' := ?_) (tf 11 11) rfl rfl (any_of HT_.out (by kernel_rfl)) (fun _ _ _ h => h) (Or.inl ⟨by rfl, ?_⟩) ?_ ?_
                    rotate_left
                    · intro w'
                      go_simp
                      with_reducible rfl
                    rotate_left
                    · simp only [Act.put, PU, i64_w, i32_w]
                      rfl
                    refine done_ (done_of HT_.out (by kernel_rfl)) ?_
                    have hcz128_0 : w127.cell? ⟨gb312, 0, none⟩ = some (.int .i64 t303) := (blk_cell BK312.out 0).trans rfl
                    have hcz128_1 : w127.cell? ⟨gb312, 1, none⟩ = some (.bool t304) := (blk_cell BK312.out 1).trans rfl
                    have hcz128_2 : w127.cell? ⟨gb312, 2, none⟩ = some (.slice Ao122 t305.length co122) := (blk_cell BK312.out 2).trans rfl
                    have hfz128_0 := blk_frozen BK312.out 0
                    have hfz128_1 := blk_frozen BK312.out 1
                    have hfz128_2 := blk_frozen BK312.out 2
                    have hcz129_0 : w127.cell? ⟨gb302, 0, none⟩ = some (.int .i64 x303000_3) := (blk_cell BK302.out 0).trans rfl
                    have hcz129_1 : w127.cell? ⟨gb302, 1, none⟩ = some (.bool x303001_3) := (blk_cell BK302.out 1).trans rfl
                    have hcz129_2 : w127.cell? ⟨gb302, 2, none⟩ = some (.slice Ao114 x303002_3.length co114) := (blk_cell BK302.out 2).trans rfl
                    have hfz129_0 := blk_frozen BK302.out 0
                    have hfz129_1 := blk_frozen BK302.out 1
                    have hfz129_2 := blk_frozen BK302.out 2
                    try go_wp2
                    go_roundg k3
                    case measure => have := HJ3.out; have := HK2.out; have := HK3.out; omega
                    case rel => exact ⟨(wrap64 (x16_3 + 1)), (t303), (t304), (t305), (.slice Ao122 t305.length co122), (by first | (rw [HR_.out]; done) | rfl | (rw [HR_.out]; rfl) | (simp [HR_.out]; done) | (simp; done) | (simp [*]; done)), H', ⟨by have := HJ3.out; have := HK2.out; have := HK3.out; omega⟩, ⟨by (with_reducible repeat (first | apply Kd.Q_alloc | apply Kd.Q_drewN | apply Kd.Q_drew)); exact Kd.Q_mono (Kd.Q_mv (g := gb302) (Kd.Q_types HO_7.out BK302.out (by decide)) (fun _ hk => hk.2)) (fun _ hk => trivial)⟩, ⟨by (with_reducible repeat (first | apply Kd.V_alloc | apply Kd.V_drewN | apply Kd.V_drew)); exact Kd.V_mono (Kd.V_mv (g := gb302) (Kd.V_mono HO_266002.out (fun k_ hk => (⟨hk, hk.2.2.1⟩ : _ ∧ k_ ≠ gb302))) (fun _ hk => hk.2)) (fun _ hk => ⟨hk.1.1, ⟨hk.1.2.1, hk.1.2.2.1⟩⟩)⟩, ⟨by (with_reducible repeat (first | apply Kd.V_alloc | apply Kd.V_drewN | apply Kd.V_drew)); exact Kd.V_mono (Kd.V_mv (g := gb302) (Kd.V_mono HO307.out (fun k_ hk => (⟨hk, hk.2.2.1⟩ : _ ∧ k_ ≠ gb302))) (fun _ hk => hk.2)) (fun _ hk => ⟨hk.1.1, ⟨hk.1.2.1, hk.1.2.2.1⟩⟩)⟩, ⟨by exact BF BK265.out NB265_302.out⟩, ⟨by exact BP BK302.out (by rfl)⟩, ⟨LG HB.out (G1 GE265.out (G1 GE302.out (G1 GE312.out (G1 GE313.out G0))))⟩⟩
                  · rw [if_neg c106] at H
                    have c106b0 : decide (x16_3 < (x7_2.length : Int)) = false := decide_eq_false c106
                    clear c106
                    replace H := Option.bind_eq_some_iff.mp H
                    obtain ⟨⟨t315, t316, t317, t320, t321, t322, t323⟩, A1300, H⟩ := H
                    try dsimp only at H
                    have A130 := Aside0.mk A1300
                    clear A1300
                    by_cases c131 : t301 = 0
                    rotate_left
                    · rw [if_neg c131] at H
                      have c131b0 : (t301 == 0) = false := beq_eq_false_iff_ne.mpr c131
                      have c131b1 : (t301 != 0) = true := bne_iff_ne.mpr c131
                      exact absurd H (by simp)
                    rw [if_pos c131] at H
                    have c131b0 : (t301 == 0) = true := beq_iff_eq.mpr c131
                    have c131b1 : (t301 != 0) = false := bne_eq_false_iff_eq.mpr c131
                    clear c131
                    by_cases c132 : t323 = 8
                    rotate_left
                    · rw [if_neg c132] at H
                      have c132b0 : (t323 == 8) = false := beq_eq_false_iff_ne.mpr c132
                      have c132b1 : (t323 != 8) = true := bne_iff_ne.mpr c132
                      exact absurd H (by simp)
                    rw [if_pos c132] at H
                    have c132b0 : (t323 == 8) = true := beq_iff_eq.mpr c132
                    have c132b1 : (t323 != 8) = false := bne_eq_false_iff_eq.mpr c132
                    clear c132
                    replace H := Option.bind_eq_some_iff.mp H
                    obtain ⟨t326, A1330, H⟩ := H
                    try dsimp only at H
                    have A133 := Aside0.mk A1330
                    clear A1330
                    have HR_ := Aside0.mk (Option.some.inj H)
                    clear H
                    obtain ⟨Ao134, co134, eo134, _⟩ := Kd.Q_slice HO_7.out
                    subst eo134
                    have hnb135 := NB302_265.out
                    have hnc135 := NB265_302.out
                    have hcz136_0 : wr.cell? ⟨gb302, 0, none⟩ = some (.int .i64 x303000_3) := (blk_cell BK302.out 0).trans rfl
                    have hcz136_1 : wr.cell? ⟨gb302, 1, none⟩ = some (.bool x303001_3) := (blk_cell BK302.out 1).trans rfl
                    have hcz136_2 : wr.cell? ⟨gb302, 2, none⟩ = some (u303002) := (blk_cell BK302.out 2).trans rfl
                    have hfz136_0 := blk_frozen BK302.out 0
                    have hfz136_1 := blk_frozen BK302.out 1
                    have hfz136_2 := blk_frozen BK302.out 2
                    obtain ⟨Ao137, co137, eo137⟩ := Kd.V_slice HO_303002.out
                    subst eo137
                    go_wp2_with (first | ((with_reducible refine gate_callee (f := 12) rfl ?_); refine goesL_ (some 159) rfl rfl Try.func12 (by kernel_rfl) rfl #[.agg #[.int .i64 x303000_3, .bool x303001_3, .slice Ao137 x303002_3.length co137]] rfl (by (try simp only [List.map_toArray, List.map_cons, List.map_nil]); first | done | rfl | (simp only [List.length_drop, List.length_take]; rfl)) ?_; (with_reducible refine (pipe_Pipe_Take.calls x303000_3 x303001_3 (fun k_ => (some k_ ≠ (.slice Ao134 x7_2.length co134 : Value).ownBlock ∧ (k_ ≠ gb265 ∧ k_ ≠ gb302))) _ _ x303002_3 t315 t316 t317 t320 t321 t322 t323 _ ?side1 A130.out).mono ?_); (case side1 => exact HO_303002.out); rintro e w138 ⟨v318, rfl, ho0, hb⟩; refine ⟨_, rfl, ?_⟩; have HO319 := Aside0.mk (Kd.V_lower (Kd.V_mono (ok' := fun k_ => some k_ ≠ (.slice Ao134 x7_2.length co134 : Value).ownBlock ∧ k_ ≠ gb265 ∧ k_ ≠ gb302) ho0 (fun k_ hk_ => ⟨Or.elim hk_ (fun hs_ => hs_.1) (fun hn_ => (Kd.fresh' (Kd.Q_lt (Kd.QA HO_7.out)) k_ hn_)), Or.elim hk_ (fun hs_ => hs_.2.1) (fun hn_ => (Kd.freshB (g := gb265) (o := .cells #[.int .i64 x266000_2, .bool x266001_2, .slice Ao100 x266002_2.length co100] 31 (0, 0)) (BA BK265.out) k_ hn_)), Or.elim hk_ (fun hs_ => hs_.2.2) (fun hn_ => (Kd.freshB (g := gb302) (o := .cells #[.int .i64 x303000_3, .bool x303001_3, .slice Ao137 x303002_3.length co137] 31 (0, 0)) (BA BK302.out) k_ hn_))⟩)) (below_size (LA HB.out))); replace BK265 := Aside0.mk (blk_below (BA BK265.out) hb); replace BK302 := Aside0.mk (blk_below (BA BK302.out) hb); replace HB := Aside0.mk (below_step (LA HB.out) hb); clear HO_7 HO_303002; (try clear HO_266002); (try clear hb); (try clear hb2); (try clear hk); (try clear hi); (try clear ho0)) | ((with_reducible refine gate_dst (N := 20) rfl ?_); (try (refine gate_guard (by rfl) ?_; dsimp only)); refine box_event ?hg (N := 20) ?hd (cs := #[.int .i64 0, .bool false, .slice none 0 0]) (t := 31) ?hr ?_; (case hd => rfl); (case hg => rfl); (case hr => first | (go_simp; done) | (go_simp; rfl)); intro gb324 hg w139 hbox hb; replace HO319 := Aside0.mk (Kd.V_below (Kd.V_elderB (Kd.VA HO319.out) gb324 (Nat.le_of_eq hg.symm)) hb); have BK324 := Aside0.mk (hbox); have GE324 := Aside0.mk (ge1 hg (LA HB.out)); replace HB := Aside0.mk (below_step (LA HB.out) hb); have NB265_324 := Aside0.mk ((by rw [hg]; exact Nat.ne_of_lt (blk_lt (g := gb265) (o := .cells #[.int .i64 x266000_2, .bool x266001_2, .slice Ao100 x266002_2.length co100] 31 (0, 0)) (BA BK265.out)) : gb265 ≠ gb324)); have NB324_265 := Aside0.mk ((by rw [hg]; exact Nat.ne_of_gt (blk_lt (g := gb265) (o := .cells #[.int .i64 x266000_2, .bool x266001_2, .slice Ao100 x266002_2.length co100] 31 (0, 0)) (BA BK265.out)) : gb324 ≠ gb265)); replace BK265 := Aside0.mk (blk_below (BA BK265.out) hb); have NB302_324 := Aside0.mk ((by rw [hg]; exact Nat.ne_of_lt (blk_lt (g := gb302) (o := .cells #[.int .i64 x303000_3, .bool x303001_3, .slice Ao137 x303002_3.length co137] 31 (0, 0)) (BA BK302.out)) : gb302 ≠ gb324)); have NB324_302 := Aside0.mk ((by rw [hg]; exact Nat.ne_of_gt (blk_lt (g := gb302) (o := .cells #[.int .i64 x303000_3, .bool x303001_3, .slice Ao137 x303002_3.length co137] 31 (0, 0)) (BA BK302.out)) : gb324 ≠ gb302)); replace BK302 := Aside0.mk (blk_below (BA BK302.out) hb); (try clear HO_7); (try clear HO_266002); (try clear HO_303002); clear hb hbox hg) | ((with_reducible refine gate_dst (N := 21) rfl ?_); (try (refine gate_guard (by rfl) ?_; dsimp only)); refine box_event ?hg (N := 21) ?hd (cs := #[.int .i64 0, .int .i64 0, .string (⟨#[]⟩ : ByteArray)]) (t := 36) ?hr ?_; (case hd => rfl); (case hg => rfl); (case hr => first | (go_simp; done) | (go_simp; rfl)); intro gb325 hg w140 hbox hb; replace HO319 := Aside0.mk (Kd.V_below (Kd.V_elderB (Kd.VA HO319.out) gb325 (Nat.le_of_eq hg.symm)) hb); have BK325 := Aside0.mk (hbox); have GE325 := Aside0.mk (ge1 hg (LA HB.out)); replace HB := Aside0.mk (below_step (LA HB.out) hb); have NB265_325 := Aside0.mk ((by rw [hg]; exact Nat.ne_of_lt (blk_lt (g := gb265) (o := .cells #[.int .i64 x266000_2, .bool x266001_2, .slice Ao100 x266002_2.length co100] 31 (0, 0)) (BA BK265.out)) : gb265 ≠ gb325)); have NB325_265 := Aside0.mk ((by rw [hg]; exact Nat.ne_of_gt (blk_lt (g := gb265) (o := .cells #[.int .i64 x266000_2, .bool x266001_2, .slice Ao100 x266002_2.length co100] 31 (0, 0)) (BA BK265.out)) : gb325 ≠ gb265)); have NB302_325 := Aside0.mk ((by rw [hg]; exact Nat.ne_of_lt (blk_lt (g := gb302) (o := .cells #[.int .i64 x303000_3, .bool x303001_3, .slice Ao137 x303002_3.length co137] 31 (0, 0)) (BA BK302.out)) : gb302 ≠ gb325)); have NB325_302 := Aside0.mk ((by rw [hg]; exact Nat.ne_of_gt (blk_lt (g := gb302) (o := .cells #[.int .i64 x303000_3, .bool x303001_3, .slice Ao137 x303002_3.length co137] 31 (0, 0)) (BA BK302.out)) : gb325 ≠ gb302)); have NB324_325 := Aside0.mk ((by rw [hg]; exact Nat.ne_of_lt (blk_lt (g := gb324) (o := .cells #[.int .i64 0, .bool false, .slice none 0 0] 31 (0, 0)) (BA BK324.out)) : gb324 ≠ gb325)); have NB325_324 := Aside0.mk ((by rw [hg]; exact Nat.ne_of_gt (blk_lt (g := gb324) (o := .cells #[.int .i64 0, .bool false, .slice none 0 0] 31 (0, 0)) (BA BK324.out)) : gb325 ≠ gb324)); replace BK324 := Aside0.mk (blk_below (BA BK324.out) hb); clear BK265 BK302; (try clear HO_7); (try clear HO_266002); (try clear HO_303002); clear hb hbox hg; have hnb141 := NB324_265.out; have hnc141 := NB265_324.out; have hnb142 := NB324_302.out; have hnc142 := NB302_324.out; have hnb143 := NB324_325.out; have hnc143 := NB325_324.out; obtain ⟨hcz144_0, hcz144_1, hcz144_2, hfz144_0, hfz144_1, hfz144_2⟩ := cz3 BK324.out; obtain ⟨Ao145, co145, eo145⟩ := Kd.V_slice HO319.out; subst eo145; have hnb146 := NB325_265.out; have hnc146 := NB265_325.out; have hnb147 := NB325_302.out; have hnc147 := NB302_325.out; obtain ⟨hcz148_0, hcz148_1, hcz148_2, hfz148_0, hfz148_1, hfz148_2⟩ := cz3 BK325.out) | (go_at_call 8; (with_reducible refine (hopperlaw08_live.calls  t326 _ A133.out).mono ?_); rintro e w149 ⟨rfl, hb⟩; replace HB := Aside0.mk (below_step (LG HB.out (G1 GE324.out (G1 GE325.out G0))) hb); (try clear HO_7); (try clear HO_266002); (try clear HO_303002); (try clear HO319); (try clear BK265); (try clear BK302); (try clear BK324); (try clear BK325); (try clear hb); (try clear hb2); (try clear hk); (try clear hi)))
                    go_ret
                    exact ⟨by first | (rw [HR_.out]; done) | rfl | (rw [HR_.out]; rfl) | (simp [HR_.out]; done) | (simp [errW_none, errW_some] <;> rfl) | (simp [*, errW_none, errW_some] <;> rfl), LG HB.out (G1 GE265.out (G1 GE302.out (G1 GE324.out (G1 GE325.out G0))))⟩

-- GIVEN hopperlaw08_PipeRows

end Go.Proofs.Ytacncgpnimdfbaa.PPipeRows
