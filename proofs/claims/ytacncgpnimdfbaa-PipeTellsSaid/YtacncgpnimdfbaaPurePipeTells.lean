/- The law PipeTells as a statement over lists and numbers. -/
import Derived.Test.YtacncgpnimdfbaaPPipeTellsx1
import Derived.Test.YtacncgpnimdfbaaPPipeTellsx2
import Derived.Test.YtacncgpnimdfbaaPPipeTellsx3
import Derived.Test.YtacncgpnimdfbaaPPipeTellsx4
import Derived.Test.YtacncgpnimdfbaaPPipeTellsx5
import Derived.Test.YtacncgpnimdfbaaPPipeTellsx6
namespace Go.Proofs.Ytacncgpnimdfbaa.PPipeTells
open Go.RowKit Go.Proofs.YtacncgpnimdfbaaW.PrintWords Go.Proofs.YtacncgpnimdfbaaW.PrintMore
set_option linter.unusedVariables false
set_option linter.unusedSimpArgs false

theorem live_true : hopperlaw08_live.f = some true := by decide +kernel
theorem w64 {i : Int} (h0 : -9223372036854775808 ≤ i) (h1 : i < 9223372036854775808) : wrap64 i = i := by unfold wrap64; omega
theorem sendShut (l : List S36) (room : Int) (a b : Int) (c : ByteArray) : pipe_Pipe_Send.f room true l a b c = some (room, true, l, 8) := by
  unfold pipe_Pipe_Send.f; rw [if_pos rfl]
theorem sendFull {l : List S36} {room : Int} (h : (l.length : Int) ≥ room) (a b : Int) (c : ByteArray) : pipe_Pipe_Send.f room false l a b c = some (room, false, l, 6) := by
  unfold pipe_Pipe_Send.f; rw [if_neg (by decide), if_pos h]
theorem sendRoom {l : List S36} (hl : l.length ≤ 1000) {room : Int} (h : ¬ (l.length : Int) ≥ room) (a b : Int) (c : ByteArray) : pipe_Pipe_Send.f room false l a b c = some (room, false, l ++ [⟨a, b, c⟩], 0) := by
  unfold pipe_Pipe_Send.f
  rw [if_neg (by decide), if_neg h, Option.bind_some, if_pos (by rw [List.length_nil]; omega), Option.bind_some, List.nil_append, if_pos (by omega)]
theorem takeNil (room : Int) (shut : Bool) : pipe_Pipe_Take.f room shut [] = some (room, shut, [], 0, 0, ⟨#[]⟩, if shut = true then 8 else 7) := by
  unfold pipe_Pipe_Take.f
  rw [if_pos (show (([] : List S36).length : Int) = 0 from rfl)]
  by_cases h : shut = true
  · rw [if_pos h, if_pos h]
  · rw [if_neg h, if_neg h]
theorem takeCons {l : List S36} (hl : l.length ≤ 1000) (x : S36) (room : Int) (shut : Bool) : pipe_Pipe_Take.f room shut (x :: l) = some (room, shut, l, x.f0, x.f1, x.f2, 0) := by
  unfold pipe_Pipe_Take.f
  have hc : (((x :: l).length : Nat) : Int) = (l.length : Int) + 1 := by simp
  rw [if_neg (by rw [hc]; omega), if_pos (by rw [hc]; omega), Option.bind_some, if_pos (by rw [hc]; omega), Option.bind_some, List.drop_succ_cons, List.drop_zero, if_pos (by rw [List.length_nil]; omega), List.nil_append]
  rfl
theorem newF {room : Int} : pipe_New.f room = if 1 ≤ room ∧ room ≤ 8 then some (room, false, [], 0) else some (0, false, [], 1) := by
  unfold pipe_New.f
  by_cases h : room < 1
  · rw [if_pos h, if_neg (by omega)]
  · rw [if_neg h]
    by_cases h2 : room > 8
    · rw [if_pos h2, if_neg (by omega)]
    · rw [if_neg h2, if_pos (by omega)]
/-- A row is the same as itself. -/
theorem same0 (l : List S26) (hl : l.length ≤ 1000) (r r' : Int) (s s' : Bool) : ∀ (m i k : Nat), i + m = l.length → m + 1 ≤ k → hopperref08_Same.l0 k (i : Int) r s l r' s' l = some true := by
  intro m
  induction m with
  | zero =>
    intro i k hi hk
    obtain ⟨k, rfl⟩ : ∃ n, k = n + 1 := ⟨k - 1, by omega⟩
    rw [hopperref08_Same.l0, if_neg (by omega)]
  | succ m ih =>
    intro i k hi hk
    obtain ⟨k, rfl⟩ : ∃ n, k = n + 1 := ⟨k - 1, by omega⟩
    rw [hopperref08_Same.l0, if_pos (by omega), if_pos (by omega), if_pos (by omega), if_neg (by simp), w64 (by omega) (by omega)]
    exact ih (i + 1) k (by omega) (by omega)
theorem sameF (l : List S26) (hl : l.length ≤ 1000) (r : Int) (s : Bool) {k : Nat} (hk : l.length + 2 ≤ k) : hopperref08_Same.f k r s l r s l = some true := by
  obtain ⟨k, rfl⟩ : ∃ n, k = n + 1 := ⟨k - 1, by omega⟩
  unfold hopperref08_Same.f
  rw [if_pos rfl, if_neg (by simp), hopperref08_Same.j0, if_neg (by simp)]
  exact same0 l hl _ _ _ _ l.length 0 k (by omega) (by omega)
def toS (x : S36) : S26 := ⟨x.f0, x.f1, x.f2⟩
def ofS (x : S26) : S36 := ⟨x.f0, x.f1, x.f2⟩
theorem toof (l : List S26) : (l.map ofS).map toS = l := by
  rw [List.map_map]; exact (List.map_congr_left (fun x _ => rfl)).trans (List.map_id l)
theorem own0 (l : List S26) (hl : l.length ≤ 1000) (r r' : Int) (s s' : Bool) : ∀ (m i k : Nat), i + m = l.length → m + 1 ≤ k → hopperlaw08_own.l0 k (i : Int) r s l r' s' ((l.take i).map ofS) = some (r', s', l.map ofS) := by
  intro m
  induction m with
  | zero =>
    intro i k hi hk
    obtain ⟨k, rfl⟩ : ∃ n, k = n + 1 := ⟨k - 1, by omega⟩
    rw [hopperlaw08_own.l0, if_neg (by omega), List.take_of_length_le (by omega)]
  | succ m ih =>
    intro i k hi hk
    obtain ⟨k, rfl⟩ : ∃ n, k = n + 1 := ⟨k - 1, by omega⟩
    have hil : i < l.length := by omega
    have hrd : rd_T26 l (i : Int) = l[i] := by simp [rd_T26, List.getElem?_eq_getElem hil]
    have h1 := ih (i + 1) k (by omega) (by omega)
    rw [List.take_succ_eq_append_getElem hil, List.map_append] at h1
    rw [hopperlaw08_own.l0, if_pos (by omega), if_pos (by omega), if_pos (by rw [List.length_map, List.length_take]; omega), w64 (by omega) (by omega), hrd]
    exact h1
theorem ownF (l : List S26) (hl : l.length ≤ 1000) (r : Int) (s : Bool) {k : Nat} (hk : l.length + 1 ≤ k) : hopperlaw08_own.f k r s l = some (r, s, l.map ofS) :=
  own0 l hl r r s s l.length 0 k (by omega) hk
theorem told0 (l : List S36) (hl : l.length ≤ 1000) (r r' : Int) (s s' : Bool) : ∀ (m i k : Nat), i + m = l.length → m + 1 ≤ k → hopperlaw08_told.l0 k (i : Int) r s l r' s' ((l.take i).map toS) = some (r', s', l.map toS) := by
  intro m
  induction m with
  | zero =>
    intro i k hi hk
    obtain ⟨k, rfl⟩ : ∃ n, k = n + 1 := ⟨k - 1, by omega⟩
    rw [hopperlaw08_told.l0, if_neg (by omega), List.take_of_length_le (by omega)]
  | succ m ih =>
    intro i k hi hk
    obtain ⟨k, rfl⟩ : ∃ n, k = n + 1 := ⟨k - 1, by omega⟩
    have hil : i < l.length := by omega
    have hrd : rd_T36 l (i : Int) = l[i] := by simp [rd_T36, List.getElem?_eq_getElem hil]
    have h1 := ih (i + 1) k (by omega) (by omega)
    rw [List.take_succ_eq_append_getElem hil, List.map_append] at h1
    rw [hopperlaw08_told.l0, if_pos (by omega), if_pos (by omega), if_pos (by rw [List.length_map, List.length_take]; omega), w64 (by omega) (by omega), hrd]
    exact h1
theorem toldF (l : List S36) (hl : l.length ≤ 1000) (r : Int) (s : Bool) {k : Nat} (hk : l.length + 1 ≤ k) : hopperlaw08_told.f k r s l = some (r, s, l.map toS) :=
  told0 l hl r r s s l.length 0 k (by omega) hk
theorem sendBoth {m : List S36} (hm : m.length ≤ 40) (r : Int) (s : Bool) (a b : Int) (c : ByteArray) : ∃ s' m' e, pipe_Pipe_Send.f r s m a b c = some (r, s', m', e) ∧ hopperref08_Send.f r s (m.map toS) a b c = some (r, s', m'.map toS, e) ∧ m'.length ≤ 41 := by
  have hl : (m.map toS).length = m.length := List.length_map ..
  cases s with
  | true => exact ⟨_, _, _, sendShut m r a b c, by unfold hopperref08_Send.f; rw [if_pos rfl], by omega⟩
  | false =>
    by_cases h : (m.length : Int) ≥ r
    · exact ⟨_, _, _, sendFull h a b c, by unfold hopperref08_Send.f; rw [if_neg (by decide), if_pos (by rw [hl]; exact h)], by omega⟩
    · refine ⟨_, _, _, sendRoom (by omega) h a b c, ?_, by rw [List.length_append, List.length_singleton]; omega⟩
      unfold hopperref08_Send.f
      rw [if_neg (by decide), if_neg (by rw [hl]; exact h), Option.bind_some, if_pos (by rw [List.length_nil, hl]; omega), Option.bind_some, List.nil_append, if_pos (by omega), List.map_append]
      rfl
theorem takeBoth {m : List S36} (hm : m.length ≤ 40) (r : Int) (s : Bool) : ∃ s' m' i j d e, pipe_Pipe_Take.f r s m = some (r, s', m', i, j, d, e) ∧ hopperref08_Take.f r s (m.map toS) = some (r, s', m'.map toS, i, j, d, e) ∧ m'.length ≤ 40 := by
  cases m with
  | nil =>
    refine ⟨_, _, _, _, _, _, takeNil r s, ?_, by simp⟩
    unfold hopperref08_Take.f
    rw [List.map_nil, if_pos (show (([] : List S26).length : Int) = 0 from rfl)]
    cases s <;> rfl
  | cons x m =>
    have hl : (x :: m).length = m.length + 1 := by simp
    refine ⟨_, _, _, _, _, _, takeCons (by omega) x r s, ?_, by omega⟩
    unfold hopperref08_Take.f
    have hc : ((((x :: m).map toS).length : Nat) : Int) = (m.length : Int) + 1 := by simp
    rw [if_neg (by rw [hc]; omega), if_pos (by rw [hc]; omega), Option.bind_some, if_pos (by rw [hc]; omega), Option.bind_some, List.map_cons, List.drop_succ_cons, List.drop_zero, if_pos (by rw [List.length_nil, List.length_map]; omega), List.nil_append]
    rfl
theorem closeBoth (m : List S36) (hm : m.length ≤ 40) (r : Int) (s : Bool) : ∃ s' m' e, pipe_Pipe_Close.f r s m = some (r, s', m', e) ∧ hopperref08_Close.f r s (m.map toS) = some (r, s', m'.map toS, e) ∧ m'.length ≤ 40 := by
  cases s with
  | true => exact ⟨_, _, _, rfl, rfl, hm⟩
  | false => exact ⟨_, _, _, rfl, rfl, hm⟩
theorem newBoth (room : Int) : ∃ r s' m' e, pipe_New.f room = some (r, s', m', e) ∧ hopperref08_New.f room = some (r, s', m'.map toS, e) ∧ m'.length ≤ 40 := by
  unfold pipe_New.f hopperref08_New.f
  by_cases h : room < 1
  · rw [if_pos h, if_pos h]; exact ⟨_, _, [], _, rfl, rfl, by simp⟩
  · rw [if_neg h, if_neg h]
    by_cases h2 : room > 8
    · rw [if_pos h2, if_pos h2]; exact ⟨_, _, [], _, rfl, rfl, by simp⟩
    · rw [if_neg h2, if_neg h2]; exact ⟨_, _, [], _, rfl, rfl, by simp⟩
theorem pure_ (a0_0 : Int) (a0_1 : Bool) (l0_2 : List S26) (a1_0 a1_1 : Int) (a1_2 : ByteArray) (a2 : Int) : ∃ k, hopperlaw08_PipeTells.f k a0_0 a0_1 l0_2 a1_0 a1_1 a1_2 a2 = some true := by
  refine ⟨100, ?_⟩
  unfold hopperlaw08_PipeTells.f hopperref08_Small.f
  rw [Option.bind_some]
  by_cases hs : (l0_2.length : Int) ≤ 40
  · rw [if_pos (by simpa using hs)]
    have hm : (l0_2.map ofS).length ≤ 40 := by rw [List.length_map]; omega
    obtain ⟨s1, m1, e1, p1, q1, b1⟩ := sendBoth hm a0_0 a0_1 a1_0 a1_1 a1_2
    obtain ⟨s2, m2, i2, j2, d2, e2, p2, q2, b2⟩ := takeBoth hm a0_0 a0_1
    obtain ⟨s3, m3, e3, p3, q3, b3⟩ := closeBoth _ hm a0_0 a0_1
    obtain ⟨r4, s4, m4, e4, p4, q4, b4⟩ := newBoth a2
    rw [toof] at q1 q2 q3
    have g1 : (m1.map toS).length = m1.length := List.length_map ..
    have g2 : (m2.map toS).length = m2.length := List.length_map ..
    have g3 : (m3.map toS).length = m3.length := List.length_map ..
    have g4 : (m4.map toS).length = m4.length := List.length_map ..
    rw [ownF l0_2 (by omega) a0_0 a0_1 (by omega), Option.bind_some]
    dsimp only
    rw [p1, Option.bind_some, q1, Option.bind_some, Option.bind_some, p2, Option.bind_some, q2, Option.bind_some, Option.bind_some, p3, Option.bind_some, q3, Option.bind_some, p4, Option.bind_some, q4, Option.bind_some]
    dsimp only
    rw [toldF m1 (by omega) _ _ (by omega), Option.bind_some]
    dsimp only
    rw [sameF _ (by omega) _ _ (by omega), Option.bind_some, if_pos rfl, if_pos rfl, toldF m2 (by omega) _ _ (by omega), Option.bind_some]
    dsimp only
    rw [sameF _ (by omega) _ _ (by omega), Option.bind_some, if_pos rfl, if_pos (by simp), if_pos rfl, toldF m3 (by omega) _ _ (by omega), Option.bind_some]
    dsimp only
    rw [sameF _ (by omega) _ _ (by omega), Option.bind_some, if_pos rfl, if_pos rfl, toldF m4 (by omega) _ _ (by omega), Option.bind_some]
    dsimp only
    rw [sameF _ (by omega) _ _ (by omega), Option.bind_some, if_pos rfl, if_pos rfl, live_true]
    rfl
  · rw [if_neg (by simpa using hs), live_true]
    rfl
end Go.Proofs.Ytacncgpnimdfbaa.PPipeTells
