/- The law PipeRows as a statement over lists and numbers. -/
import Derived.Test.YtacncgpnimdfbaaPPipeRowsx1
import Derived.Test.YtacncgpnimdfbaaPPipeRowsx2
import Derived.Test.YtacncgpnimdfbaaPPipeRowsx3
import Derived.Test.YtacncgpnimdfbaaPPipeRowsx4
namespace Go.Proofs.Ytacncgpnimdfbaa.PPipeRows
open Go.RowKit Go.Proofs.YtacncgpnimdfbaaW.PrintWords Go.Proofs.YtacncgpnimdfbaaW.PrintMore
set_option linter.unusedVariables false
set_option linter.unusedSimpArgs false

theorem live_true : hopperlaw08_live.f = some true := by decide +kernel
theorem w64 {i : Int} (h0 : -9223372036854775808 ≤ i) (h1 : i < 9223372036854775808) : wrap64 i = i := by unfold wrap64; omega
theorem sendShut (l : List S36) (room : Int) (a b : Int) (c : ByteArray) : pipe_Pipe_Send.f room true l a b c = some (room, true, l, 8) := by
  unfold pipe_Pipe_Send.f; rw [if_pos rfl]
theorem sendFull {l : List S36} {room : Int} (h : (l.length : Int) ≥ room) (a b : Int) (c : ByteArray) : pipe_Pipe_Send.f room false l a b c = some (room, false, l, 6) := by
  unfold pipe_Pipe_Send.f; rw [if_neg (by decide), if_pos h]
theorem sendRoom {l : List S36} (hl : l.length ≤ 1000) {room : Int} (h : ¬ (l.length : Int) ≥ room) (a b : Int) (c : ByteArray) : pipe_Pipe_Send.f room false l a b c = some (room, false, l ++ [⟨a, b, c⟩], 0) := by
  unfold pipe_Pipe_Send.f
  rw [if_neg (by decide), if_neg h, Option.bind_some, if_pos (by rw [List.length_nil]; omega), Option.bind_some, List.nil_append, if_pos (by omega)]
theorem takeNil (room : Int) (shut : Bool) : pipe_Pipe_Take.f room shut [] = some (room, shut, [], 0, 0, ⟨#[]⟩, if shut = true then 8 else 7) := by
  unfold pipe_Pipe_Take.f
  rw [if_pos (show (([] : List S36).length : Int) = 0 from rfl)]
  by_cases h : shut = true
  · rw [if_pos h, if_pos h]
  · rw [if_neg h, if_neg h]
theorem takeCons {l : List S36} (hl : l.length ≤ 1000) (x : S36) (room : Int) (shut : Bool) : pipe_Pipe_Take.f room shut (x :: l) = some (room, shut, l, x.f0, x.f1, x.f2, 0) := by
  unfold pipe_Pipe_Take.f
  have hc : (((x :: l).length : Nat) : Int) = (l.length : Int) + 1 := by simp
  rw [if_neg (by rw [hc]; omega), if_pos (by rw [hc]; omega), Option.bind_some, if_pos (by rw [hc]; omega), Option.bind_some, List.drop_succ_cons, List.drop_zero, if_pos (by rw [List.length_nil]; omega), List.nil_append]
  rfl
theorem newF {room : Int} : pipe_New.f room = if 1 ≤ room ∧ room ≤ 8 then some (room, false, [], 0) else some (0, false, [], 1) := by
  unfold pipe_New.f
  by_cases h : room < 1
  · rw [if_pos h, if_neg (by omega)]
  · rw [if_neg h]
    by_cases h2 : room > 8
    · rw [if_pos h2, if_neg (by omega)]
    · rw [if_neg h2, if_pos (by omega)]
/-- The last rounds: all that waits is taken, and then the row is shut. -/
theorem last (waits : List Int) (its : List S36) (hw : its.map (·.f1) = waits) (hl : its.length ≤ 1000) (room : Int) : ∀ (m j k : Nat), j + m = waits.length → m + 1 ≤ k → hopperlaw08_PipeRows.l1 k waits 0 (j : Int) room true (its.drop j) = some true := by
  have hlen : its.length = waits.length := by rw [← hw, List.length_map]
  intro m
  induction m with
  | zero =>
    intro j k hj hk
    obtain ⟨k, rfl⟩ : ∃ n, k = n + 1 := ⟨k - 1, by omega⟩
    rw [hopperlaw08_PipeRows.l1, if_neg (by omega), List.drop_of_length_le (by omega), takeNil, Option.bind_some]
    dsimp only
    rw [if_pos rfl, if_pos (by decide), live_true]
    rfl
  | succ m ih =>
    intro j k hj hk
    obtain ⟨k, rfl⟩ : ∃ n, k = n + 1 := ⟨k - 1, by omega⟩
    have hjl : j < its.length := by omega
    rw [hopperlaw08_PipeRows.l1, if_pos (by omega), List.drop_eq_getElem_cons hjl, takeCons (by rw [List.length_drop]; omega), Option.bind_some]
    dsimp only
    rw [if_pos rfl, if_pos (by omega), if_pos (by subst hw; simp [rd, List.getElem?_eq_getElem hjl]), w64 (by omega) (by omega)]
    exact ih (j + 1) k (by omega) (by omega)
/-- The rounds. -/
theorem rounds (l1 : List Int) (room : Int) (hr1 : 1 ≤ room) (hr8 : room ≤ 8) (hn : l1.length ≤ 200) : ∀ (m i k : Nat) (waits : List Int) (its : List S36), i + m = l1.length → its.map (·.f1) = waits → (its.length : Int) ≤ room → 2 * m + 12 ≤ k →
    hopperlaw08_PipeRows.l0 k room l1 waits (i : Int) room false its = some true := by
  intro m
  induction m with
  | zero =>
    intro i k waits its hi hw hl hk
    obtain ⟨k, rfl⟩ : ∃ n, k = n + 1 := ⟨k - 1, by omega⟩
    have hlen : its.length = waits.length := by rw [← hw, List.length_map]
    rw [hopperlaw08_PipeRows.l0, if_neg (by omega)]
    simp only [pipe_Pipe_Close.f, Bool.false_eq_true, if_false, Option.bind_some]
    have h := last waits its hw (by omega) room waits.length 0 k (by omega) (by omega)
    rw [List.drop_zero] at h
    exact h
  | succ m ih =>
    intro i k waits its hi hw hl hk
    obtain ⟨k, rfl⟩ : ∃ n, k = n + 2 := ⟨k - 2, by omega⟩
    have hlen : its.length = waits.length := by rw [← hw, List.length_map]
    rw [hopperlaw08_PipeRows.l0, if_pos (by omega), if_pos (by omega)]
    by_cases hz : rd l1 (i : Int) = 0
    · rw [if_pos hz]
      cases its with
      | nil =>
        simp only [List.map_nil] at hw
        subst hw
        rw [takeNil, Option.bind_some]
        dsimp only
        rw [if_neg (by simp), if_neg (by simp), if_pos (by simp)]
        rw [hopperlaw08_PipeRows.j2, if_neg (by simp), if_neg (by simp), w64 (by omega) (by omega)]
        exact ih (i + 1) k [] [] (by omega) rfl (by simp; omega) (by omega)
      | cons x its =>
        simp only [List.map_cons] at hw
        subst hw
        rw [takeCons (by simp at hl; omega), Option.bind_some]
        dsimp only
        have hlx : (((x.f1 :: its.map (·.f1)).length : Nat) : Int) = its.length + 1 := by simp
        rw [if_neg (by rw [hlx]; simp), if_pos rfl, if_pos (by rw [hlx]; omega)]
        rw [hopperlaw08_PipeRows.j2, if_neg (by simp [rd]), if_pos (by rw [hlx]; omega), if_pos (by rw [hlx]; omega), w64 (by omega) (by omega)]
        exact ih (i + 1) k (its.map (·.f1)) its (by omega) rfl (by simp at hl; omega) (by omega)
    · rw [if_neg hz]
      by_cases hf : (its.length : Int) ≥ room
      · rw [sendFull hf, Option.bind_some]
        dsimp only
        rw [if_neg (by rw [← hlen]; simp; omega), if_neg (by decide), w64 (by omega) (by omega)]
        exact ih (i + 1) (k + 1) waits its (by omega) hw hl (by omega)
      · rw [sendRoom (by omega) hf, Option.bind_some]
        dsimp only
        rw [if_neg (by rw [← hlen]; simp; omega), if_pos rfl, if_pos (by omega), w64 (by omega) (by omega)]
        exact ih (i + 1) (k + 1) _ _ (by omega) (by rw [List.map_append, hw]; rfl) (by rw [List.length_append, List.length_singleton]; omega) (by omega)
theorem pure_ (a0 : Int) (l1 : List Int) : ∃ k, hopperlaw08_PipeRows.f k a0 l1 = some true := by
  refine ⟨500, ?_⟩
  unfold hopperlaw08_PipeRows.f
  rw [newF]
  by_cases hr : 1 ≤ a0 ∧ a0 ≤ 8
  · rw [if_pos hr, Option.bind_some]
    by_cases hl : (l1.length : Int) > 200
    · rw [if_pos hl]
      simp only [hopperlaw08_PipeRows.j0, if_true, if_pos hl, live_true, Option.bind_some]
    · rw [if_neg hl]
      simp only [hopperlaw08_PipeRows.j0]
      rw [if_neg (by decide)]
      exact rounds l1 a0 hr.1 hr.2 (by omega) l1.length 0 499 [] [] (by omega) rfl (by simp; omega) (by omega)
  · rw [if_neg hr, Option.bind_some]
    by_cases hl : (l1.length : Int) > 200
    · rw [if_pos hl]
      simp only [hopperlaw08_PipeRows.j0, if_true, if_pos hl, live_true, Option.bind_some]
    · rw [if_neg hl]
      simp only [hopperlaw08_PipeRows.j0]
      rw [if_pos (by decide), if_neg hl]
      simp only [if_true, List.length_nil, live_true, Option.bind_some]
      rfl
end Go.Proofs.Ytacncgpnimdfbaa.PPipeRows
