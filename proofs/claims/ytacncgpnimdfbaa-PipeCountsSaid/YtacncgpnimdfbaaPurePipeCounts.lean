/- The law PipeCounts as a statement over lists and numbers. -/
import Derived.Test.YtacncgpnimdfbaaPPipeCountsx1
import Derived.Test.YtacncgpnimdfbaaPPipeCountsx2
import Derived.Test.YtacncgpnimdfbaaPPipeCountsx3
import Derived.Test.YtacncgpnimdfbaaPPipeCountsx4
import Derived.Test.YtacncgpnimdfbaaPPipeCountsx5
import Derived.Test.YtacncgpnimdfbaaPPipeCountsx6
namespace Go.Proofs.Ytacncgpnimdfbaa.PPipeCounts
open Go.RowKit Go.Proofs.YtacncgpnimdfbaaW.PrintWords Go.Proofs.YtacncgpnimdfbaaW.PrintMore
set_option linter.unusedVariables false
set_option linter.unusedSimpArgs false

theorem live_true : hopperlaw08_live.f = some true := by decide +kernel
theorem w64 {i : Int} (h0 : -9223372036854775808 ≤ i) (h1 : i < 9223372036854775808) : wrap64 i = i := by unfold wrap64; omega
theorem sendShut (l : List S36) (room : Int) (a b : Int) (c : ByteArray) : pipe_Pipe_Send.f room true l a b c = some (room, true, l, 8) := by
  unfold pipe_Pipe_Send.f; rw [if_pos rfl]
theorem sendFull {l : List S36} {room : Int} (h : (l.length : Int) ≥ room) (a b : Int) (c : ByteArray) : pipe_Pipe_Send.f room false l a b c = some (room, false, l, 6) := by
  unfold pipe_Pipe_Send.f; rw [if_neg (by decide), if_pos h]
theorem sendRoom {l : List S36} (hl : l.length ≤ 1000) {room : Int} (h : ¬ (l.length : Int) ≥ room) (a b : Int) (c : ByteArray) : pipe_Pipe_Send.f room false l a b c = some (room, false, l ++ [⟨a, b, c⟩], 0) := by
  unfold pipe_Pipe_Send.f
  rw [if_neg (by decide), if_neg h, Option.bind_some, if_pos (by rw [List.length_nil]; omega), Option.bind_some, List.nil_append, if_pos (by omega)]
theorem takeNil (room : Int) (shut : Bool) : pipe_Pipe_Take.f room shut [] = some (room, shut, [], 0, 0, ⟨#[]⟩, if shut = true then 8 else 7) := by
  unfold pipe_Pipe_Take.f
  rw [if_pos (show (([] : List S36).length : Int) = 0 from rfl)]
  by_cases h : shut = true
  · rw [if_pos h, if_pos h]
  · rw [if_neg h, if_neg h]
theorem takeCons {l : List S36} (hl : l.length ≤ 1000) (x : S36) (room : Int) (shut : Bool) : pipe_Pipe_Take.f room shut (x :: l) = some (room, shut, l, x.f0, x.f1, x.f2, 0) := by
  unfold pipe_Pipe_Take.f
  have hc : (((x :: l).length : Nat) : Int) = (l.length : Int) + 1 := by simp
  rw [if_neg (by rw [hc]; omega), if_pos (by rw [hc]; omega), Option.bind_some, if_pos (by rw [hc]; omega), Option.bind_some, List.drop_succ_cons, List.drop_zero, if_pos (by rw [List.length_nil]; omega), List.nil_append]
  rfl
theorem newF {room : Int} : pipe_New.f room = if 1 ≤ room ∧ room ≤ 8 then some (room, false, [], 0) else some (0, false, [], 1) := by
  unfold pipe_New.f
  by_cases h : room < 1
  · rw [if_pos h, if_neg (by omega)]
  · rw [if_neg h]
    by_cases h2 : room > 8
    · rw [if_pos h2, if_neg (by omega)]
    · rw [if_neg h2, if_pos (by omega)]
/-- A row is the same as itself. -/
theorem same0 (l : List S26) (hl : l.length ≤ 1000) (r r' : Int) (s s' : Bool) : ∀ (m i k : Nat), i + m = l.length → m + 1 ≤ k → hopperref08_Same.l0 k (i : Int) r s l r' s' l = some true := by
  intro m
  induction m with
  | zero =>
    intro i k hi hk
    obtain ⟨k, rfl⟩ : ∃ n, k = n + 1 := ⟨k - 1, by omega⟩
    rw [hopperref08_Same.l0, if_neg (by omega)]
  | succ m ih =>
    intro i k hi hk
    obtain ⟨k, rfl⟩ : ∃ n, k = n + 1 := ⟨k - 1, by omega⟩
    rw [hopperref08_Same.l0, if_pos (by omega), if_pos (by omega), if_pos (by omega), if_neg (by simp), w64 (by omega) (by omega)]
    exact ih (i + 1) k (by omega) (by omega)
theorem sameF (l : List S26) (hl : l.length ≤ 1000) (r : Int) (s : Bool) {k : Nat} (hk : l.length + 2 ≤ k) : hopperref08_Same.f k r s l r s l = some true := by
  obtain ⟨k, rfl⟩ : ∃ n, k = n + 1 := ⟨k - 1, by omega⟩
  unfold hopperref08_Same.f
  rw [if_pos rfl, if_neg (by simp), hopperref08_Same.j0, if_neg (by simp)]
  exact same0 l hl _ _ _ _ l.length 0 k (by omega) (by omega)
def toS (x : S36) : S26 := ⟨x.f0, x.f1, x.f2⟩
def ofS (x : S26) : S36 := ⟨x.f0, x.f1, x.f2⟩
theorem toof (l : List S26) : (l.map ofS).map toS = l := by
  rw [List.map_map]; exact (List.map_congr_left (fun x _ => rfl)).trans (List.map_id l)
theorem own0 (l : List S26) (hl : l.length ≤ 1000) (r r' : Int) (s s' : Bool) : ∀ (m i k : Nat), i + m = l.length → m + 1 ≤ k → hopperlaw08_own.l0 k (i : Int) r s l r' s' ((l.take i).map ofS) = some (r', s', l.map ofS) := by
  intro m
  induction m with
  | zero =>
    intro i k hi hk
    obtain ⟨k, rfl⟩ : ∃ n, k = n + 1 := ⟨k - 1, by omega⟩
    rw [hopperlaw08_own.l0, if_neg (by omega), List.take_of_length_le (by omega)]
  | succ m ih =>
    intro i k hi hk
    obtain ⟨k, rfl⟩ : ∃ n, k = n + 1 := ⟨k - 1, by omega⟩
    have hil : i < l.length := by omega
    have hrd : rd_T26 l (i : Int) = l[i] := by simp [rd_T26, List.getElem?_eq_getElem hil]
    have h1 := ih (i + 1) k (by omega) (by omega)
    rw [List.take_succ_eq_append_getElem hil, List.map_append] at h1
    rw [hopperlaw08_own.l0, if_pos (by omega), if_pos (by omega), if_pos (by rw [List.length_map, List.length_take]; omega), w64 (by omega) (by omega), hrd]
    exact h1
theorem ownF (l : List S26) (hl : l.length ≤ 1000) (r : Int) (s : Bool) {k : Nat} (hk : l.length + 1 ≤ k) : hopperlaw08_own.f k r s l = some (r, s, l.map ofS) :=
  own0 l hl r r s s l.length 0 k (by omega) hk
theorem told0 (l : List S36) (hl : l.length ≤ 1000) (r r' : Int) (s s' : Bool) : ∀ (m i k : Nat), i + m = l.length → m + 1 ≤ k → hopperlaw08_told.l0 k (i : Int) r s l r' s' ((l.take i).map toS) = some (r', s', l.map toS) := by
  intro m
  induction m with
  | zero =>
    intro i k hi hk
    obtain ⟨k, rfl⟩ : ∃ n, k = n + 1 := ⟨k - 1, by omega⟩
    rw [hopperlaw08_told.l0, if_neg (by omega), List.take_of_length_le (by omega)]
  | succ m ih =>
    intro i k hi hk
    obtain ⟨k, rfl⟩ : ∃ n, k = n + 1 := ⟨k - 1, by omega⟩
    have hil : i < l.length := by omega
    have hrd : rd_T36 l (i : Int) = l[i] := by simp [rd_T36, List.getElem?_eq_getElem hil]
    have h1 := ih (i + 1) k (by omega) (by omega)
    rw [List.take_succ_eq_append_getElem hil, List.map_append] at h1
    rw [hopperlaw08_told.l0, if_pos (by omega), if_pos (by omega), if_pos (by rw [List.length_map, List.length_take]; omega), w64 (by omega) (by omega), hrd]
    exact h1
theorem toldF (l : List S36) (hl : l.length ≤ 1000) (r : Int) (s : Bool) {k : Nat} (hk : l.length + 1 ≤ k) : hopperlaw08_told.f k r s l = some (r, s, l.map toS) :=
  told0 l hl r r s s l.length 0 k (by omega) hk
/-- The second half: what is taken, and the end. -/
theorem half (l : List S26) (hl : l.length ≤ 40) (r : Int) (s : Bool) (r3 : Int) {k : Nat} (hk : 90 ≤ k) (e2 i2 j2 : Int) (d2 : ByteArray) (s2 : Bool) (m2 : List S36)
    (h2 : pipe_Pipe_Take.f r s (l.map ofS) = some (r, s2, m2, i2, j2, d2, e2)) : hopperlaw08_PipeCounts.j0 k e2 8 false r s l r s2 m2 i2 j2 d2 r3 true (l.map ofS) = some true := by
  obtain ⟨k, rfl⟩ : ∃ n, k = n + 1 := ⟨k - 1, by omega⟩
  rw [hopperlaw08_PipeCounts.j0, if_neg (by decide)]
  have hm : (l.map ofS).length = l.length := List.length_map ..
  cases l with
  | nil =>
    rw [List.map_nil, takeNil] at h2
    simp only [Option.some.injEq, Prod.mk.injEq] at h2
    obtain ⟨_, rfl, rfl, rfl, rfl, rfl, rfl⟩ := h2
    have hne : ¬ (if s = true then (8 : Int) else 7) = 0 := by split <;> decide
    rw [if_neg hne, toldF [] (by simp) _ _ (by simp; omega), Option.bind_some]
    dsimp only
    rw [List.map_nil, sameF [] (by simp) _ _ (by simp; omega), Option.bind_some, if_pos rfl, if_pos rfl, if_pos rfl, if_pos (by simp), live_true]
    rfl
  | cons x l =>
    have hx : (x :: l).length = l.length + 1 := by simp
    have hc : (((x :: l).length : Nat) : Int) = (l.length : Int) + 1 := by simp
    rw [List.map_cons, takeCons (by rw [List.length_map]; omega)] at h2
    simp only [Option.some.injEq, Prod.mk.injEq] at h2
    obtain ⟨_, rfl, rfl, rfl, rfl, rfl, rfl⟩ := h2
    rw [if_pos rfl, if_neg (by rw [hc]; omega), if_pos (by rw [hc, w64 (by omega) (by omega), List.length_map]; omega), if_pos (by rw [hc]; omega), if_neg (by simp [rd_T26, ofS]), if_pos rfl, if_pos rfl, if_pos (by rw [hm]), live_true]
    rfl
theorem pure_ (a0_0 : Int) (a0_1 : Bool) (l0_2 : List S26) (a1_0 a1_1 : Int) (a1_2 : ByteArray) : ∃ k, hopperlaw08_PipeCounts.f k a0_0 a0_1 l0_2 a1_0 a1_1 a1_2 = some true := by
  refine ⟨100, ?_⟩
  unfold hopperlaw08_PipeCounts.f hopperref08_Small.f
  rw [Option.bind_some]
  by_cases hs : (l0_2.length : Int) ≤ 40
  · rw [if_pos (by simpa using hs)]
    have hlen : (l0_2.map ofS).length = l0_2.length := List.length_map ..
    obtain ⟨s2, m2, i2, j2, d2, e2, p2⟩ : ∃ s2 m2 i2 j2 d2 e2, pipe_Pipe_Take.f a0_0 a0_1 (l0_2.map ofS) = some (a0_0, s2, m2, i2, j2, d2, e2) := by
      cases h : l0_2.map ofS with
      | nil => exact ⟨_, _, _, _, _, _, takeNil _ _⟩
      | cons x l =>
        have := congrArg List.length h
        rw [hlen, List.length_cons] at this
        exact ⟨_, _, _, _, _, _, takeCons (by omega) x _ _⟩
    obtain ⟨e3, p3⟩ : ∃ e3, pipe_Pipe_Close.f a0_0 a0_1 (l0_2.map ofS) = some (a0_0, true, l0_2.map ofS, e3) := by
      cases a0_1 with
      | true => exact ⟨_, rfl⟩
      | false => exact ⟨_, rfl⟩
    have H := half l0_2 (by omega) a0_0 a0_1 a0_0 (k := 100) (by omega) e2 i2 j2 d2 s2 m2 p2
    have toldSame : ∀ e : Int, ((hopperlaw08_told.f 100 a0_0 a0_1 (l0_2.map ofS)).bind fun bt330 => ((hopperref08_Same.f 100 bt330.1 bt330.2.1 bt330.2.2 a0_0 a0_1 l0_2).bind fun t335 => (hopperlaw08_PipeCounts.j0 100 e2 8 (!t335) a0_0 a0_1 l0_2 a0_0 s2 m2 i2 j2 d2 a0_0 true (l0_2.map ofS)))) = some true := fun _ => by
      rw [toldF _ (by omega) _ _ (by omega), Option.bind_some]
      dsimp only
      rw [toof, sameF _ (by omega) _ _ (by omega), Option.bind_some]
      exact H
    rw [ownF l0_2 (by omega) a0_0 a0_1 (by omega), Option.bind_some]
    dsimp only
    cases hsh : a0_1 with
    | true =>
      subst hsh
      rw [sendShut, Option.bind_some, Option.bind_some, p2, Option.bind_some, Option.bind_some, p3, Option.bind_some]
      dsimp only
      rw [sendShut, Option.bind_some]
      dsimp only
      rw [if_neg (by decide)]
      exact toldSame 0
    | false =>
      subst hsh
      by_cases hf : ((l0_2.map ofS).length : Int) ≥ a0_0
      · rw [sendFull hf, Option.bind_some, Option.bind_some, p2, Option.bind_some, Option.bind_some, p3, Option.bind_some]
        dsimp only
        rw [sendShut, Option.bind_some]
        dsimp only
        rw [if_neg (by decide)]
        exact toldSame 0
      · rw [sendRoom (by omega) hf, Option.bind_some, Option.bind_some, p2, Option.bind_some, Option.bind_some, p3, Option.bind_some]
        dsimp only
        rw [sendShut, Option.bind_some]
        dsimp only
        have hap : (((l0_2.map ofS ++ [(⟨a1_0, a1_1, a1_2⟩ : S36)]).length : Nat) : Int) = (l0_2.length : Int) + 1 := by simp
        have hrd : rd_T36 (l0_2.map ofS ++ [(⟨a1_0, a1_1, a1_2⟩ : S36)]) (l0_2.length : Int) = ⟨a1_0, a1_1, a1_2⟩ := by simp [rd_T36]
        rw [if_pos rfl, if_pos (by rw [hap, w64 (by omega) (by omega)]), if_pos (by omega), if_pos (by rw [hap]; omega), hrd, if_neg (by simp)]
        exact H
  · rw [if_neg (by simpa using hs), live_true]
    rfl
end Go.Proofs.Ytacncgpnimdfbaa.PPipeCounts
