/- The law TurnRounds as a statement over lists and numbers: in as many turns as there are who may, each has just one; of at most 200. -/
import Derived.Test.YtnjjgaahkbemmaaPTurnRoundsx1
import Derived.Test.YtnjjgaahkbemmaaPTurnRoundsx2
import Derived.Test.YtnjjgaahkbemmaaPlain
namespace Go.Proofs.Ytnjjgaahkbemmaa.PTurnRounds
open Go.RowKit Go.Proofs.YtnjjgaahkbemmaaW.PrintWords Go.Proofs.YtnjjgaahkbemmaaW.PrintMore Hand

theorem live_true {k : Nat} (hk : 10 ≤ k) : hopperlaw10_live.f k = some true := by
  have h : hopperlaw10_live.f 10 = some true := by decide +kernel
  obtain ⟨d, rfl⟩ := Nat.exists_eq_add_of_le hk
  induction d with
  | zero => exact h
  | succ d ih => exact hopperlaw10_live.mono _ _ (ih (by omega))
set_option maxRecDepth 20000 in
theorem turnRounds {l : List Bool} (hl : l.length ≤ 200) (d : Nat) : ∀ (i : Nat) (last : Int) (acc : List Int) (k : Nat) (lim : Int), (i : Int) + d = lim → lim ≤ 1000 → d < k → acc.length ≤ i → turn_Rounds.l0 k l last acc lim i = some (acc ++ rnds l last d) := by
  induction d with
  | zero =>
    intro i last acc k lim hi h1 hk ha
    obtain ⟨k, rfl⟩ : ∃ m, k = m + 1 := ⟨k - 1, by omega⟩
    simp only [turn_Rounds.l0]
    rw [if_neg (by omega)]; simp [rnds]
  | succ d ih =>
    intro i last acc k lim hi h1 hk ha
    obtain ⟨k, rfl⟩ : ∃ m, k = m + 1 := ⟨k - 1, by omega⟩
    simp only [turn_Rounds.l0]
    rw [if_pos (by omega)]
    unfold turn_Next.f
    rw [if_pos (by omega)]
    simp only [Option.bind_some]
    unfold rnds
    by_cases hn : nextB l last < 0
    · rw [if_pos hn, if_pos hn]; simp
    · rw [if_neg hn, if_neg hn, if_pos (by omega), w64 (n := (i : Int) + 1) (by omega) (by omega)]
      have := ih (i + 1) (nextB l last) (acc ++ [nextB l last]) k lim (by omega) h1 (by omega) (by simp; omega)
      rw [Int.natCast_add] at this
      rw [show ((1 : Nat) : Int) = 1 from rfl] at this
      rw [this]; simp

/-- Of any number of turns that are all different, none was had before. -/
theorem walk {l : List Bool} (r : List Int) (hr : ∀ x ∈ r, 0 ≤ x ∧ x < l.length ∧ l.getD x.toNat false = true) (hn : r.Nodup) (hrl : r.length ≤ 200) (d : Nat) : ∀ (i : Nat) (had : List Int) (k : Nat), i + d = r.length → d + 20 < k → had.length = l.length → (∀ x ∈ r.drop i, rd had x = 0) → hopperlaw10_TurnRounds.l0 k l r had i = some true := by
  induction d with
  | zero =>
    intro i had k hi hk hh hz
    obtain ⟨k, rfl⟩ : ∃ m, k = m + 1 := ⟨k - 1, by omega⟩
    simp only [hopperlaw10_TurnRounds.l0]
    rw [if_neg (by omega), live_true (by omega)]; rfl
  | succ d ih =>
    intro i had k hi hk hh hz
    obtain ⟨k, rfl⟩ : ∃ m, k = m + 1 := ⟨k - 1, by omega⟩
    have hlt : i < r.length := by omega
    obtain ⟨x, hx⟩ : ∃ x, x = r[i] := ⟨_, rfl⟩
    have hmem : x ∈ r := by rw [hx]; exact List.getElem_mem hlt
    obtain ⟨x0, x1, x2⟩ := hr x hmem
    have hrd : rd r (i : Int) = x := by rw [hx]; simp [rd, List.getD_eq_getElem?_getD, hlt]
    have hdrop : r.drop i = x :: r.drop (i + 1) := by rw [hx]; exact List.drop_eq_getElem_cons hlt
    simp only [hopperlaw10_TurnRounds.l0, hrd]
    rw [if_pos (by omega), if_pos (by omega), if_neg (by omega), if_neg (by omega), if_pos (by omega), if_pos (by omega)]
    rw [if_pos (by simpa [rdOf] using x2), if_pos (by omega), if_neg (by rw [hz x (by rw [hdrop]; simp)]; omega), w64 (by omega) (by omega)]
    have := ih (i + 1) (had.set x.toNat 1) k (by omega) (by omega) (by simpa using hh) (fun y hy => ?_)
    · rw [Int.natCast_add, show ((1 : Nat) : Int) = 1 from rfl] at this; exact this
    · have hy0 := hr y (List.mem_of_mem_drop hy)
      have hne : x ≠ y := by
        intro e
        have : (x :: r.drop (i + 1)).Nodup := by rw [← hdrop]; exact hn.sublist (List.drop_sublist _ _)
        rw [e] at this
        exact (List.nodup_cons.1 this).1 hy
      have hz' := hz y (by rw [hdrop]; exact List.mem_cons_of_mem _ hy)
      unfold rd at hz' ⊢
      rw [List.getD_eq_getElem?_getD, List.getElem?_set_ne (by omega), ← List.getD_eq_getElem?_getD]; exact hz'

theorem map_nodup {α β : Type} {f : α → β} {l : List α} (hf : ∀ x ∈ l, ∀ y ∈ l, f x = f y → x = y) (h : l.Nodup) : (l.map f).Nodup := by
  induction l with
  | nil => simp
  | cons a l ih =>
    rw [List.map_cons, List.nodup_cons]
    obtain ⟨h1, h2⟩ := List.nodup_cons.1 h
    refine ⟨fun hm => ?_, ih (fun x hx y hy => hf x (List.mem_cons_of_mem _ hx) y (List.mem_cons_of_mem _ hy)) h2⟩
    obtain ⟨b, hb, e⟩ := List.mem_map.1 hm
    have := hf b (List.mem_cons_of_mem _ hb) a (List.mem_cons_self) e
    subst this; exact h1 hb

/-- A round: as many different turns as there are who may. -/
theorem round_ok (l : List Bool) (last : Int) : (rnds l last (S l).length).length = (S l).length ∧ (rnds l last (S l).length).Nodup ∧ ∀ x ∈ rnds l last (S l).length, 0 ≤ x ∧ x < l.length ∧ l.getD x.toNat false = true := by
  by_cases hS : S l = []
  · rw [rnds_nobody hS, hS]; simp
  · have hm : 0 < (S l).length := List.length_pos_iff.2 hS
    rw [rnds_eq hS]
    refine ⟨by simp, map_nodup (fun i hi j hj e => ?_) List.nodup_range, fun x hx => ?_⟩
    · have hi' := List.mem_range.1 hi
      have hj' := List.mem_range.1 hj
      have e' : (S l).getD ((pB l last + i) % (S l).length) 0 = (S l).getD ((pB l last + j) % (S l).length) 0 := by omega
      have h1 := getD_lt (xs := S l) (Nat.mod_lt (pB l last + i) hm)
      have h2 := getD_lt (xs := S l) (Nat.mod_lt (pB l last + j) hm)
      rw [← e'] at h2
      have hmm := List.getElem?_inj (Nat.mod_lt (pB l last + i) hm) (S_nodup l) |>.1 (h1.trans h2.symm)
      have hp := pB_le l last
      have q1 := Nat.div_add_mod (pB l last + i) (S l).length
      have q2 := Nat.div_add_mod (pB l last + j) (S l).length
      rw [hmm] at q1
      rcases Nat.lt_trichotomy ((pB l last + i) / (S l).length) ((pB l last + j) / (S l).length) with h | h | h
      · have := Nat.mul_le_mul_left (S l).length (show (pB l last + i) / (S l).length + 1 ≤ (pB l last + j) / (S l).length from h)
        rw [Nat.mul_add, Nat.mul_one] at this; omega
      · rw [h] at q1; omega
      · have := Nat.mul_le_mul_left (S l).length (show (pB l last + j) / (S l).length + 1 ≤ (pB l last + i) / (S l).length from h)
        rw [Nat.mul_add, Nat.mul_one] at this; omega
    · obtain ⟨j, _, rfl⟩ := List.mem_map.1 hx
      have := S_at (getD_lt (xs := S l) (Nat.mod_lt (pB l last + j) hm))
      exact ⟨by omega, by omega, by rw [Int.toNat_natCast]; exact this.2.2.2.2⟩

theorem pure_ (l : List Bool) (last : Int) : ∃ k, hopperlaw10_TurnRounds.f k l last = some true := by
  obtain ⟨K, hK⟩ : ∃ K : Nat, 5000 ≤ K := ⟨5000, Nat.le_refl _⟩
  refine ⟨K, ?_⟩
  unfold hopperlaw10_TurnRounds.f
  by_cases hl : (l.length : Int) > 200
  · rw [if_pos hl, live_true (by omega)]; rfl
  · have hl' : l.length ≤ 200 := by omega
    have hle : (S l).length ≤ 200 := Nat.le_trans (T_len _ _ _) hl'
    obtain ⟨r1, r2, r3⟩ := round_ok l last
    have hT : turn_Rounds.f K l last (cntB l) = some (rnds l last (S l).length) := by
      unfold turn_Rounds.f
      have e : mx (mn (cntB l) 1000) 0 = ((S l).length : Nat) := by rw [cntB_S]; unfold mx mn; split <;> split <;> omega
      have := turnRounds hl' (S l).length 0 last [] K (mx (mn (cntB l) 1000) 0) (by rw [e]; simp) (by rw [e]; omega) (by omega) (by simp)
      rw [List.nil_append] at this
      exact this
    rw [if_neg hl]
    unfold turn_Count.f
    rw [if_pos (by omega)]
    simp only [Option.bind_some, hT]
    rw [if_pos (by rw [r1, cntB_S]), if_pos (by omega), if_pos (by omega)]
    refine walk _ r3 r2 (by omega) (S l).length 0 _ K (by omega) (by omega) (by simp) (fun x hx => ?_)
    have := r3 x (List.mem_of_mem_drop hx)
    unfold rd
    rw [List.getD_eq_getElem?_getD, List.getElem?_replicate]
    split <;> rfl
end Go.Proofs.Ytnjjgaahkbemmaa.PTurnRounds
