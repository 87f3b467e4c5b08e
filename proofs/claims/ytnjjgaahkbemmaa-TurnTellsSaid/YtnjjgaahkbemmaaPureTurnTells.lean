/- The law TurnTells as a statement over lists and numbers: the program's answers are the document's, of at most 200. -/
import Derived.Test.YtnjjgaahkbemmaaPTurnTellsx1
import Derived.Test.YtnjjgaahkbemmaaPTurnTellsx2
import Derived.Test.YtnjjgaahkbemmaaPTurnTellsx3
import Derived.Test.YtnjjgaahkbemmaaPlain
namespace Go.Proofs.Ytnjjgaahkbemmaa.PTurnTells
open Go.RowKit Go.Proofs.YtnjjgaahkbemmaaW.PrintWords Go.Proofs.YtnjjgaahkbemmaaW.PrintMore Hand

theorem live_true {k : Nat} (hk : 10 ≤ k) : hopperlaw10_live.f k = some true := by
  have h : hopperlaw10_live.f 10 = some true := by decide +kernel
  obtain ⟨d, rfl⟩ := Nat.exists_eq_add_of_le hk
  induction d with
  | zero => exact h
  | succ d ih => exact hopperlaw10_live.mono _ _ (ih (by omega))

theorem refCount {l : List Bool} (hl : l.length ≤ 200) (d : Nat) : ∀ (i : Nat) (x : Int) (k : Nat), i + d = l.length → d < k → 0 ≤ x → x ≤ i → hopperref10_Count.l0 k l x i = some (x + (T l i d).length) := by
  induction d with
  | zero =>
    intro i x k hi hk h0 h1
    obtain ⟨k, rfl⟩ : ∃ m, k = m + 1 := ⟨k - 1, by omega⟩
    simp only [hopperref10_Count.l0]
    rw [if_neg (by omega), T_zero]; simp
  | succ d ih =>
    intro i x k hi hk h0 h1
    obtain ⟨k, rfl⟩ : ∃ m, k = m + 1 := ⟨k - 1, by omega⟩
    simp only [hopperref10_Count.l0]
    rw [if_pos (by omega), if_pos (by omega), rdOf_nat, w64 (n := (i : Int) + 1) (by omega) (by omega), w64 (n := x + 1) (by omega) (by omega)]
    cases hb : l.getD i false with
    | true => rw [if_pos rfl, T_yes d hb]; have := ih (i + 1) (x + 1) k (by omega) (by omega) (by omega) (by omega); rw [Int.natCast_add, show ((1 : Nat) : Int) = 1 from rfl] at this; rw [this]; simp; omega
    | false => rw [if_neg (by simp), T_no d hb]; have := ih (i + 1) x k (by omega) (by omega) (by omega) (by omega); rw [Int.natCast_add] at this; exact this

theorem refCount_all {l : List Bool} (hl : l.length ≤ 200) {k : Nat} (hk : 300 ≤ k) : hopperref10_Count.f k l = some (cntB l) := by
  unfold hopperref10_Count.f
  have := refCount hl l.length 0 0 k (by omega) (by omega) (by omega) (by omega)
  rw [cntB_S]; simpa using this

theorem refPick {l : List Bool} (hl : l.length ≤ 200) (d : Nat) : ∀ (i : Nat) (x : Nat) (k : Nat), i + d = l.length → 2 * d < k → x ≤ 1000 → hopperref10_Pick.l0 k l x i = some (((T l i d).map (fun j : Nat => (j : Int))).getD x (-1)) := by
  induction d with
  | zero =>
    intro i x k hi hk h0
    obtain ⟨k, rfl⟩ : ∃ m, k = m + 1 := ⟨k - 1, by omega⟩
    simp only [hopperref10_Pick.l0]
    rw [if_neg (by omega), T_zero]; simp
  | succ d ih =>
    intro i x k hi hk h0
    obtain ⟨k, rfl⟩ : ∃ m, k = m + 1 + 1 := ⟨k - 2, by omega⟩
    simp only [hopperref10_Pick.l0]
    rw [if_pos (by omega), if_pos (by omega), rdOf_nat]
    cases hb : l.getD i false with
    | true =>
      rw [if_pos rfl, T_yes d hb]
      simp only [hopperref10_Pick.j2]
      cases x with
      | zero => rw [if_pos (by simp)]; simp
      | succ x =>
        rw [if_neg (by simp; omega), if_pos (by omega), if_pos (by omega), rdOf_nat, hb, if_pos rfl, w64 (n := (i : Int) + 1) (by omega) (by omega), w64 (by omega) (by omega)]
        have := ih (i + 1) x k (by omega) (by omega) (by omega)
        rw [Int.natCast_add, show ((1 : Nat) : Int) = 1 from rfl] at this
        rw [show ((x + 1 : Nat) : Int) - 1 = (x : Int) by omega]
        rw [this]; simp
    | false =>
      rw [if_neg (by simp), T_no d hb]
      simp only [hopperref10_Pick.j2]
      rw [if_neg (by simp), if_pos (by omega), if_pos (by omega), rdOf_nat, hb, if_neg (by simp), w64 (n := (i : Int) + 1) (by omega) (by omega)]
      have := ih (i + 1) x k (by omega) (by omega) (by omega)
      rw [Int.natCast_add] at this; exact this

theorem refPick_all {l : List Bool} (hl : l.length ≤ 200) (n : Int) {k : Nat} (hk : 1000 ≤ k) : hopperref10_Pick.f k l n = some (pickB l n) := by
  obtain ⟨k, rfl⟩ : ∃ m, k = m + 1 := ⟨k - 1, by omega⟩
  unfold hopperref10_Pick.f
  rw [refCount_all hl (by omega)]
  simp only [Option.bind_some, hopperref10_Pick.j0]
  have hc := cntB_S l
  by_cases h : S l = []
  · rw [pickB_nobody h, if_pos (by rw [hc, h]; rfl), if_pos trivial]
  · have hm : 0 < (S l).length := List.length_pos_iff.2 h
    have hle : (S l).length ≤ 200 := Nat.le_trans (T_len _ _ _) hl
    rw [if_neg (by omega)]
    by_cases hn : n < 0
    · rw [if_pos (by simpa using hn), pickB_none (.inr hn)]
    · rw [if_neg (by simpa using hn), if_neg (by omega), pickB_eq h (by omega), hc]
      obtain ⟨q, rfl⟩ := Int.eq_ofNat_of_zero_le (show 0 ≤ n by omega)
      have hlt := Nat.mod_lt q hm
      rw [Int.tmod_eq_emod_of_nonneg (by omega), ← Int.natCast_emod]
      have := refPick hl l.length 0 (q % (S l).length) k (by omega) (by omega) (by omega)
      rw [show ((0 : Nat) : Int) = 0 from rfl] at this
      rw [this, Int.toNat_natCast]
      simp [List.getD_eq_getElem?_getD, hlt]

theorem refNext1 {l : List Bool} (hl : l.length ≤ 200) (fr : Nat) (hfr : fr ≤ l.length) (d : Nat) : ∀ (i : Nat) (k : Nat), i + d = fr → d < k → hopperref10_Next.l1 k l fr i = some (((T l i d).map (fun j : Nat => (j : Int))).headD (-1)) := by
  induction d with
  | zero =>
    intro i k hi hk
    obtain ⟨k, rfl⟩ : ∃ m, k = m + 1 := ⟨k - 1, by omega⟩
    simp only [hopperref10_Next.l1]
    rw [if_neg (by omega), T_zero]; simp
  | succ d ih =>
    intro i k hi hk
    obtain ⟨k, rfl⟩ : ∃ m, k = m + 1 := ⟨k - 1, by omega⟩
    simp only [hopperref10_Next.l1]
    rw [if_pos (by omega), if_pos (by omega), if_pos (by omega), rdOf_nat]
    cases hb : l.getD i false with
    | true => rw [if_pos rfl, T_yes d hb]; simp
    | false =>
      rw [if_neg (by simp), T_no d hb, w64 (n := (i : Int) + 1) (by omega) (by omega)]
      have := ih (i + 1) k (by omega) (by omega)
      rw [Int.natCast_add] at this; exact this
theorem refNext0 {l : List Bool} (hl : l.length ≤ 200) (fr : Nat) (hfr : fr ≤ l.length) (d : Nat) : ∀ (i : Nat) (k : Nat), i + d = l.length → d + fr + 1 < k → hopperref10_Next.l0 k l fr i = some (((T l i d ++ T l 0 fr).map (fun j : Nat => (j : Int))).headD (-1)) := by
  induction d with
  | zero =>
    intro i k hi hk
    obtain ⟨k, rfl⟩ : ∃ m, k = m + 1 := ⟨k - 1, by omega⟩
    simp only [hopperref10_Next.l0]
    rw [if_neg (by omega), T_zero]
    exact refNext1 hl fr hfr fr 0 k (by omega) (by omega)
  | succ d ih =>
    intro i k hi hk
    obtain ⟨k, rfl⟩ : ∃ m, k = m + 1 := ⟨k - 1, by omega⟩
    simp only [hopperref10_Next.l0]
    rw [if_pos (by omega), if_pos (by omega), rdOf_nat]
    cases hb : l.getD i false with
    | true => rw [if_pos rfl, T_yes d hb]; simp
    | false =>
      rw [if_neg (by simp), T_no d hb, w64 (n := (i : Int) + 1) (by omega) (by omega)]
      have := ih (i + 1) k (by omega) (by omega)
      rw [Int.natCast_add] at this; exact this
theorem refNext_all {l : List Bool} (hl : l.length ≤ 200) (last : Int) {k : Nat} (hk : 1000 ≤ k) : hopperref10_Next.f k l last = some (nextB l last) := by
  obtain ⟨k, rfl⟩ : ∃ m, k = m + 1 + 1 := ⟨k - 2, by omega⟩
  have key : hopperref10_Next.l0 k l (fromB l last) (fromB l last) = some (nextB l last) := by
    have hf := fromB_le l last
    rw [refNext0 hl (fromB l last) hf (l.length - fromB l last) (fromB l last) k (by omega) (by omega)]
    unfold nextB; rw [rot_eq l hf]
  unfold hopperref10_Next.f
  simp only [hopperref10_Next.j0, hopperref10_Next.j1]
  by_cases h0 : 0 ≤ last
  · rw [if_pos (by omega)]
    by_cases h1 : last < l.length
    · rw [if_pos (by simpa using h1), w64 (by omega) (by omega)]
      rw [show ((fromB l last : Nat) : Int) = last + 1 by unfold fromB; rw [if_pos ⟨h0, h1⟩]; omega] at key
      exact key
    · rw [if_neg (by simpa using h1)]
      rw [show ((fromB l last : Nat) : Int) = 0 by unfold fromB; rw [if_neg (by omega)]; rfl] at key
      exact key
  · rw [if_neg (by omega), if_neg (by simp)]
    rw [show ((fromB l last : Nat) : Int) = 0 by unfold fromB; rw [if_neg (by omega)]; rfl] at key
    exact key

set_option maxRecDepth 20000 in
theorem turnRounds {l : List Bool} (hl : l.length ≤ 200) (d : Nat) : ∀ (i : Nat) (last : Int) (acc : List Int) (k : Nat) (lim : Int), (i : Int) + d = lim → lim ≤ 1000 → d < k → acc.length ≤ i → turn_Rounds.l0 k l last acc lim i = some (acc ++ rnds l last d) := by
  induction d with
  | zero =>
    intro i last acc k lim hi h1 hk ha
    obtain ⟨k, rfl⟩ : ∃ m, k = m + 1 := ⟨k - 1, by omega⟩
    simp only [turn_Rounds.l0]
    rw [if_neg (by omega)]; simp [rnds]
  | succ d ih =>
    intro i last acc k lim hi h1 hk ha
    obtain ⟨k, rfl⟩ : ∃ m, k = m + 1 := ⟨k - 1, by omega⟩
    simp only [turn_Rounds.l0]
    rw [if_pos (by omega)]
    unfold turn_Next.f
    rw [if_pos (by omega)]
    simp only [Option.bind_some]
    unfold rnds
    by_cases hn : nextB l last < 0
    · rw [if_pos hn, if_pos hn]; simp
    · rw [if_neg hn, if_neg hn, if_pos (by omega), w64 (n := (i : Int) + 1) (by omega) (by omega)]
      have := ih (i + 1) (nextB l last) (acc ++ [nextB l last]) k lim (by omega) h1 (by omega) (by simp; omega)
      rw [Int.natCast_add] at this
      rw [show ((1 : Nat) : Int) = 1 from rfl] at this
      rw [this]; simp
set_option maxRecDepth 20000 in
theorem refRounds {l : List Bool} (hl : l.length ≤ 200) (n : Int) (d : Nat) : ∀ (i : Nat) (last : Int) (acc : List Int) (k : Nat), ((i : Int) + d = mx (mn n 1000) 0 ∨ (d = 0 ∧ n < 0)) → i ≤ 1000 → 2 * d + 1100 < k → acc.length ≤ i → hopperref10_Rounds.l0 k l last n acc i = some (acc ++ rnds l last d) := by
  induction d with
  | zero =>
    intro i last acc k hi h1 hk ha
    obtain ⟨k, rfl⟩ : ∃ m, k = m + 1 + 1 := ⟨k - 2, by omega⟩
    simp only [hopperref10_Rounds.l0, hopperref10_Rounds.j1]
    by_cases hlt : (i : Int) < n
    · rw [if_pos hlt, if_neg (by unfold mx mn at hi; simp; split at hi <;> split at hi <;> omega)]; simp [rnds]
    · rw [if_neg hlt, if_neg (by simp)]; simp [rnds]
  | succ d ih =>
    intro i last acc k hi h1 hk ha
    obtain ⟨k, rfl⟩ : ∃ m, k = m + 1 + 1 := ⟨k - 2, by omega⟩
    simp only [hopperref10_Rounds.l0, hopperref10_Rounds.j1]
    have hb : (i : Int) < n ∧ (i : Int) < 1000 := by unfold mx mn at hi; split at hi <;> split at hi <;> omega
    rw [if_pos hb.1, if_pos (by simpa using hb.2), refNext_all hl last (by omega)]
    simp only [Option.bind_some]
    unfold rnds
    by_cases hn : nextB l last < 0
    · rw [if_pos hn, if_pos hn]; simp
    · rw [if_neg hn, if_neg hn, if_pos (by omega), w64 (n := (i : Int) + 1) (by omega) (by omega)]
      have := ih (i + 1) (nextB l last) (acc ++ [nextB l last]) k (by omega) (by omega) (by omega) (by simp; omega)
      rw [Int.natCast_add] at this
      rw [show ((1 : Nat) : Int) = 1 from rfl] at this
      rw [this]; simp

set_option maxRecDepth 20000 in
theorem same_refl (l : List Int) (hl : l.length ≤ 1000) (d : Nat) : ∀ (i k : Nat), i + d = l.length → d < k → hopperref09_Same.l0 k l l i = some true := by
  induction d with
  | zero =>
    intro i k hi hk
    obtain ⟨k, rfl⟩ : ∃ m, k = m + 1 := ⟨k - 1, by omega⟩
    simp only [hopperref09_Same.l0]
    rw [if_neg (by omega)]
  | succ d ih =>
    intro i k hi hk
    obtain ⟨k, rfl⟩ : ∃ m, k = m + 1 := ⟨k - 1, by omega⟩
    simp only [hopperref09_Same.l0]
    rw [if_pos (by omega), if_pos (by omega), if_pos (by omega), if_pos trivial, w64 (by omega) (by omega)]
    have := ih (i + 1) k (by omega) (by omega)
    rw [Int.natCast_add] at this; exact this

/-- The law, over lists and numbers. -/
theorem pure_ (l : List Bool) (n last : Int) : ∃ k, hopperlaw10_TurnTells.f k l n last = some true := by
  obtain ⟨K, hK⟩ : ∃ K : Nat, 5000 ≤ K := ⟨5000, Nat.le_refl _⟩
  refine ⟨K, ?_⟩
  unfold hopperlaw10_TurnTells.f
  by_cases hl : (l.length : Int) > 200
  · rw [if_pos hl, live_true (by omega)]; rfl
  · have hl' : l.length ≤ 200 := by omega
    have hm : 0 ≤ mx (mn n 1000) 0 ∧ mx (mn n 1000) 0 ≤ 1000 := by unfold mx mn; split <;> split <;> omega
    have hT : turn_Rounds.f K l last n = some (rnds l last (mx (mn n 1000) 0).toNat) := by
      unfold turn_Rounds.f
      have := turnRounds hl' (mx (mn n 1000) 0).toNat 0 last [] K (mx (mn n 1000) 0) (by omega) hm.2 (by omega) (by simp)
      rw [List.nil_append] at this
      exact this
    have hR : hopperref10_Rounds.f K l last n = some (rnds l last (mx (mn n 1000) 0).toNat) := by
      unfold hopperref10_Rounds.f
      have := refRounds hl' n (mx (mn n 1000) 0).toNat 0 last [] K (.inl (by omega)) (by omega) (by omega) (by simp)
      rw [List.nil_append] at this
      exact this
    have hS : hopperref09_Same.f K (rnds l last (mx (mn n 1000) 0).toNat) (rnds l last (mx (mn n 1000) 0).toNat) = some true := by
      unfold hopperref09_Same.f
      have hle := rnds_len l last (mx (mn n 1000) 0).toNat
      rw [if_pos rfl]
      exact same_refl _ (by omega) _ 0 K (Nat.zero_add _) (by omega)
    rw [if_neg hl, refCount_all hl' (by omega), refPick_all hl' n (by omega), refNext_all hl' last (by omega), hT, hR]
    unfold turn_Count.f turn_Pick.f turn_Next.f
    rw [if_pos (by omega), if_pos (by omega), if_pos (by omega)]
    simp only [Option.bind_some, if_true, hS, live_true (show 10 ≤ K by omega)]
end Go.Proofs.Ytnjjgaahkbemmaa.PTurnTells
