/- The law TurnMay as a statement over lists and numbers: who is picked, or is next, may go on; by one more the next one is picked; of at most 200. -/
import Derived.Test.YtnjjgaahkbemmaaPTurnMayx1
import Derived.Test.YtnjjgaahkbemmaaPTurnMayx2
import Derived.Test.YtnjjgaahkbemmaaPlain
namespace Go.Proofs.Ytnjjgaahkbemmaa.PTurnMay
open Go.RowKit Go.Proofs.YtnjjgaahkbemmaaW.PrintWords Go.Proofs.YtnjjgaahkbemmaaW.PrintMore Hand

theorem live_true {k : Nat} (hk : 10 ≤ k) : hopperlaw10_live.f k = some true := by
  have h : hopperlaw10_live.f 10 = some true := by decide +kernel
  obtain ⟨d, rfl⟩ := Nat.exists_eq_add_of_le hk
  induction d with
  | zero => exact h
  | succ d ih => exact hopperlaw10_live.mono _ _ (ih (by omega))

theorem S_get {l : List Bool} (h : S l ≠ []) (i : Nat) : ∃ a : Nat, (S l).getD (i % (S l).length) 0 = a ∧ (S l)[i % (S l).length]? = some a ∧ a < l.length ∧ l.getD a false = true := by
  have hm : 0 < (S l).length := List.length_pos_iff.2 h
  have hg := getD_lt (Nat.mod_lt i hm)
  have := S_at hg
  exact ⟨_, rfl, hg, this.2.2.2.1, this.2.2.2.2⟩

theorem pure_ (l : List Bool) (n last : Int) : ∃ k, hopperlaw10_TurnMay.f k l n last = some true := by
  obtain ⟨K, hK⟩ : ∃ K : Nat, 100 ≤ K := ⟨100, Nat.le_refl _⟩
  refine ⟨K + 1 + 1, ?_⟩
  unfold hopperlaw10_TurnMay.f
  by_cases hl : (l.length : Int) > 200
  · rw [if_pos hl]; simp only [hopperlaw10_TurnMay.j0]; rw [if_pos trivial, live_true (by omega)]; rfl
  · by_cases h0 : n < 0
    · rw [if_neg hl, if_pos h0]; simp only [hopperlaw10_TurnMay.j0]; rw [if_pos trivial, live_true (by omega)]; rfl
    · rw [if_neg hl, if_neg h0]
      by_cases h1 : n > 1099511627776
      · simp only [hopperlaw10_TurnMay.j0]; rw [if_pos (by simpa using h1), live_true (by omega)]; rfl
      · simp only [hopperlaw10_TurnMay.j0]
        rw [if_neg (by simpa using h1)]
        unfold turn_Count.f turn_Pick.f turn_Next.f
        rw [if_pos (by omega), if_pos (by omega), if_pos (by omega)]
        simp only [Option.bind_some]
        have hc := cntB_S l
        by_cases hS : S l = []
        · rw [pickB_nobody hS, nextB_nobody hS, hc, hS]
          simp only [List.length_nil]
          rw [if_neg (by decide), if_neg (by decide), if_neg (by omega)]
          simp only [hopperlaw10_TurnMay.j1]
          rw [if_neg (by simp; omega), if_pos (by rfl), if_pos trivial, if_pos trivial, live_true (by omega)]; rfl
        · have hm : 0 < (S l).length := List.length_pos_iff.2 hS
          have hle : (S l).length ≤ 200 := Nat.le_trans (T_len _ _ _) (by omega)
          obtain ⟨a, ha, hga, hal, hta⟩ := S_get hS n.toNat
          obtain ⟨b, hb, hgb, hbl, htb⟩ := S_get hS (pB l last)
          have ea : pickB l n = a := by rw [pickB_eq hS (by omega), ha]
          have eb : nextB l last = b := by rw [nextB_eq hS, hb]
          rw [ea, eb]
          have f1 : (cntB l == 0) = false := beq_eq_false_iff_ne.2 (by omega)
          have f2 : decide ((a : Int) < 0) = false := decide_eq_false (by omega)
          have f3 : decide ((b : Int) < 0) = false := decide_eq_false (by omega)
          rw [if_neg (by rw [f1, f2]; decide), if_neg (by rw [f1, f3]; decide), if_neg (by omega)]
          simp only [hopperlaw10_TurnMay.j1]
          rw [if_neg (by simp; omega), if_neg (by omega), if_pos (by omega), if_pos (by omega), rdOf_nat, if_pos hta, if_pos (by omega), if_pos (by omega), rdOf_nat, if_pos htb]
          unfold turn_Pick.f turn_Next.f
          rw [if_pos (by omega), if_pos (by omega), if_pos (by omega)]
          simp only [Option.bind_some]
          rw [w64 (n := n + 1) (by omega) (by omega), w64 (n := n + cntB l) (by omega) (by omega)]
          have e1 : pickB l (n + 1) = nextB l (a : Int) := by
            rw [pickB_eq hS (by omega), nextB_eq hS, pB_at hga]
            rw [show (n + 1).toNat = n.toNat + 1 by omega, ← Nat.mod_add_mod]
          have e2 : pickB l (n + cntB l) = a := by
            rw [pickB_eq hS (by omega), hc, show (n + ((S l).length : Nat)).toNat = n.toNat + (S l).length by omega, Nat.add_mod_right, ha]
          rw [if_pos e1, if_pos e2, live_true (by omega)]; rfl
end Go.Proofs.Ytnjjgaahkbemmaa.PTurnMay
