/- The law TurnNext as a statement over lists and numbers: nobody who may go on stands between the last one and the next one, round; of at most 200. -/
import Derived.Test.YtnjjgaahkbemmaaPTurnNextx1
import Derived.Test.YtnjjgaahkbemmaaPTurnNextx2
import Derived.Test.YtnjjgaahkbemmaaPlain
namespace Go.Proofs.Ytnjjgaahkbemmaa.PTurnNext
open Go.RowKit Go.Proofs.YtnjjgaahkbemmaaW.PrintWords Go.Proofs.YtnjjgaahkbemmaaW.PrintMore Hand

theorem live_true {k : Nat} (hk : 10 ≤ k) : hopperlaw10_live.f k = some true := by
  have h : hopperlaw10_live.f 10 = some true := by decide +kernel
  obtain ⟨d, rfl⟩ := Nat.exists_eq_add_of_le hk
  induction d with
  | zero => exact h
  | succ d ih => exact hopperlaw10_live.mono _ _ (ih (by omega))

/-- Nobody may: all are looked at. -/
theorem nobody {l : List Bool} (hl : l.length ≤ 200) (hS : S l = []) (d : Nat) : ∀ (i k : Nat), i + d = l.length → d + 20 < k → hopperlaw10_TurnNext.l0 k l (-1) i = some true := by
  induction d with
  | zero =>
    intro i k hi hk
    obtain ⟨k, rfl⟩ : ∃ m, k = m + 1 := ⟨k - 1, by omega⟩
    simp only [hopperlaw10_TurnNext.l0]
    rw [if_neg (by omega), if_pos trivial, live_true (by omega)]; rfl
  | succ d ih =>
    intro i k hi hk
    obtain ⟨k, rfl⟩ : ∃ m, k = m + 1 := ⟨k - 1, by omega⟩
    simp only [hopperlaw10_TurnNext.l0]
    have hf : l.getD i false = false := by
      cases h : l.getD i false with
      | false => rfl
      | true =>
        have : i ∈ S l := T_mem.2 ⟨by omega, h⟩
        rw [hS] at this; cases this
    rw [if_pos (by omega), if_pos (by omega), rdOf_nat, hf, if_neg (by simp), w64 (by omega) (by omega)]
    have := ih (i + 1) k (by omega) (by omega)
    rw [Int.natCast_add] at this; exact this

/-- Who is next is the first who may, from a place on, round. -/
theorem first {l : List Bool} (h : S l ≠ []) (last : Int) : ∃ j : Nat, j < l.length ∧ nextB l last = ((fromB l last + j) % l.length : Nat) ∧ l.getD ((fromB l last + j) % l.length) false = true ∧ ∀ i, i < j → l.getD ((fromB l last + i) % l.length) false = false := by
  have hrot : rot l (fromB l last) l.length ≠ [] := by
    intro e
    have := nextB_none e
    rw [nextB_eq h] at this; omega
  have key : ∀ n : Nat, rot l (fromB l last) n ≠ [] → ∃ j : Nat, j < n ∧ (rot l (fromB l last) n).headD (-1) = ((fromB l last + j) % l.length : Nat) ∧ l.getD ((fromB l last + j) % l.length) false = true ∧ ∀ i, i < j → l.getD ((fromB l last + i) % l.length) false = false := by
    intro n
    induction n with
    | zero => intro e; exact absurd rfl e
    | succ n ih =>
      intro e
      have hc : ((fromB l last : Int) + (n : Int)) % (l.length : Int) = ((fromB l last + n) % l.length : Nat) := by rw [Int.natCast_emod, Int.natCast_add]
      by_cases h0 : rot l (fromB l last) n = []
      · cases hb : l.getD ((fromB l last + n) % l.length) false with
        | false =>
          rw [rot_no (by rw [hc, rdOf_nat]; exact hb)] at e
          exact absurd h0 e
        | true =>
          refine ⟨n, by omega, ?_, hb, fun i hi => ?_⟩
          · rw [rot_yes (by rw [hc, rdOf_nat]; exact hb), h0, hc]; rfl
          · cases hq : l.getD ((fromB l last + i) % l.length) false with
            | false => rfl
            | true =>
              have hci : ((fromB l last : Int) + (i : Int)) % (l.length : Int) = ((fromB l last + i) % l.length : Nat) := by rw [Int.natCast_emod, Int.natCast_add]
              have hy := rot_yes (l := l) (fr := fromB l last) (k := i) (by rw [hci, rdOf_nat]; exact hq)
              have := rot_prefix l (fromB l last) (show i + 1 ≤ n by omega)
              rw [h0, hy] at this
              have := List.prefix_nil.1 this
              simp at this
      · obtain ⟨j, h1, h2, h3, h4⟩ := ih h0
        refine ⟨j, by omega, ?_, h3, h4⟩
        obtain ⟨t, ht⟩ := rot_prefix l (fromB l last) (Nat.le_succ n)
        rw [← h2, ← ht]
        cases hr : rot l (fromB l last) n with
        | nil => exact absurd hr h0
        | cons x r => simp
  obtain ⟨j, h1, h2, h3⟩ := key l.length hrot
  exact ⟨j, h1, h2, h3⟩

theorem around {l : List Bool} (hl : l.length ≤ 200) (fr j : Nat) (hj : j < l.length) (ht : l.getD ((fr + j) % l.length) false = true) (hf : ∀ i, i < j → l.getD ((fr + i) % l.length) false = false) (d : Nat) : ∀ (i k : Nat), i + d = j → 2 * d + 30 < k →
    hopperlaw10_TurnNext.l1 k l (((fr + j) % l.length : Nat) : Int) (((fr + i) % l.length : Nat) : Int) i = some true := by
  have hpos : 0 < l.length := by omega
  induction d with
  | zero =>
    intro i k hi hk
    obtain rfl : i = j := by omega
    obtain ⟨k, rfl⟩ : ∃ m, k = m + 1 + 1 := ⟨k - 2, by omega⟩
    have hlt := Nat.mod_lt (fr + i) hpos
    simp only [hopperlaw10_TurnNext.l1, hopperlaw10_TurnNext.j4]
    rw [if_pos (by omega), if_neg (by simp), if_pos (by omega), if_pos trivial, if_pos (by omega), rdOf_nat, if_pos ht, live_true (by omega)]; rfl
  | succ d ih =>
    intro i k hi hk
    obtain ⟨k, rfl⟩ : ∃ m, k = m + 1 + 1 := ⟨k - 2, by omega⟩
    have hlt := Nat.mod_lt (fr + i) hpos
    have hfi := hf i (by omega)
    have hne : (fr + i) % l.length ≠ (fr + j) % l.length := by
      intro e; rw [e, ht] at hfi; cases hfi
    simp only [hopperlaw10_TurnNext.l1, hopperlaw10_TurnNext.j4]
    rw [if_pos (by omega), if_pos (by rw [bne_iff_ne]; omega), if_pos (by omega), if_pos (by omega), rdOf_nat, hfi, if_neg (by simp), if_neg (by omega), w64 (n := (((fr + i) % l.length : Nat) : Int) + 1) (by omega) (by omega), w64 (n := (i : Int) + 1) (by omega) (by omega)]
    have := ih (i + 1) k (by omega) (by omega)
    rw [show Int.tmod ((((fr + i) % l.length : Nat) : Int) + 1) (l.length : Int) = (((fr + (i + 1)) % l.length : Nat) : Int) by
      rw [Int.tmod_eq_emod_of_nonneg (by omega), show (((fr + i) % l.length : Nat) : Int) + 1 = (((fr + i) % l.length + 1 : Nat) : Int) by omega, ← Int.natCast_emod, Nat.mod_add_mod]; rfl]
    rw [Int.natCast_add i 1] at this
    exact this

theorem pure_ (l : List Bool) (last : Int) : ∃ k, hopperlaw10_TurnNext.f k l last = some true := by
  obtain ⟨K, hK⟩ : ∃ K : Nat, 5000 ≤ K := ⟨5000, Nat.le_refl _⟩
  refine ⟨K + 1 + 1, ?_⟩
  unfold hopperlaw10_TurnNext.f
  by_cases hl : (l.length : Int) > 200
  · rw [if_pos hl, live_true (by omega)]; rfl
  · have hl' : l.length ≤ 200 := by omega
    rw [if_neg hl]
    unfold turn_Next.f
    rw [if_pos (by omega)]
    simp only [Option.bind_some]
    by_cases hS : S l = []
    · rw [nextB_nobody hS, if_pos (by omega)]
      exact nobody hl' hS l.length 0 _ (by omega) (by omega)
    · obtain ⟨j, h1, h2, h3, h4⟩ := first hS last
      rw [h2, if_neg (by omega)]
      have key := around hl' (fromB l last) j h1 h3 h4 j 0 K (by omega) (by omega)
      rw [Nat.add_zero] at key
      simp only [hopperlaw10_TurnNext.j1, hopperlaw10_TurnNext.j2]
      by_cases h0 : last ≥ 0
      · rw [if_pos h0]
        by_cases hlt : last < l.length
        · rw [if_pos (by simpa using hlt), if_neg (by omega), w64 (by omega) (by omega)]
          rw [show Int.tmod (last + 1) (l.length : Int) = ((fromB l last % l.length : Nat) : Int) by
            rw [Int.tmod_eq_emod_of_nonneg (by omega), Int.natCast_emod]; congr 1; unfold fromB; rw [if_pos ⟨h0, hlt⟩]; omega]
          exact key
        · rw [if_neg (by simpa using hlt)]
          rw [show ((fromB l last % l.length : Nat) : Int) = 0 by unfold fromB; rw [if_neg (by omega)]; simp] at key
          exact key
      · rw [if_neg h0, if_neg (by simp)]
        rw [show ((fromB l last % l.length : Nat) : Int) = 0 by unfold fromB; rw [if_neg (by omega)]; simp] at key
        exact key
end Go.Proofs.Ytnjjgaahkbemmaa.PTurnNext
