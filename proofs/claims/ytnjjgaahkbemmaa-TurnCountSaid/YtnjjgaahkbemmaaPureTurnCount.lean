/- The law TurnCount as a statement over lists and numbers: one more who may go on is one more; picks of as many numbers as there are who may tell each of them once, in order; of at most 200. -/
import Derived.Test.YtnjjgaahkbemmaaPTurnCountx1
import Derived.Test.YtnjjgaahkbemmaaPlain
namespace Go.Proofs.Ytnjjgaahkbemmaa.PTurnCount
open Go.RowKit Go.Proofs.YtnjjgaahkbemmaaW.PrintWords Go.Proofs.YtnjjgaahkbemmaaW.PrintMore Hand

theorem live_true {k : Nat} (hk : 10 ≤ k) : hopperlaw10_live.f k = some true := by
  have h : hopperlaw10_live.f 10 = some true := by decide +kernel
  obtain ⟨d, rfl⟩ := Nat.exists_eq_add_of_le hk
  induction d with
  | zero => exact h
  | succ d ih => exact hopperlaw10_live.mono _ _ (ih (by omega))

theorem T_set {l : List Bool} {i : Nat} (hi : i < l.length) (hf : l.getD i false = false) : (S (l.set i true)).length = (S l).length + 1 := by
  have hg : ∀ j, j ≠ i → (l.set i true).getD j false = l.getD j false := fun j hj => by
    rw [List.getD_eq_getElem?_getD, List.getElem?_set_ne (Ne.symm hj), ← List.getD_eq_getElem?_getD]
  have hi' : (l.set i true).getD i false = true := by simp [List.getD_eq_getElem?_getD, hi]
  have same : ∀ a d, (a + d ≤ i ∨ i < a) → T (l.set i true) a d = T l a d := fun a d h => by
    unfold T
    exact List.filter_congr (fun j hj => by have := List.mem_range'_1.1 hj; rw [hg j (by omega)])
  have split : ∀ m : List Bool, m.length = l.length → S m = T m 0 i ++ T m i 1 ++ T m (i + 1) (l.length - (i + 1)) := fun m hm => by
    unfold S; rw [hm, show T m 0 l.length = T m 0 (i + 1 + (l.length - (i + 1))) by rw [show i + 1 + (l.length - (i + 1)) = l.length by omega], T_append, T_append, Nat.zero_add, Nat.zero_add]
  rw [split _ (by simp), split l rfl, same 0 i (.inl (by omega)), same (i + 1) _ (.inr (by omega)), T_yes 0 hi', T_no 0 hf, T_zero, T_zero]
  simp; omega

theorem picks {l : List Bool} (hl : l.length ≤ 200) (i : Int) (R : ∀ k, 20 ≤ k → (if i < 0 then (hopperlaw10_TurnCount.j1 k l i (cntB l) true) else (if i ≥ (l.length : Int) then (hopperlaw10_TurnCount.j1 k l i (cntB l) true) else (if 0 ≤ i then (if i < (l.length : Int) then (hopperlaw10_TurnCount.j1 k l i (cntB l) (rdOf false l i)) else (none)) else (none)))) = some true)
    (d : Nat) : ∀ (j : Nat) (last : Int) (k : Nat), j + d = (S l).length → d + 30 < k → (∀ a : Nat, (S l)[j]? = some a → last < a) → hopperlaw10_TurnCount.l0 k l i (cntB l) last j = some true := by
  have hle : (S l).length ≤ 200 := Nat.le_trans (T_len _ _ _) hl
  have hc := cntB_S l
  induction d with
  | zero =>
    intro j last k hj hk ha
    obtain ⟨k, rfl⟩ : ∃ m, k = m + 1 := ⟨k - 1, by omega⟩
    simp only [hopperlaw10_TurnCount.l0]
    rw [if_neg (by omega)]
    exact R k (by omega)
  | succ d ih =>
    intro j last k hj hk ha
    obtain ⟨k, rfl⟩ : ∃ m, k = m + 1 := ⟨k - 1, by omega⟩
    have hlt : j < (S l).length := by omega
    have hS : S l ≠ [] := by intro e; rw [e] at hlt; simp at hlt
    have hg := getD_lt hlt
    have hx := S_at hg
    have hp : pickB l j = ((S l).getD j 0 : Nat) := by rw [pickB_eq hS (by omega), Int.toNat_natCast, Nat.mod_eq_of_lt hlt]
    have h1 := ha _ hg
    simp only [hopperlaw10_TurnCount.l0]
    unfold turn_Pick.f
    rw [if_pos (by omega), if_pos (by omega)]
    simp only [Option.bind_some, hp]
    rw [if_neg (by omega), if_neg (by omega), w64 (by omega) (by omega)]
    have := ih (j + 1) ((S l).getD j 0 : Nat) k (by omega) (by omega) (fun a ha' => by
      obtain ⟨q1, q2⟩ := List.getElem?_eq_some_iff.1 hg
      obtain ⟨q3, q4⟩ := List.getElem?_eq_some_iff.1 ha'
      have := List.pairwise_iff_getElem.1 (T_sorted l 0 l.length) j (j + 1) q1 q3 (by omega)
      rw [q2, q4] at this; omega)
    rw [Int.natCast_add] at this; exact this

theorem more {l : List Bool} (hl : l.length ≤ 200) {j : Nat} (hj : j < l.length) (hb : l.getD j false = false) {k : Nat} (hk : 20 ≤ k) : hopperlaw10_TurnCount.j1 k l (j : Int) (cntB l) false = some true := by
  obtain ⟨k, rfl⟩ : ∃ m, k = m + 1 := ⟨k - 1, by omega⟩
  have hs := T_set hj hb
  have hc := cntB_S l
  have hc2 := cntB_S (l.set j true)
  have hle : (S l).length ≤ l.length := T_len _ _ _
  have hz : (l.set j true).length = l.length := List.length_set
  have e1 : turn_Count.f (l.set j true) = some (cntB (l.set j true)) := by unfold turn_Count.f; rw [if_pos (by omega)]
  have e2 : wrap64 (cntB l + 1) = cntB (l.set j true) := by rw [w64 (by omega) (by omega)]; omega
  simp only [hopperlaw10_TurnCount.j1]
  rw [if_neg (by decide)]
  simp only [Option.bind_some, List.nil_append]
  rw [if_pos (by simp; omega), if_pos (by omega), if_pos (by omega), Int.toNat_natCast, e1]
  rw [Option.bind_some, e2, if_pos rfl, live_true (by omega)]; rfl

theorem pure_ (l : List Bool) (i : Int) : ∃ k, hopperlaw10_TurnCount.f k l i = some true := by
  obtain ⟨K, hK⟩ : ∃ K : Nat, 5000 ≤ K := ⟨5000, Nat.le_refl _⟩
  refine ⟨K, ?_⟩
  unfold hopperlaw10_TurnCount.f
  by_cases hl : (l.length : Int) > 200
  · rw [if_pos hl, live_true (by omega)]; rfl
  · have hl' : l.length ≤ 200 := by omega
    have hc := cntB_S l
    have hle : (S l).length ≤ l.length := T_len _ _ _
    have done : ∀ k, 20 ≤ k → hopperlaw10_TurnCount.j1 k l i (cntB l) true = some true := fun k hk => by
      obtain ⟨k, rfl⟩ : ∃ m, k = m + 1 := ⟨k - 1, by omega⟩
      simp only [hopperlaw10_TurnCount.j1]
      rw [if_pos trivial, if_pos (by omega), if_pos (by omega), live_true (by omega)]; rfl
    rw [if_neg hl]
    unfold turn_Count.f
    rw [if_pos (by omega)]
    simp only [Option.bind_some]
    refine picks hl' i (fun k hk => ?_) (S l).length 0 (-1) K (by omega) (by omega) (fun a _ => by omega)
    by_cases h0 : i < 0
    · rw [if_pos h0]; exact done k hk
    · rw [if_neg h0]
      by_cases h1 : i ≥ (l.length : Int)
      · rw [if_pos h1]; exact done k hk
      · rw [if_neg h1, if_pos (by omega), if_pos (by omega)]
        obtain ⟨j, rfl⟩ := Int.eq_ofNat_of_zero_le (show 0 ≤ i by omega)
        rw [rdOf_nat]
        cases hb : l.getD j false with
        | true => exact done k hk
        | false =>
          exact more hl' (by omega) hb hk
end Go.Proofs.Ytnjjgaahkbemmaa.PTurnCount
