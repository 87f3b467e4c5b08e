/- The law LockOwn as a statement over lists and numbers: who takes a free lock holds it; given back all is as it was; of at most 60 locks. -/
import Derived.Test.YtjbhjjdahakjmaaPLockOwnx1
import Derived.Test.YtjbhjjdahakjmaaPLockOwnx2
import Derived.Test.YtjbhjjdahakjmaaPLockOwnx3
import Derived.Test.YtjbhjjdahakjmaaPlain
namespace Go.Proofs.Ytjbhjjdahakjmaa.PLockOwn
open Go.RowKit Go.Proofs.YtjbhjjdahakjmaaW.PrintWords Go.Proofs.YtjbhjjdahakjmaaW.PrintMore Hand
set_option linter.unusedVariables false

theorem live_true {k : Nat} (hk : 10 ≤ k) : hopperlaw09_live.f k = some true := by
  have h : hopperlaw09_live.f 10 = some true := by decide +kernel
  obtain ⟨d, rfl⟩ := Nat.exists_eq_add_of_le hk
  induction d with
  | zero => exact h
  | succ d ih => exact hopperlaw09_live.mono _ _ (ih (by omega))
theorem isF (l : List Int) (i : Int) : lock_Table_is.f l i = some (decide (0 ≤ i ∧ i < l.length)) := by
  unfold lock_Table_is.f
  by_cases h0 : 0 ≤ i
  · rw [if_pos (by omega)]; simp [h0]
  · rw [if_neg (by omega)]; simp [h0]
theorem freeF (l : List Int) (i : Int) : lock_Table_Free.f l i = some (decide (0 ≤ i ∧ i < l.length) && (rd l i == 0)) := by
  unfold lock_Table_Free.f
  rw [isF, Option.bind_some]
  by_cases h : 0 ≤ i ∧ i < l.length
  · rw [if_pos (by simpa using h), if_pos h.1, if_pos h.2]; simp [h]
  · rw [if_neg (by simpa using h)]; simp [h]
theorem setF {l : List Int} (hl : l.length ≤ 1000) {i : Int} (h0 : 0 ≤ i) (h1 : i < l.length) (v : Int) : lock_Table_set.f l i v = some (l.set i.toNat v) := by
  unfold lock_Table_set.f lock_Table_int.f
  rw [Option.bind_some, List.nil_append, if_pos (by rw [List.length_nil]; omega), Option.bind_some, if_pos h0, if_pos h1]
/-- What Take tells. -/
def takeL (l : List Int) (i who : Int) : List Int × Int := if 0 ≤ i ∧ i < l.length ∧ 1 ≤ who then (if rd l i = 0 then (l.set i.toNat who, 0) else (l, 6)) else (l, 1)
theorem takeF {l : List Int} (hl : l.length ≤ 1000) (i who : Int) {k : Nat} (hk : 1 ≤ k) : lock_Table_Take.f k l i who = some (takeL l i who) := by
  obtain ⟨k, rfl⟩ : ∃ m, k = m + 1 := ⟨k - 1, by omega⟩
  unfold lock_Table_Take.f takeL
  rw [isF, Option.bind_some]
  simp only [lock_Table_Take.j0]
  by_cases h : 0 ≤ i ∧ i < l.length
  · rw [if_pos (by simpa using h)]
    by_cases hw : who < 1
    · rw [if_pos (by simpa using hw), if_neg (by omega)]
    · rw [if_neg (by simpa using hw), if_pos (by omega), freeF, Option.bind_some]
      by_cases hr : rd l i = 0
      · rw [if_pos (by simp [h, hr]), setF hl h.1 h.2, Option.bind_some, if_pos hr]
      · rw [if_neg (by simp [hr]), if_neg hr]
  · rw [if_neg (by simpa using h), if_pos trivial, if_neg (by omega)]
/-- What Give tells. -/
def giveL (l : List Int) (i who : Int) : List Int × Int := if 0 ≤ i ∧ i < l.length ∧ 1 ≤ who then (if rd l i = who then (l.set i.toNat 0, 0) else (l, 7)) else (l, 1)
theorem giveF {l : List Int} (hl : l.length ≤ 1000) (i who : Int) {k : Nat} (hk : 1 ≤ k) : lock_Table_Give.f k l i who = some (giveL l i who) := by
  obtain ⟨k, rfl⟩ : ∃ m, k = m + 1 := ⟨k - 1, by omega⟩
  unfold lock_Table_Give.f giveL
  rw [isF, Option.bind_some]
  simp only [lock_Table_Give.j0]
  by_cases h : 0 ≤ i ∧ i < l.length
  · rw [if_pos (by simpa using h)]
    by_cases hw : who < 1
    · rw [if_pos (by simpa using hw), if_neg (by omega)]
    · rw [if_neg (by simpa using hw), if_pos h.1, if_pos h.2, if_pos (show 0 ≤ i ∧ i < (l.length : Int) ∧ 1 ≤ who from ⟨h.1, h.2, by omega⟩)]
      by_cases hr : rd l i = who
      · simp only [if_pos hr, setF hl h.1 h.2, Option.bind_some]
      · simp only [if_neg hr]
  · rw [if_neg (by simpa using h), if_pos trivial, if_neg (by omega)]
theorem holdsF {l : List Int} {i : Nat} (hi : i < l.length) (who : Int) : lock_Table_holds.f l (i : Int) who = some (his l who i) := by
  unfold lock_Table_holds.f his
  by_cases h : 1 ≤ who
  · rw [if_pos (by omega), if_pos (by omega), if_pos (by omega), rd_nat]; simp [h]
  · rw [if_neg (by omega)]; simp [h]
theorem heldW {l : List Int} (hl : l.length ≤ 1000) (who : Int) (d : Nat) : ∀ (i : Nat) (acc : List Int) (k : Nat), i + d = l.length → d < k → acc.length ≤ i → lock_Table_Held.l0 k l who acc (l.length : Int) i = some (acc ++ (H l who i d).map (fun j : Nat => (j : Int))) := by
  induction d with
  | zero =>
    intro i acc k hi hk ha
    obtain ⟨k, rfl⟩ : ∃ m, k = m + 1 := ⟨k - 1, by omega⟩
    simp only [lock_Table_Held.l0]
    rw [if_neg (by omega), H_zero]; simp
  | succ d ih =>
    intro i acc k hi hk ha
    obtain ⟨k, rfl⟩ : ∃ m, k = m + 1 := ⟨k - 1, by omega⟩
    simp only [lock_Table_Held.l0]
    rw [if_pos (by omega), holdsF (by omega), Option.bind_some, w64 (n := (i : Int) + 1) (by omega) (by omega)]
    cases h : his l who i with
    | true =>
      rw [if_pos rfl, if_pos (by omega), H_yes d h]
      have := ih (i + 1) (acc ++ [(i : Int)]) k (by omega) (by omega) (by simp; omega)
      rw [Int.natCast_add, show ((1 : Nat) : Int) = 1 from rfl] at this
      rw [this]; simp
    | false =>
      rw [if_neg (by decide), H_no d h]
      have := ih (i + 1) acc k (by omega) (by omega) (by omega)
      rw [Int.natCast_add, show ((1 : Nat) : Int) = 1 from rfl] at this
      exact this
theorem heldF {l : List Int} (hl : l.length ≤ 1000) (who : Int) {k : Nat} (hk : 1001 < k) : lock_Table_Held.f k l who = some (heldL l who) := by
  unfold lock_Table_Held.f heldL
  have := heldW hl who l.length 0 [] k (by omega) (by omega) (by simp)
  rw [List.nil_append] at this
  exact this
theorem firstW {l : List Int} (hl : l.length ≤ 1000) (who : Int) (d : Nat) : ∀ (i : Nat) (k : Nat), i + d = l.length → d < k → lock_Table_First.l0 k l who (l.length : Int) i = some ((fst l who i d : Nat) : Int) := by
  induction d with
  | zero =>
    intro i k hi hk
    obtain ⟨k, rfl⟩ : ∃ m, k = m + 1 := ⟨k - 1, by omega⟩
    simp only [lock_Table_First.l0]
    rw [if_neg (by omega)]; rfl
  | succ d ih =>
    intro i k hi hk
    obtain ⟨k, rfl⟩ : ∃ m, k = m + 1 := ⟨k - 1, by omega⟩
    simp only [lock_Table_First.l0]
    rw [if_pos (by omega), holdsF (by omega), Option.bind_some, w64 (n := (i : Int) + 1) (by omega) (by omega)]
    unfold fst
    cases h : his l who i with
    | true =>
      rw [if_pos rfl, if_pos rfl]
      have := ih (i + 1) k (by omega) (by omega)
      rw [Int.natCast_add, show ((1 : Nat) : Int) = 1 from rfl] at this
      exact this
    | false => rw [if_neg (by decide), if_neg (by decide)]
theorem firstF {l : List Int} (hl : l.length ≤ 1000) (who : Int) {k : Nat} (hk : 1001 < k) : lock_Table_First.f k l who = some (firstL l who : Int) := by
  unfold lock_Table_First.f firstL
  exact firstW hl who l.length 0 k (by omega) (by omega)
theorem sameW (l : List Int) (hl : l.length ≤ 1000) (d : Nat) : ∀ (i k : Nat), i + d = l.length → d < k → hopperref09_Same.l0 k l l i = some true := by
  induction d with
  | zero =>
    intro i k hi hk
    obtain ⟨k, rfl⟩ : ∃ m, k = m + 1 := ⟨k - 1, by omega⟩
    simp only [hopperref09_Same.l0]
    rw [if_neg (by omega)]
  | succ d ih =>
    intro i k hi hk
    obtain ⟨k, rfl⟩ : ∃ m, k = m + 1 := ⟨k - 1, by omega⟩
    simp only [hopperref09_Same.l0]
    rw [if_pos (by omega), if_pos (by omega), if_pos (by omega), if_pos trivial, w64 (by omega) (by omega)]
    have := ih (i + 1) k (by omega) (by omega)
    rw [Int.natCast_add] at this; exact this
theorem sameF {l : List Int} (hl : l.length ≤ 1000) {k : Nat} (hk : 1001 < k) : hopperref09_Same.f k l l = some true := by
  unfold hopperref09_Same.f
  rw [if_pos rfl]
  exact sameW l hl _ 0 k (Nat.zero_add _) (by omega)
theorem newF (n : Int) : lock_New.f n = some (if 1 ≤ n ∧ n ≤ 8 then (List.replicate n.toNat 0, 0) else ([], 1)) := by
  unfold lock_New.f
  by_cases h1 : n < 1
  · rw [if_pos h1, if_neg (by omega)]
  · rw [if_neg h1]
    by_cases h2 : n > 8
    · rw [if_pos h2, if_neg (by omega)]
    · rw [if_neg h2, if_pos (by omega), if_pos (by omega), if_pos (by omega)]
theorem takeL_len (l : List Int) (i who : Int) : (takeL l i who).1.length = l.length := by unfold takeL; split <;> (try split) <;> simp

/-- The loop finds his lock among those that he holds. -/
theorem mineW {l x y z : List Int} {i who e : Int} (held : List Int) (hh : held.length ≤ 1000) (R : ∀ k, 3000 ≤ k → ∀ n, held.length ≤ n → hopperlaw09_LockOwn.l0 (k + 1) l i who x y held z e true (n : Nat) = some true) (d : Nat) : ∀ (n : Nat) (m : Bool) (k : Nat), n + d = held.length → d + 3000 < k → (m = true ∨ i ∈ held.drop n) → hopperlaw09_LockOwn.l0 k l i who x y held z e m n = some true := by
  induction d with
  | zero =>
    intro n m k hn hk hm
    obtain ⟨k, rfl⟩ : ∃ m, k = m + 1 := ⟨k - 1, by omega⟩
    have : m = true := by
      rcases hm with h | h
      · exact h
      · rw [List.drop_eq_nil_of_le (by omega)] at h; cases h
    subst this
    exact R k (by omega) n (by omega)
  | succ d ih =>
    intro n m k hn hk hm
    obtain ⟨k, rfl⟩ : ∃ m, k = m + 1 := ⟨k - 1, by omega⟩
    simp only [hopperlaw09_LockOwn.l0]
    have hlt : n < held.length := by omega
    rw [if_pos (by omega), w64 (n := (n : Int) + 1) (by omega) (by omega)]
    have key : ∀ m', (m' = true ∨ i ∈ held.drop (n + 1)) → hopperlaw09_LockOwn.l0 k l i who x y held z e m' ((n : Int) + 1) = some true := fun m' hm' => by
      have := ih (n + 1) m' k (by omega) (by omega) hm'
      rw [Int.natCast_add] at this; exact this
    cases m with
    | true => rw [if_pos rfl]; exact key true (.inl rfl)
    | false =>
      rw [if_neg (by decide), if_pos (by omega)]
      refine key _ ?_
      rcases hm with h | h
      · cases h
      · rw [List.drop_eq_getElem_cons hlt] at h
        rcases List.mem_cons.1 h with h | h
        · exact .inl (by rw [rd_nat]; simp [List.getD_eq_getElem?_getD, hlt, h])
        · exact .inr h

theorem pure_ (l : List Int) (i who : Int) : ∃ k, hopperlaw09_LockOwn.f k l i who = some true := by
  obtain ⟨K, hK⟩ : ∃ K : Nat, 9000 ≤ K := ⟨9000, Nat.le_refl _⟩
  refine ⟨K + 1, ?_⟩
  unfold hopperlaw09_LockOwn.f
  by_cases hl : (l.length : Int) > 60
  · rw [if_pos hl, live_true (by omega)]; rfl
  · have hl' : l.length ≤ 1000 := by omega
    rw [if_neg hl, takeF hl' i who (by omega), freeF, Option.bind_some, Option.bind_some]
    by_cases h : 0 ≤ i ∧ i < l.length ∧ 1 ≤ who
    · by_cases hr : rd l i = 0
      · -- taken
        obtain ⟨j, rfl⟩ := Int.eq_ofNat_of_zero_le h.1
        have hj : j < l.length := by omega
        rw [rd_nat] at hr
        have hT : takeL l (j : Int) who = (l.set j who, 0) := by unfold takeL; rw [if_pos h, rd_nat, if_pos hr, Int.toNat_natCast]
        have hG : giveL (l.set j who) (j : Int) who = (l, 0) := by
          unfold giveL
          rw [if_pos (by rw [List.length_set]; exact h), rd_nat, if_pos (by simp [List.getD_eq_getElem?_getD, hj]), Int.toNat_natCast, set_back hj hr]
        obtain ⟨s1, s2⟩ := H_set h.2.2 hj hr
        rw [hT, if_pos (by rw [rd_nat, hr]; simp [hj])]
        simp only [hopperlaw09_LockOwn.j0]
        have hd : decide (who ≥ 1) = true := by simp; omega
        rw [hd, if_neg (by decide), if_pos trivial, heldF (by simp; omega) who (by omega), Option.bind_some, giveF (by simp; omega) _ _ (by omega), Option.bind_some, hG]
        have e1 : (heldL (l.set j who) who).length = (heldL l who).length + 1 := by unfold heldL; rw [List.length_map, List.length_map, List.length_set]; exact s1
        have e2 : (heldL l who).length ≤ 60 := by unfold heldL; rw [List.length_map]; exact Nat.le_trans (H_len _ _ _ _) (by omega)
        refine mineW (heldL (l.set j who) who) (by omega) (fun k hk n hn => ?_) _ 0 false K (Nat.zero_add _) (by omega) (.inr ?_)
        · simp only [hopperlaw09_LockOwn.l0]
          rw [if_neg (by omega), if_pos trivial, heldF hl' who (by omega), Option.bind_some, if_pos (by rw [w64 (by omega) (by omega), e1]; simp), freeF, Option.bind_some]
          rw [if_neg (by rw [rd_nat]; simp [List.getD_eq_getElem?_getD, hj]; omega), if_pos trivial, sameF hl' (by omega), Option.bind_some, if_pos rfl, live_true (by omega)]; rfl
        · rw [List.drop_zero]
          unfold heldL
          rw [List.length_set]
          exact List.mem_map.2 ⟨j, s2, rfl⟩
      · -- held by somebody
        have hT : takeL l i who = (l, 6) := by unfold takeL; rw [if_pos h, if_neg hr]
        rw [hT, if_neg (by simp [hr])]
        simp only [hopperlaw09_LockOwn.j0]
        rw [if_neg (by decide), if_neg (by decide), sameF hl' (by omega), Option.bind_some, if_pos rfl, live_true (by omega)]; rfl
    · have hT : takeL l i who = (l, 1) := by unfold takeL; rw [if_neg h]
      rw [hT]
      simp only [hopperlaw09_LockOwn.j0]
      by_cases hf : (decide (0 ≤ i ∧ i < (l.length : Int)) && (rd l i == 0)) = true
      · have hw : decide (who ≥ 1) = false := by
          simp at hf; simp; omega
        rw [if_pos hf, hw, if_neg (by decide), if_neg (by decide), sameF hl' (by omega), Option.bind_some, if_pos rfl, live_true (by omega)]; rfl
      · rw [if_neg hf, if_neg (by decide), if_neg (by decide), sameF hl' (by omega), Option.bind_some, if_pos rfl, live_true (by omega)]; rfl
theorem LockOwn : hopperlaw09_LockOwn.Pure := fun l i who _ _ _ _ _ => pure_ l i who
end Go.Proofs.Ytjbhjjdahakjmaa.PLockOwn
namespace Go.Proofs.Ytjbhjjdahakjmaa.Pure
theorem LockOwn : PLockOwn.hopperlaw09_LockOwn.Pure := PLockOwn.LockOwn
end Go.Proofs.Ytjbhjjdahakjmaa.Pure
