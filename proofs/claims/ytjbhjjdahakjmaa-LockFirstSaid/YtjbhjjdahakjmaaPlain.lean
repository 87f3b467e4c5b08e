/- Plain facts on tables of locks: who holds what, in order; the first one that somebody does not hold. -/
import Derived.Test.YtjbhjjdahakjmaaWMore
namespace Go.Proofs.Ytjbhjjdahakjmaa.Hand
open Go.RowKit Go.Proofs.YtjbhjjdahakjmaaW.PrintWords

theorem w64 {n : Int} (h0 : -9223372036854775808 ≤ n) (h1 : n ≤ 9223372036854775807) : wrap64 n = n := by unfold wrap64; omega
theorem rd_nat (l : List Int) (j : Nat) : rd l (j : Int) = l.getD j 0 := by simp [rd]
/-- Is lock j his? -/
def his (l : List Int) (who : Int) (j : Nat) : Bool := decide (1 ≤ who) && (l.getD j 0 == who)
/-- Of d locks from i on, his. -/
def H (l : List Int) (who : Int) (i d : Nat) : List Nat := (List.range' i d).filter (fun j => his l who j)
theorem H_zero (l : List Int) (who : Int) (i : Nat) : H l who i 0 = [] := rfl
theorem H_yes {l : List Int} {who : Int} {i : Nat} (d : Nat) (h : his l who i = true) : H l who i (d + 1) = i :: H l who (i + 1) d := by
  unfold H; rw [List.range'_succ, List.filter_cons_of_pos (by simpa using h)]
theorem H_no {l : List Int} {who : Int} {i : Nat} (d : Nat) (h : his l who i = false) : H l who i (d + 1) = H l who (i + 1) d := by
  unfold H; rw [List.range'_succ, List.filter_cons_of_neg (by rw [h]; simp)]
theorem H_append (l : List Int) (who : Int) (i d e : Nat) : H l who i (d + e) = H l who i d ++ H l who (i + d) e := by
  unfold H; rw [← List.filter_append, List.range'_append_1]
theorem H_len (l : List Int) (who : Int) (i d : Nat) : (H l who i d).length ≤ d := by
  unfold H; exact Nat.le_trans (List.length_filter_le _ _) (by simp)
theorem H_mem {l : List Int} {who : Int} {i d j : Nat} : j ∈ H l who i d ↔ (i ≤ j ∧ j < i + d) ∧ his l who j = true := by
  unfold H; rw [List.mem_filter, List.mem_range'_1]
/-- All his. -/
def heldL (l : List Int) (who : Int) : List Int := (H l who 0 l.length).map (fun j : Nat => (j : Int))
/-- The first of d from i on that is not his; or how many there are. -/
def fst (l : List Int) (who : Int) : Nat → Nat → Nat
  | _, 0 => l.length
  | i, d + 1 => if his l who i = true then fst l who (i + 1) d else i
def firstL (l : List Int) (who : Int) : Nat := fst l who 0 l.length
theorem fst_spec (l : List Int) (who : Int) (d : Nat) : ∀ i, i + d = l.length → (fst l who i d ≤ l.length ∧ i ≤ fst l who i d ∧ (fst l who i d < l.length → his l who (fst l who i d) = false) ∧ ∀ j, i ≤ j → j < fst l who i d → his l who j = true) := by
  induction d with
  | zero => intro i hi; refine ⟨Nat.le_refl _, by unfold fst; omega, fun h => absurd h (Nat.lt_irrefl _), fun j h1 h2 => by unfold fst at h2; omega⟩
  | succ d ih =>
    intro i hi
    unfold fst
    cases h : his l who i with
    | true =>
      rw [if_pos rfl]
      obtain ⟨a, b, c, e⟩ := ih (i + 1) (by omega)
      refine ⟨a, by omega, c, fun j h1 h2 => ?_⟩
      rcases Nat.eq_or_lt_of_le h1 with rfl | h1
      · exact h
      · exact e j h1 h2
    | false =>
      rw [if_neg (by decide)]
      exact ⟨by omega, Nat.le_refl _, fun _ => h, fun j h1 h2 => by omega⟩
theorem H_all {l : List Int} {who : Int} (d : Nat) : ∀ i, (H l who i d).length = d ↔ ∀ j, i ≤ j → j < i + d → his l who j = true := by
  induction d with
  | zero => intro i; exact ⟨fun _ j h1 h2 => by omega, fun _ => rfl⟩
  | succ d ih =>
    intro i
    cases h : his l who i with
    | true =>
      rw [H_yes d h, List.length_cons]
      refine ⟨fun e j h1 h2 => ?_, fun e => ?_⟩
      · rcases Nat.eq_or_lt_of_le h1 with rfl | h1
        · exact h
        · exact (ih (i + 1)).1 (by omega) j h1 (by omega)
      · rw [(ih (i + 1)).2 (fun j h1 h2 => e j (by omega) (by omega))]
    | false =>
      rw [H_no d h]
      have := H_len l who (i + 1) d
      refine ⟨fun e => by omega, fun e => ?_⟩
      rw [e i (Nat.le_refl _) (by omega)] at h; cases h
/-- One more that is his. -/
theorem H_set {l : List Int} {who : Int} {i : Nat} (hw : 1 ≤ who) (hi : i < l.length) (hf : l.getD i 0 = 0) : (H (l.set i who) who 0 l.length).length = (H l who 0 l.length).length + 1 ∧ i ∈ H (l.set i who) who 0 l.length := by
  have hg : ∀ j, j ≠ i → his (l.set i who) who j = his l who j := fun j hj => by
    unfold his
    rw [List.getD_eq_getElem?_getD, List.getElem?_set_ne (Ne.symm hj), ← List.getD_eq_getElem?_getD]
  have h1 : his (l.set i who) who i = true := by unfold his; simp [List.getD_eq_getElem?_getD, hi, hw]
  have h0 : his l who i = false := by unfold his; rw [hf]; simp; omega
  have same : ∀ a d, (a + d ≤ i ∨ i < a) → H (l.set i who) who a d = H l who a d := fun a d h => by
    unfold H
    exact List.filter_congr (fun j hj => by have := List.mem_range'_1.1 hj; rw [hg j (by omega)])
  have split : ∀ m : List Int, H m who 0 l.length = H m who 0 i ++ H m who i 1 ++ H m who (i + 1) (l.length - (i + 1)) := fun m => by
    rw [show H m who 0 l.length = H m who 0 (i + 1 + (l.length - (i + 1))) by rw [show i + 1 + (l.length - (i + 1)) = l.length by omega], H_append, H_append, Nat.zero_add, Nat.zero_add]
  refine ⟨?_, H_mem.2 ⟨by omega, h1⟩⟩
  rw [split, split l, same 0 i (.inl (by omega)), same (i + 1) _ (.inr (by omega)), H_yes 0 h1, H_no 0 h0, H_zero, H_zero]
  simp; omega
theorem set_back {l : List Int} {i : Nat} (hi : i < l.length) (h0 : l.getD i 0 = 0) (v : Int) : (l.set i v).set i 0 = l := by
  rw [List.set_set]
  apply List.ext_getElem?
  intro j
  by_cases e : i = j
  · subst e; rw [List.getElem?_set_self hi, List.getElem?_eq_getElem hi, ← h0]; simp [List.getD_eq_getElem?_getD, hi]
  · rw [List.getElem?_set_ne e]
end Go.Proofs.Ytjbhjjdahakjmaa.Hand
