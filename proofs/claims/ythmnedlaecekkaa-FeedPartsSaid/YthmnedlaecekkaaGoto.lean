/- A label and a goto back to it, as a loop: what holds at every jump is "so many passes at most are still to come". -/
import Derived.ScopeJumps
import Derived.WalkMore
import Derived.Deep.LoopGhost
namespace Go.Proofs.YthmnedlaecekkaaW.PrintMore
section
variable {P : Program} {Q : Exit → Act → World → Prop} {a : Act} {w : World}
theorem jump_ret {l : Nat} {J : Act → World → Prop} : Exit.jump l J Q .ret a w = Q .ret a w := rfl
theorem of_ret {l : Nat} {J : Act → World → Prop} (h : Q .ret a w) : Exit.jump l J Q .ret a w := h
theorem jump_normal {l : Nat} {J : Act → World → Prop} : Exit.jump l J Q .normal a w = Q .normal a w := rfl
theorem jump_mono {l : Nat} {J J' : Act → World → Prop} (h : ∀ a w, J a w → J' a w) : ∀ e a w, Exit.jump l J Q e a w → Exit.jump l J' Q e a w := by
  intro e a w q
  cases e with
  | goto l' => exact ⟨q.1, h _ _ q.2⟩
  | _ => exact q
/-- From here the passes end, n of them at most. -/
def Back (P : Program) (l : Nat) (rest : Code) (Q : Exit → Act → World → Prop) : Nat → Act → World → Prop
  | 0, _, _ => False
  | n + 1, a, w => rest.wp P (Exit.jump l (Back P l rest Q n) Q) a w
theorem Back.up {l : Nat} {rest : Code} : ∀ (n : Nat) (a : Act) (w : World), Back P l rest Q n a w → Back P l rest Q (n + 1) a w
  | 0, _, _, h => h.elim
  | n + 1, _, _, h => wp_mono h (jump_mono (Back.up n))
theorem Back.le {l : Nat} {rest : Code} {n m : Nat} (hle : n ≤ m) (h : Back P l rest Q n a w) : Back P l rest Q m a w := by
  induction hle with
  | refl => exact h
  | step _ ih => exact Back.up _ _ _ ih
theorem wp_scope_goto {c rest : Code} (l : Nat) (hf : findLabel c l = some rest) (first : c.wp P (Exit.jump l (fun a w => ∃ n, Back P l rest Q n a w) Q) a w) : (Code.scope c).wp P Q a w := by
  refine wp_scope_jumps l (fun a w => ∃ n, Back P l rest Q n a w) (fun a w => leastOf (fun n => Back P l rest Q n a w)) hf first ?_
  intro a w hJ
  obtain ⟨h1, h2⟩ := leastOf_spec hJ
  revert h1
  generalize leastOf (fun n => Back P l rest Q n a w) = n
  intro h1
  cases n with
  | zero => exact h1.elim
  | succ n => exact wp_mono h1 (jump_mono (fun a' w' h => ⟨⟨n, h⟩, Nat.lt_succ_of_le ((leastOf_spec ⟨n, h⟩).2 n h)⟩))
/-- At the label: an invariant that bears a number, which every pass lowers. -/
theorem wp_label_ghost_k {l : Nat} {rest : Code} (I : Nat → Act → World → Prop) (n₀ : Nat) (h₀ : I n₀ a w)
    (round : ∀ n a w, I n a w → ∀ (J : Nat → Act → World → Prop) (K : Act → World → Prop), (∀ k a' w', I k a' w' → J k a' w') → (∀ a' w', Handed J n a' w' → K a' w') → rest.wp P (Exit.jump l K Q) a w) :
    rest.wp P (Exit.jump l (fun a w => ∃ n, Back P l (Code.seq .skip rest) Q n a w) Q) a w := by
  have key : ∀ n a w, I n a w → rest.wp P (Exit.jump l (Back P l (Code.seq .skip rest) Q n) Q) a w := by
    intro n
    induction n using Nat.strongRecOn with
    | _ n ih =>
      intro a w h
      refine wp_mono (round n a w h I _ (fun _ _ _ q => q) fun _ _ q => q) (jump_mono (fun a' w' hh => ?_))
      obtain ⟨n', hlt, h'⟩ := hh
      exact Back.le (n := n' + 1) hlt (show (Code.seq .skip rest).wp P (Exit.jump l (Back P l (Code.seq .skip rest) Q n') Q) a' w' from wp_seq (wp_skip (ih n' hlt a' w' h')))
  exact wp_mono (key n₀ a w h₀) (jump_mono (fun _ _ h => ⟨n₀, h⟩))
end
end Go.Proofs.YthmnedlaecekkaaW.PrintMore
