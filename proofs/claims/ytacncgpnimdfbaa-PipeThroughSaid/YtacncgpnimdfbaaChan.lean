/- Communication in one goroutine, mixed with the kit's walk: 'Nwp' is said of a plain call's frame alone, so a send or a select may stand in the code; where none stands, the kit's own 'Code.wp' serves. -/
import Derived.Test.YtacncgpnimdfbaaShort
import Derived.Conc.LoneCalls
import Derived.Conc.LoneSelect
import Derived.Deep.LoopGhost
import Derived.Tactics
namespace Go.Proofs.YtacncgpnimdfbaaW.PrintMore
open Go.RowKit Go.Conc

/-- What a statement comes to, in a frame of a plain call. -/
def Nwp (P : Program) (c : Code) (Q : Exit → Act → World → Prop) (a : Act) (w : World) : Prop :=
  ∀ (b : Frame) (k : List Item) (cs : List Frame), b.kind ≠ .early → ∃ e a' w', Q e a' w' ∧ Arrives P (lone (b.at a (.code c :: k)) cs w) b k cs e a' w'

section
variable {P : Program} {Q : Exit → Act → World → Prop} {a : Act} {w : World}
theorem nwp_of_wp {c : Code} (h : c.wp P Q a w) : Nwp P c Q a w := fun b k cs _ => h b k cs
theorem nwp_ret (h : Q .ret a w) : Nwp P .ret Q a w := nwp_of_wp (wp_ret h)
theorem nwp_seq {x y : Code} (h : Nwp P x (Exit.then (Nwp P y Q) Q) a w) : Nwp P (Code.seq x y) Q a w := by
  intro b k cs hb
  obtain ⟨e, a₁, w₁, hq, harr⟩ := h b (.code y :: k) cs hb
  cases e with
  | normal =>
    obtain ⟨e₂, a₂, w₂, hq₂, harr₂⟩ := hq b k cs hb
    exact ⟨e₂, a₂, w₂, hq₂, .of_steps (.head step_seq harr) harr₂⟩
  | exit id => exact ⟨_, a₁, w₁, hq, .of_steps (.one step_seq) (.pass (x := .code y) rfl (fun _ _ => .inl (by simp)) harr)⟩
  | goto l => exact ⟨_, a₁, w₁, hq, .of_steps (.one step_seq) (.pass (x := .code y) rfl (fun _ _ => .inl (by simp)) harr)⟩
  | ret => exact ⟨_, a₁, w₁, hq, .of_steps (.one step_seq) (.pass (x := .code y) rfl (fun _ _ => .inl (by simp)) harr)⟩
  | panic ch => exact ⟨_, a₁, w₁, hq, .of_steps (.one step_seq) (.pass (x := .code y) rfl (fun _ _ => .inl (by simp)) harr)⟩
  | outgrown => exact ⟨_, a₁, w₁, hq, .of_steps (.one step_seq) (.pass (x := .code y) rfl (fun _ _ => .inl (by simp)) harr)⟩
/-- As 'nwp_seq'; what follows stands behind a name. -/
theorem nwp_seq_k {x y : Code} (h : ∀ K : Act → World → Prop, (∀ a' w', Nwp P y Q a' w' → K a' w') → Nwp P x (Exit.then K Q) a w) : Nwp P (Code.seq x y) Q a w :=
  nwp_seq (h _ fun _ _ q => q)
theorem nwp_block {id : Nat} {c : Code} (h : Nwp P c (Exit.inBlock id Q) a w) : Nwp P (Code.block id c) Q a w := by
  intro b k cs hb
  obtain ⟨e, a₁, w₁, hq, harr⟩ := h b (.inBlock id :: k) cs hb
  cases e with
  | normal => exact ⟨.normal, a₁, w₁, hq, .head step_block (Steps.trans harr (.one step_inBlock))⟩
  | exit id' =>
    by_cases hid : id' = id
    · simp only [Exit.inBlock, hid, if_true] at hq
      exact ⟨.normal, a₁, w₁, hq, .head step_block (harr k (by simp [exitTo, hid]))⟩
    · simp only [Exit.inBlock, hid, if_false] at hq
      refine ⟨.exit id', a₁, w₁, hq, fun k' hk => .head step_block (harr k' ?_)⟩
      have : (id == id') = false := by simp; exact fun h => hid h.symm
      simp [exitTo, this, hk]
  | goto l => exact ⟨_, a₁, w₁, hq, fun k' hk => .head step_block (harr k' (by simp [gotoIn, hk]))⟩
  | ret => exact ⟨_, a₁, w₁, hq, .of_steps (.one step_block) harr⟩
  | panic ch => exact ⟨_, a₁, w₁, hq, .of_steps (.one step_block) harr⟩
  | outgrown => exact ⟨_, a₁, w₁, hq, .of_steps (b := b) (k := k) (cs := cs) (e := .outgrown) (.one step_block) harr⟩
theorem nwp_cond {t : Operand} {x y : Code} (v : Bool) (hv : a.eval t = .bool v) (h : Nwp P (if v then x else y) Q a w) : Nwp P (Code.cond t x y) Q a w := by
  intro b k cs hb
  obtain ⟨e, a', w', hq, harr⟩ := h b k cs hb
  exact ⟨e, a', w', hq, .of_steps (.one (step_cond hv)) harr⟩
theorem nwp_loop {c : Code} (I : Act → World → Prop) (μ : Act → World → Nat) (h₀ : I a w)
    (round : ∀ a w, I a w → Nwp P c (Exit.then (fun a' w' => I a' w' ∧ μ a' w' < μ a w) Q) a w) : Nwp P (Code.loop c) Q a w := by
  intro b k cs hb
  have key : ∀ n a w, μ a w = n → I a w →
      ∃ e a' w', Q e a' w' ∧ Arrives P (lone (b.at a (.code c :: .inLoop c :: k)) cs w) b k cs e a' w' := by
    intro n
    induction n using Nat.strongRecOn with
    | _ n ih =>
      intro a w hn hI
      obtain ⟨e, a₁, w₁, hq, harr⟩ := round a w hI b (.inLoop c :: k) cs hb
      cases e with
      | normal =>
        obtain ⟨hI₁, hlt⟩ := hq
        obtain ⟨e₂, a₂, w₂, hq₂, harr₂⟩ := ih (μ a₁ w₁) (hn ▸ hlt) a₁ w₁ rfl hI₁
        exact ⟨e₂, a₂, w₂, hq₂, .of_steps (Steps.trans harr (.one step_inLoop)) harr₂⟩
      | exit id => exact ⟨_, a₁, w₁, hq, .pass (x := .inLoop c) rfl (fun _ _ => .inl (by simp)) harr⟩
      | goto l => exact ⟨_, a₁, w₁, hq, .pass (x := .inLoop c) rfl (fun _ _ => .inl (by simp)) harr⟩
      | ret => exact ⟨_, a₁, w₁, hq, .pass (x := .inLoop c) rfl (fun _ _ => .inl (by simp)) harr⟩
      | panic ch => exact ⟨_, a₁, w₁, hq, .pass (x := .inLoop c) rfl (fun _ _ => .inl (by simp)) harr⟩
      | outgrown => exact ⟨_, a₁, w₁, hq, .pass (x := .inLoop c) rfl (fun _ _ => .inl (by simp)) harr⟩
  obtain ⟨e, a', w', hq, harr⟩ := key _ a w rfl h₀
  exact ⟨e, a', w', hq, .of_steps (.one step_loop) harr⟩
theorem nwp_mono {c : Code} {Q' : Exit → Act → World → Prop} (h : Nwp P c Q a w) (hq : ∀ e a w, Q e a w → Q' e a w) : Nwp P c Q' a w :=
  fun b k cs hb => let ⟨e, a', w', q, r⟩ := h b k cs hb; ⟨e, a', w', hq _ _ _ q, r⟩
theorem nwp_loop_ghost {c : Code} (I : Nat → Act → World → Prop) (n₀ : Nat) (h₀ : I n₀ a w)
    (round : ∀ n a w, I n a w → Nwp P c (Exit.then (fun a' w' => ∃ n', n' < n ∧ I n' a' w') Q) a w) : Nwp P (Code.loop c) Q a w := by
  refine nwp_loop (fun a w => ∃ n, I n a w) (fun a w => leastOf (fun n => I n a w)) ⟨n₀, h₀⟩ ?_
  intro a w hI
  refine nwp_mono (round _ a w (leastOf_spec hI).1) ?_
  intro e a' w' hq
  cases e with
  | normal =>
    obtain ⟨n', hlt, hI'⟩ := hq
    exact show (∃ n, I n a' w') ∧ leastOf (fun n => I n a' w') < leastOf (fun n => I n a w) from ⟨⟨n', hI'⟩, Nat.lt_of_le_of_lt ((leastOf_spec ⟨n', hI'⟩).2 n' hI') hlt⟩
  | exit id => exact hq
  | goto l => exact hq
  | ret => exact hq
  | panic ch => exact hq
  | outgrown => exact hq
/-- A statement by the machine's own steps. -/
theorem nwp_of_lone {c : Code} (h : ∀ (b : Frame) (k : List Item) (cs : List Frame), b.kind ≠ .early → LoneTo P (fun g' w' => ∃ a', g' = G (b.at a' k) cs ∧ Q .normal a' w') (G (b.at a (.code c :: k)) cs) w) : Nwp P c Q a w := by
  intro b k cs hb
  obtain ⟨_, w', hs, a', rfl, hq⟩ := h b k cs hb
  exact ⟨.normal, a', w', hq, hs⟩
end
theorem calls_of_nwp {P : Program} {f : FuncId} {fn : Func} {c : Code} {args : Array Value} {w : World} {R : Ending → World → Prop}
    (hf : P.funcs[f]? = some fn) (hb : fn.body = some c)
    (h : Nwp P c (bodyPost P fn R) { tmps := args ++ Array.replicate (fn.ntmps - args.size) undef, defers := [] } w) :
    Calls P f args w R := by
  intro cs
  let b : Frame := { (default : Frame) with fn := f, kind := .normal }
  have henter : Frame.enter P f args .normal =
      b.at { tmps := args ++ Array.replicate (fn.ntmps - args.size) undef, defers := [] } [.code c] := by
    simp [Frame.enter, Frame.at, hf, hb, b]
  obtain ⟨e, a', w', hq, harr⟩ := h b [] cs (by simp [b])
  rw [← henter] at harr
  cases e with
  | normal =>
    obtain ⟨hd, v, hr, hR⟩ := hq
    exact ⟨.returned v, w', _, hR, Steps.trans harr (.one step_end), rfl, rfl, hd, rfl, fn, hf, hr⟩
  | ret =>
    obtain ⟨hd, v, hr, hR⟩ := hq
    obtain ⟨todo, hs⟩ := harr
    exact ⟨.returned v, w', _, hR, hs, rfl, rfl, hd, rfl, fn, hf, hr⟩
  | panic chain =>
    obtain ⟨hd, hR⟩ := hq
    obtain ⟨todo, hs⟩ := harr
    exact ⟨.panicked chain, w', _, hR, hs, rfl, rfl, hd, fn, hf⟩
  | exit id => exact hq.elim
  | goto l => exact hq.elim
  | outgrown => exact ⟨.outgrown, w', b, hq, harr.resolve_left (by simp [b]), rfl, trivial⟩
/-- w1 is w behind some plain steps, stores into block g, and stores into blocks of gs: what g's cells turn into. -/
class Px (gs : List Nat) (g : Nat) (w w1 : World) (f : outParam (Array Value → Array Value)) : Prop where
  out : ¬ g ∈ gs → ∀ cs t, w.heap[g]? = some (.cells cs t (0, 0)) → w1.heap[g]? = some (.cells (f cs) t (0, 0))
instance Px.same (gs : List Nat) (g : Nat) (w : World) : Px gs g w w (fun c => c) := ⟨fun _ _ _ h => h⟩
instance Px.other {gs : List Nat} {g q : Nat} {w w1 : World} {f : Array Value → Array Value} [h : Px gs g w w1 f] [m : PrintMore.Within q gs] (i : Nat) (u : Value) : Px gs g w (w1.setCell ⟨q, i, none⟩ u) f :=
  ⟨fun hn cs t hc => PrintWords.blk_far (h.out hn cs t hc) (fun e => hn (e ▸ m.out)) u⟩
instance Px.stored {gs : List Nat} {g : Nat} {w w1 : World} {f : Array Value → Array Value} [h : Px gs g w w1 f] (i : Nat) (u : Value) : Px gs g w (w1.setCell ⟨g, i, none⟩ u) (fun c => (f c).set! i u) := ⟨fun hn cs t hc => PrintWords.blk_put (h.out hn cs t hc) i u rfl⟩
instance Px.made {gs : List Nat} {g : Nat} {w w1 : World} {f : Array Value → Array Value} [h : Px gs g w w1 f] (o : Obj) : Px gs g w (w1.alloc o) f := ⟨fun hn cs t hc => PrintWords.blk_alloc (h.out hn cs t hc) o⟩
instance Px.drawn {gs : List Nat} {g : Nat} {w w1 : World} {f : Array Value → Array Value} [h : Px gs g w w1 f] : Px gs g w w1.drew f := ⟨fun hn cs t hc => h.out hn cs t hc⟩
theorem BX {w w1 : World} {gs : List Nat} {g : Nat} {f : Array Value → Array Value} [s : Px gs g w w1 f] {cs cs' : Array Value} {t : TypeId} (h : w.heap[g]? = some (.cells cs t (0, 0))) (hn : ¬ g ∈ gs) (e : f cs = cs') : w1.heap[g]? = some (.cells cs' t (0, 0)) := by
  rw [← e]; exact s.out hn cs t h
end Go.Proofs.YtacncgpnimdfbaaW.PrintMore
