/- Words for scopes with a label: jumps back to it (a loop whose relation bears a number, as go_loopg's), and jumps ahead to it. -/
import Derived.WalkMore
import Derived.ScopeJumps
import Derived.Deep.LoopGhost
namespace Go.Proofs.YtchmcmioilmnpaaLab
open Go

section
variable {P : Program} {c r : Code} {l : Nat} {a : Act} {w : World} {Q : Exit → Act → World → Prop}

/-- From the label on, inside the scope 'c', the run comes to Q. -/
def Lab (P : Program) (c : Code) (l : Nat) (Q : Exit → Act → World → Prop) (a : Act) (w : World) : Prop :=
  ∀ rest, findLabel c l = some rest → ∀ (b : Frame) (k : List Item) (cs : List Frame),
    ∃ e a' w', Q e a' w' ∧ Arrives P (lone (b.at a (.code rest :: .inScope c :: k)) cs w) b k cs e a' w'

theorem scope_out {rest : Code} {J : Act → World → Prop} {b : Frame} {k : List Item} {cs : List Frame} {m : Machine}
    (hJ : ∀ a w, J a w → Lab P c l Q a w) (hf : findLabel c l = some rest)
    (h : ∃ e a' w', Exit.jump l J Q e a' w' ∧ Arrives P m b (.inScope c :: k) cs e a' w') :
    ∃ e a' w', Q e a' w' ∧ Arrives P m b k cs e a' w' := by
  have hg : gotoIn l (.inScope c :: k) = some (.code rest :: .inScope c :: k) := by simp [gotoIn, hf]
  obtain ⟨e, a₁, w₁, hq, harr⟩ := h
  cases e with
  | normal => exact ⟨.normal, a₁, w₁, hq, Steps.trans harr (.one step_inScope)⟩
  | exit id => exact ⟨.exit id, a₁, w₁, hq, fun k' hk => harr k' (by simp [exitTo, hk])⟩
  | goto l' =>
    obtain ⟨rfl, hJ'⟩ := hq
    obtain ⟨e₂, a₂, w₂, hq₂, harr₂⟩ := hJ _ _ hJ' rest hf b k cs
    exact ⟨e₂, a₂, w₂, hq₂, .of_steps (harr _ hg) harr₂⟩
  | ret => exact ⟨_, a₁, w₁, hq, harr⟩
  | panic ch => exact ⟨_, a₁, w₁, hq, harr⟩
  | outgrown => exact ⟨_, a₁, w₁, hq, harr⟩

theorem wp_scope_lab (l : Nat) (hf : (findLabel c l).isSome = true) (h : c.wp P (Exit.jump l (Lab P c l Q) Q) a w) : (Code.scope c).wp P Q a w := by
  intro b k cs
  obtain ⟨rest, hf⟩ := Option.isSome_iff_exists.mp hf
  obtain ⟨e, a', w', hq, harr⟩ := scope_out (fun _ _ h => h) hf (h b (.inScope c :: k) cs)
  exact ⟨e, a', w', hq, .of_steps (.one step_scope) harr⟩

theorem wp_skip_seq {Q' : Exit → Act → World → Prop} (h : r.wp P Q' a w) : (Code.seq .skip r).wp P Q' a w := wp_seq (wp_skip h)

theorem Lab.of_ghost (hf : findLabel c l = some (.seq .skip r)) (I : Nat → Act → World → Prop)
    (round : ∀ n a w, I n a w → r.wp P (Exit.jump l (fun a' w' => ∃ n', n' < n ∧ I n' a' w') Q) a w) : ∀ n a w, I n a w → Lab P c l Q a w := by
  intro n
  induction n using Nat.strongRecOn with
  | _ n ih =>
    intro a w hI rest hf' b k cs
    rw [hf] at hf'
    obtain rfl := Option.some.inj hf'
    exact scope_out (fun a w ⟨n', hlt, hI'⟩ => ih n' hlt a w hI') hf (wp_skip_seq (round n a w hI) b (.inScope c :: k) cs)

/-- At the label: a relation that bears a number; each pass that comes to the goto hands it on at a smaller one. -/
theorem wp_label_ghost (I : Nat → Act → World → Prop) (n₀ : Nat) (pre_ : I n₀ a w) (hf_ : findLabel c l = some (.seq .skip r))
    (round : ∀ n a w, I n a w → ∀ (J : Nat → Act → World → Prop) (K : Act → World → Prop), (∀ k a' w', I k a' w' → J k a' w') → (∀ a' w', Handed J n a' w' → K a' w') → r.wp P (Exit.jump l K Q) a w) :
    r.wp P (Exit.jump l (Lab P c l Q) Q) a w :=
  round n₀ a w pre_ I _ (fun _ _ _ q => q) fun a' w' q => by
    obtain ⟨n', _, hI⟩ := q
    exact Lab.of_ghost hf_ I (fun n a w h => round n a w h I _ (fun _ _ _ q => q) fun _ _ q => q) n' a' w' hI

theorem wp_label_at {K : Act → World → Prop} {Q' : Exit → Act → World → Prop} (hk : ∀ a w, r.wp P Q' a w → K a w) (h : r.wp P Q' a w) : (Code.label l).wp P (Exit.then K Q) a w := wp_label (hk _ _ h)

theorem jump_again {K : Act → World → Prop} (h : K a w) : Exit.jump l K Q (.goto l) a w := ⟨rfl, h⟩

/-- What stands behind the label, told at each goto to it. -/
def Fwd (P : Program) (r : Code) (Q : Exit → Act → World → Prop) (a : Act) (w : World) : Prop := r.wp P (Exit.noGoto Q) a w
theorem fwd_intro (h : r.wp P (Exit.noGoto Q) a w) : Exit.jump l (Fwd P r Q) Q (.goto l) a w := ⟨rfl, h⟩

theorem wp_scope_fwd (l : Nat) (hf : findLabel c l = some (.seq .skip r)) (h : c.wp P (Exit.jump l (Fwd P r Q) Q) a w) : (Code.scope c).wp P Q a w := by
  intro b k cs
  have hJ : ∀ a w, Fwd P r Q a w → Lab P c l Q a w := by
    intro a w h rest hf' b k cs
    rw [hf] at hf'
    obtain rfl := Option.some.inj hf'
    refine scope_out (J := fun _ _ => False) (fun _ _ h => h.elim) hf ?_
    obtain ⟨e, a', w', hq, harr⟩ := wp_skip_seq h b (.inScope c :: k) cs
    refine ⟨e, a', w', ?_, harr⟩
    cases e with
    | goto l' => exact hq.elim
    | normal => exact hq
    | exit id => exact hq
    | ret => exact hq
    | panic ch => exact hq
    | outgrown => exact hq
  obtain ⟨e, a', w', hq, harr⟩ := scope_out hJ hf (h b (.inScope c :: k) cs)
  exact ⟨e, a', w', hq, .of_steps (.one step_scope) harr⟩
end

section
variable {l : Nat} {J : Act → World → Prop} {Q : Exit → Act → World → Prop} {a : Act} {w : World}
@[go_sem] theorem jump_normal : Exit.jump l J Q .normal a w = Q .normal a w := rfl
@[go_sem] theorem jump_exit (id : Nat) : Exit.jump l J Q (.exit id) a w = Q (.exit id) a w := rfl
@[go_sem] theorem jump_ret : Exit.jump l J Q .ret a w = Q .ret a w := rfl
@[go_sem] theorem jump_panic (ch : List PanicEntry) : Exit.jump l J Q (.panic ch) a w = Q (.panic ch) a w := rfl
end
end Go.Proofs.YtchmcmioilmnpaaLab
