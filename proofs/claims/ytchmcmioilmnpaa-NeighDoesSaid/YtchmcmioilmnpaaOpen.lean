/- Data that came in (ints, bools, structs, slices, nested), opened as the kinds that the printed contracts speak of. -/
import Derived.Test.YtchmcmioilmnpaaWWords
import Derived.ChangeArms
import Derived.WideShapes
import Derived.DataReads
import Derived.ChangeSlices
namespace Go.Proofs.YtchmcmioilmnpaaOpen
open Go Go.ChangeShapes Go.WideShapes Go.Proofs.YtchmcmioilmnpaaW.PrintWords

section
variable {H : Type} {enc : TypeId × Value → H} {P : Program} {w : World} {base : Nat} {spare : Nat → Bool} {held : Bool}

/-- Whatever reads at type t is, as cells, of the kind d, at some x that is good. -/
def Opens {H : Type} {α : Type} (enc : TypeId × Value → H) (P : Program) (w : World) (base : Nat) (spare : Nat → Bool) (held : Bool) (t : TypeId) (d : Kd α) (good : α → Prop) : Prop :=
  ∀ fuel cs x, DataW.trod enc P w base spare held fuel t cs = some x → ∃ a, d.K w a cs ∧ good a

theorem opens_int {t : TypeId} {k : IntKind} (ht : P.underlying t = some (.int k)) : Opens enc P w base spare held t (Kd.int k) (fun n => (Lit.int k n).wf = true) := by
  intro fuel cs x h
  obtain ⟨n, rfl, _, hw⟩ := DataW.trod_int ht h
  exact ⟨n, rfl, hw⟩

theorem opens_bool {t : TypeId} (ht : P.underlying t = some .bool) : Opens enc P w base spare held t Kd.bool (fun _ => True) := by
  intro fuel cs x h
  obtain ⟨n, rfl, _⟩ := DataW.trod_bool ht h
  exact ⟨n, rfl, trivial⟩

theorem opens_iso {α β : Type} {t : TypeId} {d : Kd α} {good : α → Prop} (f : β → α) (g : α → β) (hfg : ∀ a, f (g a) = a) (h : Opens enc P w base spare held t d good) :
    Opens enc P w base spare held t (Kd.iso d f) (fun b => good (f b)) := by
  intro fuel cs x hx
  obtain ⟨a, hK, hg⟩ := h fuel cs x hx
  refine ⟨g a, ?_, ?_⟩
  · show d.K w (f (g a)) cs
    rw [hfg]
    exact hK
  · show good (f (g a))
    rw [hfg]
    exact hg

/-- The fields fs, the first of which begins at cell 'off', are of the kind d. -/
def OpensF {H : Type} {α : Type} (enc : TypeId × Value → H) (P : Program) (w : World) (base : Nat) (spare : Nat → Bool) (held : Bool) (fs : List Field) (off : Nat) (d : Kd α) (good : α → Prop) : Prop :=
  ∀ (n : Nat) (cs : List Value), (∀ f ∈ fs, ∃ y, DataW.trod enc P w base spare held n f.type ((cs.drop f.offset).take (P.cellsOf f.type)) = some y) →
    cs.length = (fs.foldl (fun s f => s + P.cellsOf f.type) off) → ∃ a, d.K w a (cs.drop off) ∧ good a

theorem opensF_last {α : Type} {f : Field} {off : Nat} {d : Kd α} {good : α → Prop} (ho : f.offset = off) (h : Opens enc P w base spare held f.type d good) :
    OpensF enc P w base spare held [f] off d good := by
  intro n cs hf hl
  obtain ⟨y, hy⟩ := hf f (by simp)
  obtain ⟨a, hK, hg⟩ := h n _ _ hy
  refine ⟨a, ?_, hg⟩
  simp only [List.foldl_cons, List.foldl_nil] at hl
  rw [ho] at hK
  have : (cs.drop off).take (P.cellsOf f.type) = cs.drop off := List.take_of_length_le (by simp; omega)
  rw [this] at hK
  exact hK

theorem foldl_ge (P : Program) (fs : List Field) (s : Nat) : s ≤ fs.foldl (fun s f => s + P.cellsOf f.type) s := by
  induction fs generalizing s with
  | nil => exact Nat.le_refl _
  | cons f fs ih => exact Nat.le_trans (Nat.le_add_right _ _) (ih _)

theorem opensF_cons {α β : Type} {f : Field} {fs : List Field} {off : Nat} {d1 : Kd α} {d2 : Kd β} {g1 : α → Prop} {g2 : β → Prop} (ho : f.offset = off) (h1 : Opens enc P w base spare held f.type d1 g1)
    (h2 : OpensF enc P w base spare held fs (off + P.cellsOf f.type) d2 g2) : OpensF enc P w base spare held (f :: fs) off (Kd.pair d1 d2) (fun a => g1 a.1 ∧ g2 a.2) := by
  intro n cs hf hl
  obtain ⟨y, hy⟩ := hf f (by simp)
  obtain ⟨a, hK, hg⟩ := h1 n _ _ hy
  obtain ⟨b, hK2, hg2⟩ := h2 n cs (fun f' hf' => hf f' (by simp [hf'])) hl
  refine ⟨(a, b), ⟨_, _, ?_, hK, hK2⟩, hg, hg2⟩
  rw [ho, ← List.drop_drop, List.take_append_drop]

theorem opens_struct {α : Type} {t : TypeId} {fs : Array Field} {d : Kd α} {good : α → Prop} (ht : P.underlying t = some (.struct fs)) (hc : P.cellsOf t = fs.toList.foldl (fun s f => s + P.cellsOf f.type) 0)
    (h : OpensF enc P w base spare held fs.toList 0 d good) : Opens enc P w base spare held t d good := by
  intro fuel cs x hx
  obtain ⟨xs, n, _, _, hl, hn, hf⟩ := DataW.trod_struct ht hx
  refine h n cs (fun f hm => ?_) (hl.trans hc)
  obtain ⟨i, hi, rfl⟩ := List.mem_iff_getElem.1 hm
  have hi' : i < xs.length := by rw [hn]; simpa using hi
  refine ⟨xs[i], ?_⟩
  have := hf i (fs.toList[i]) (by simp at hi ⊢)
  rw [this, List.getElem?_eq_getElem hi']

theorem list_of {α : Type} {Q : Nat → α → Prop} (n : Nat) (h : ∀ i, i < n → ∃ p, Q i p) : ∃ l : List α, l.length = n ∧ ∀ i p, l[i]? = some p → Q i p := by
  induction n with
  | zero => exact ⟨[], rfl, fun i p hp => by simp at hp⟩
  | succ n ih =>
    obtain ⟨l, hl, hq⟩ := ih (fun i hi => h i (by omega))
    obtain ⟨p, hp⟩ := h n (by omega)
    refine ⟨l ++ [p], by simp [hl], fun i q hq' => ?_⟩
    rw [List.getElem?_append] at hq'
    split at hq'
    · exact hq i q hq'
    · have : i = n := by
        have := (List.getElem?_eq_some_iff.1 hq').1
        simp at this
        omega
      subst this
      simp [hl] at hq'
      subst hq'
      exact hp

theorem opens_slice {α : Type} {t e : TypeId} {d : Kd α} {good : α → Prop} (ht : P.underlying t = some (.slice e)) (hs : d.sz = P.cellsOf e) (h : Opens enc P w base spare held e d good) :
    Opens enc P w base spare held t (Kd.slice e d) (fun l => l.length ≤ maxLen ∧ ∀ x ∈ l, good x) := by
  intro fuel cs x hx
  rcases DataW.trod_slice ht hx with ⟨rfl, _⟩ | ⟨a, len, cap, elems, rest, n, _, rfl, _, hb, hlc, hm, hlen, hel, _⟩
  · exact ⟨[], ⟨none, 0, rfl, Nat.le_refl _, rfl, by simp, fun h => by simp at h⟩, by simp, by simp⟩
  · obtain ⟨l, hl, hq⟩ := list_of (Q := fun i p => ∃ c, w.cells? base (a.add (i * P.cellsOf e)) (P.cellsOf e) = some c ∧ d.K w p c ∧ good p) len (fun i hi => by
      have := hel i hi
      rw [List.getElem?_eq_getElem (by omega)] at this
      obtain ⟨c, hc, hy⟩ := Option.bind_eq_some_iff.1 this
      obtain ⟨p, hK, hg⟩ := h n c _ hy
      exact ⟨p, c, hc, hK, hg⟩)
    refine ⟨l, ⟨some a, cap, by rw [hl], by omega, ?_⟩, by unfold maxLen at *; omega, fun x hx => ?_⟩
    · refine ⟨rfl, by rw [hl]; unfold maxLen at hm; omega, fun _ => ⟨a, rfl, fun j p hp => ?_⟩⟩
      obtain ⟨c, hc, hK, _⟩ := hq j p hp
      refine ⟨c, d.K_len hK, hK, fun i u hu => ?_⟩
      obtain ⟨_, hcl, hcc⟩ := World.cells?_some hc
      have hi : i < c.length := (List.getElem?_eq_some_iff.1 hu).1
      have := hcc i (by omega)
      rw [hu] at this
      rw [← this, hs]
      congr 1
      unfold Addr.add
      by_cases h1 : j * P.cellsOf e = 0 <;> by_cases h2 : i = 0 <;> simp [h1, h2, Nat.add_assoc]
    · obtain ⟨i, hi, rfl⟩ := List.mem_iff_getElem.1 hx
      obtain ⟨_, _, _, hg⟩ := hq i _ (List.getElem?_eq_getElem hi)
      exact hg

/-- A slice that is an argument. -/
theorem arg_slice {α : Type} {t e : TypeId} {r : Reach} {b0 : Nat} {v : Value} {x : DataW H} {ps : List MemPlace} {d : Kd α} {good : List α → Prop} (ht : P.underlying t = some (.slice e))
    (hv : Value.okWide P w r b0 t v) (h : DataW.Trod enc P w base spare held t v x ps) (ho : Opens enc P w base spare held t (Kd.slice e d) good) :
    ∃ (A : Option Addr) (c : Nat) (l : List α), v = .slice A l.length c ∧ l.length ≤ c ∧ Kd.C d w A l.length l ∧ good l := by
  obtain ⟨a, len, cap, rfl⟩ := okWide_slice ht hv
  obtain ⟨fuel, hf⟩ := h
  obtain ⟨l, ⟨A, c, hcs, hl, hC⟩, hg⟩ := ho fuel _ _ hf
  have hcs' : ([.slice a len cap] : List Value) = [.slice A l.length c] := by simpa [Value.cells] using hcs
  exact ⟨A, c, l, by injection hcs', hl, hC, hg⟩

/-- A struct that is an argument. -/
theorem arg_struct {α : Type} {t : TypeId} {fs : Array Field} {r : Reach} {b0 : Nat} {v : Value} {x : DataW H} {ps : List MemPlace} {d : Kd α} {good : α → Prop} (ht : P.underlying t = some (.struct fs))
    (hv : Value.okWide P w r b0 t v) (h : DataW.Trod enc P w base spare held t v x ps) (ho : Opens enc P w base spare held t d good) :
    ∃ (cs : List Value) (a : α), v = .agg cs.toArray ∧ d.K w a cs ∧ good a := by
  obtain ⟨cs, rfl, _⟩ := okWide_struct ht hv
  obtain ⟨fuel, hf⟩ := h
  obtain ⟨a, hK, hg⟩ := ho fuel _ _ hf
  exact ⟨cs.toList, a, by simp, by simpa [Value.cells] using hK, hg⟩

theorem trod_lts {t : TypeId} {v : Value} {x : DataW H} {ps : List MemPlace} (h : DataW.Trod enc P w base spare held t v x ps) : ∀ x ∈ ps, x.block < w.heap.size := by
  obtain ⟨m, hm⟩ := h
  exact DataW.trod_lt m _ _ _ hm
end
end Go.Proofs.YtchmcmioilmnpaaOpen
