/- The functions of neigh: what they come to, without rounds. -/
import Derived.Test.YtchmcmioilmnpaaLx1
import Derived.Test.YtchmcmioilmnpaaBits
namespace Go.Proofs.Ytchmcmioilmnpaa.NeighPlain
open Go Go.RowKit Go.Proofs.Ytchmcmioilmnpaa.L Go.Proofs.YtchmcmioilmnpaaW.PrintWords Go.Proofs.YtchmcmioilmnpaaW.PrintMore Go.Proofs.YtchmcmioilmnpaaPlain Go.Proofs.YtchmcmioilmnpaaBits

/-- What a history is behind a hello. -/
def baseH (h nx : Int) (any : Bool) (a : Int) : Int :=
  if any = true then (if IntKind.u16.wrap (a - nx) ≤ 16 then h / 2 ^ (IntKind.u16.wrap (a - nx)).toNat else if IntKind.u16.wrap (nx - a) ≤ 16 then (h * 2 ^ (IntKind.u16.wrap (nx - a)).toNat) % 65536 else 0) else 0
def helloH (h nx : Int) (any : Bool) (a : Int) : Int := baseH h nx any a / 2 + 32768

theorem base_range {h : Int} (h0 : 0 ≤ h) (h1 : h ≤ 65535) (nx : Int) (any : Bool) (a : Int) : 0 ≤ baseH h nx any a ∧ baseH h nx any a ≤ 65535 := by
  unfold baseH
  by_cases c1 : any = true
  · rw [if_pos c1]
    by_cases c2 : IntKind.u16.wrap (a - nx) ≤ 16
    · rw [if_pos c2]
      have hp : (0 : Int) < 2 ^ (IntKind.u16.wrap (a - nx)).toNat := Int.pow_pos (by omega)
      refine ⟨Int.ediv_nonneg h0 (by omega), Int.le_trans (Int.ediv_le_self _ h0) h1⟩
    · rw [if_neg c2]
      by_cases c3 : IntKind.u16.wrap (nx - a) ≤ 16
      · rw [if_pos c3]; omega
      · rw [if_neg c3]; omega
  · rw [if_neg c1]; omega
theorem hello_range {h : Int} (h0 : 0 ≤ h) (h1 : h ≤ 65535) (nx : Int) (any : Bool) (a : Int) : 32768 ≤ helloH h nx any a ∧ helloH h nx any a ≤ 65535 := by
  have := base_range h0 h1 nx any a
  unfold helloH
  omega

theorem or_top {x : Int} (h0 : 0 ≤ x) (h1 : x ≤ 65535) : Go.bits .or .u16 (x / 2) 32768 = x / 2 + 32768 := by
  obtain ⟨n, hn⟩ := Int.eq_ofNat_of_zero_le (show 0 ≤ x / 2 by omega)
  have hlt : n < 32768 := by omega
  have e1 : x / 2 = ((BitVec.ofNat 16 n).toNat : Int) := by rw [hn, BitVec.toNat_ofNat, Nat.mod_eq_of_lt (by omega)]
  have e2 : (32768 : Int) = ((32768#16).toNat : Int) := rfl
  have e3 : BitVec.ofNat 16 n &&& 32768#16 = 0#16 := by
    apply BitVec.eq_of_getLsbD_eq
    intro i hi
    have hb : ∀ i, i < 16 → (32768#16).getLsbD i = decide (i = 15) := by decide
    rw [BitVec.getLsbD_and, hb i hi, BitVec.getLsbD_zero, BitVec.getLsbD_ofNat]
    by_cases h : i = 15
    · subst h
      rw [Nat.testBit_lt_two_pow (show n < 2 ^ 15 by omega)]; simp
    · simp [h]
  rw [e1, e2, or16, ← BitVec.add_eq_or_of_and_eq_zero _ _ e3, BitVec.toNat_add, BitVec.toNat_ofNat, Nat.mod_eq_of_lt (show n < 2 ^ 16 by omega)]
  simp
  omega

theorem shr_eq {x y : Int} (hy : y ≤ 16) : shr .u16 x y = x / 2 ^ y.toNat := by
  unfold shr
  rw [Nat.min_eq_left (by show y.toNat ≤ 16; omega)]
theorem shl_eq {x y : Int} (hy : y ≤ 16) : shl .u16 x y = (x * 2 ^ y.toNat) % 65536 := by
  unfold shl
  rw [Nat.min_eq_left (by show y.toNat ≤ 16; omega), wrap16_mod]

theorem Hello_ev {h : Int} (h0 : 0 ≤ h) (h1 : h ≤ 65535) (nx : Int) (any : Bool) (told a : Int) :
    Ev (fun k => neigh_Neigh_Hello.f k h nx any told a) (helloH h nx any a, IntKind.u16.wrap (a + 1), true, told) := by
  have hr := base_range h0 h1 nx any a
  unfold neigh_Neigh_Hello.f
  refine Ev.ite (fun c1 => ?_) (fun c1 => Ev.some_ ?_)
  · have hw1 : 0 ≤ IntKind.u16.wrap (a - nx) := by rw [wrap16_mod]; omega
    have hw2 : 0 ≤ IntKind.u16.wrap (nx - a) := by rw [wrap16_mod]; omega
    refine Ev.ite (fun c2 => ?_) (fun c2 => ?_)
    · by_cases c3 : IntKind.u16.wrap (nx - a) > 16
      · refine Ev.step (f := fun _ => some (helloH h nx any a, IntKind.u16.wrap (a + 1), true, told)) (fun k => ?_) (Ev.now _)
        simp only [neigh_Neigh_Hello.j0]
        rw [if_pos (decide_eq_true c3)]
        have : baseH h nx any a = 0 := by unfold baseH; rw [if_pos c1, if_neg (by omega), if_neg (by omega)]
        unfold helloH
        rw [this]
        rfl
      · refine Ev.step (f := fun _ => some (helloH h nx any a, IntKind.u16.wrap (a + 1), true, told)) (fun k => ?_) (Ev.now _)
        simp only [neigh_Neigh_Hello.j0]
        have hb : baseH h nx any a = (h * 2 ^ (IntKind.u16.wrap (nx - a)).toNat) % 65536 := by unfold baseH; rw [if_pos c1, if_neg (by omega), if_pos (by omega)]
        rw [if_neg (by rw [decide_eq_false c3]; simp), if_neg (by omega), if_pos (by omega), shl_eq (by omega), ← hb, or_top hr.1 hr.2]
        rfl
    · refine Ev.step (f := fun _ => some (helloH h nx any a, IntKind.u16.wrap (a + 1), true, told)) (fun k => ?_) (Ev.now _)
      simp only [neigh_Neigh_Hello.j0]
      have hb : baseH h nx any a = h / 2 ^ (IntKind.u16.wrap (a - nx)).toNat := by unfold baseH; rw [if_pos c1, if_pos (by omega)]
      rw [if_neg (by simp), if_pos (by omega), if_pos (by omega), shr_eq (by omega), ← hb, or_top hr.1 hr.2]
      rfl
  · have : baseH h nx any a = 0 := by unfold baseH; rw [if_neg c1]
    unfold helloH
    rw [this]
    rfl

theorem Miss_eq (h nx : Int) (any : Bool) (told : Int) : neigh_Neigh_Miss.f h nx any told = some (if any = true then h / 2 else h, if any = true then IntKind.u16.wrap (nx + 1) else nx, any, told) := by
  unfold neigh_Neigh_Miss.f
  cases any <;> rfl

def rxS (h : Int) : Int := if h / 8192 = 3 ∨ 5 ≤ h / 8192 then 96 else 65535
theorem and_top {h : Int} (h0 : 0 ≤ h) (h1 : h ≤ 65535) : Go.bits .and .u16 h 57344 = h / 8192 * 8192 := by
  obtain ⟨n, rfl⟩ := Int.eq_ofNat_of_zero_le h0
  have e1 : (n : Int) = ((BitVec.ofNat 16 n).toNat : Int) := by rw [BitVec.toNat_ofNat, Nat.mod_eq_of_lt (by omega)]
  have e2 : (57344 : Int) = ((57344#16).toNat : Int) := rfl
  have e3 : BitVec.ofNat 16 n &&& 57344#16 = (BitVec.ofNat 16 n >>> 13) <<< 13 := by
    apply BitVec.eq_of_getLsbD_eq
    intro i hi
    have hb : ∀ i, i < 16 → (57344#16).getLsbD i = decide (13 ≤ i) := by decide
    rw [BitVec.getLsbD_and, hb i hi, BitVec.getLsbD_shiftLeft, BitVec.getLsbD_ushiftRight]
    by_cases h : 13 ≤ i
    · rw [decide_eq_true h, decide_eq_true hi, decide_eq_false (show ¬ i < 13 by omega), show 13 + (i - 13) = i by omega]; simp
    · rw [decide_eq_false h, decide_eq_true (show i < 13 by omega)]; simp
  have e4 : Go.bits .and .u16 (n : Int) 57344 = (((BitVec.ofNat 16 n >>> 13) <<< 13).toNat : Int) := by
    rw [← e3, ← and16, ← e1]; rfl
  rw [e4, BitVec.toNat_shiftLeft, BitVec.toNat_ushiftRight, BitVec.toNat_ofNat, Nat.mod_eq_of_lt (show n < 2 ^ 16 by omega), Nat.shiftRight_eq_div_pow, Nat.shiftLeft_eq]
  omega
theorem ones {q : Int} (h0 : 0 ≤ q) (h1 : q < 8) : bits_OnesCount16.f (q * 8192) = some (if q = 3 ∨ q = 5 ∨ q = 6 then 2 else if q = 7 then 3 else if q = 0 then 0 else 1) := by
  have hq : q = 0 ∨ q = 1 ∨ q = 2 ∨ q = 3 ∨ q = 4 ∨ q = 5 ∨ q = 6 ∨ q = 7 := by omega
  rcases hq with rfl | rfl | rfl | rfl | rfl | rfl | rfl | rfl <;> decide +kernel
theorem ones_rx {h : Int} (h0 : 0 ≤ h) (h1 : h ≤ 65535) : ∃ t, bits_OnesCount16.f (Go.bits .and .u16 h 57344) = some t ∧ (if t < 2 then 65535 else 96) = rxS h := by
  refine ⟨_, by rw [and_top h0 h1]; exact ones (by omega) (by omega), ?_⟩
  unfold rxS
  have : 0 ≤ h / 8192 ∧ h / 8192 < 8 := by omega
  generalize h / 8192 = q at this
  have hq : q = 0 ∨ q = 1 ∨ q = 2 ∨ q = 3 ∨ q = 4 ∨ q = 5 ∨ q = 6 ∨ q = 7 := by omega
  rcases hq with rfl | rfl | rfl | rfl | rfl | rfl | rfl | rfl <;> decide
theorem Rx_eq {h : Int} (h0 : 0 ≤ h) (h1 : h ≤ 65535) (nx : Int) (any : Bool) (told : Int) : neigh_Neigh_Rx.f h nx any told = some (rxS h, h, nx, any, told) := by
  obtain ⟨t, ht, hr⟩ := ones_rx h0 h1
  unfold neigh_Neigh_Rx.f
  rw [ht]
  simp only [Option.bind_some]
  by_cases c : t < 2
  · rw [if_pos c] at hr ⊢; rw [hr]
  · rw [if_neg c] at hr ⊢; rw [hr]
theorem Cost_eq {h : Int} (h0 : 0 ≤ h) (h1 : h ≤ 65535) (nx : Int) (any : Bool) (told : Int) : neigh_Neigh_Cost.f h nx any told = some (mx (rxS h) told, h, nx, any, told) := by
  obtain ⟨t, ht, hr⟩ := ones_rx h0 h1
  unfold neigh_Neigh_Cost.f
  rw [ht]
  simp only [Option.bind_some, hr]

theorem awake_ev : Ev octroilaw11_awake.f true := by
  unfold octroilaw11_awake.f
  refine Ev.bndc (0, 0, false, 65535) rfl ?_
  refine Ev.bndc (65535, 0, 0, false, 65535) (Cost_eq (by omega) (by omega) 0 false 65535) ?_
  refine Ev.bnd (32768, 6, true, 65535) (Hello_ev (h := 0) (by omega) (by omega) 0 false 65535 5) ?_
  refine Ev.bnd (49152, 7, true, 65535) (Hello_ev (h := 32768) (by omega) (by omega) 6 true 65535 6) ?_
  refine Ev.bndc (49152, 7, true, 96) rfl ?_
  refine Ev.bndc (96, 49152, 7, true, 96) (Cost_eq (by omega) (by omega) 7 true 96) ?_
  refine Ev.bndc (49152, 49152, 7, true, 96) rfl ?_
  refine Ev.bndc (24576, 8, true, 96) (Miss_eq 49152 7 true 96) ?_
  refine Ev.bndc (12288, 9, true, 96) (Miss_eq 24576 8 true 96) ?_
  refine Ev.pos rfl (Ev.pos rfl (Ev.pos rfl ?_))
  refine Ev.bndc (65535, 12288, 9, true, 96) (Cost_eq (by omega) (by omega) 9 true 96) ?_
  refine Ev.pos rfl ?_
  refine Ev.bndc (12288, 12288, 9, true, 96) rfl ?_
  exact Ev.some_ rfl

/-- A history behind any calls. -/
structure G (h : Int) (any : Bool) : Prop where
  lo : 0 ≤ h
  hi : h ≤ 65535
  off : any = false → h = 0
theorem G.hello {h : Int} {any : Bool} (g : G h any) (nx a : Int) : G (helloH h nx any a) true := by
  have := hello_range g.lo g.hi nx any a
  exact ⟨by omega, by omega, fun h => by cases h⟩
theorem G.miss {h : Int} {any : Bool} (g : G h any) : G (if any = true then h / 2 else h) any := by
  obtain ⟨g1, g2, g3⟩ := g
  cases any
  · rw [if_neg (by simp)]; exact ⟨g1, g2, g3⟩
  · rw [if_pos rfl]; exact ⟨by omega, by omega, fun h => by cases h⟩
end Go.Proofs.Ytchmcmioilmnpaa.NeighPlain
