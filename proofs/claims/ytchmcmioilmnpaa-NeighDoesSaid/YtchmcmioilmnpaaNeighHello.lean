/- The reference's Hello: walked by hand. -/
import Derived.Test.YtchmcmioilmnpaaNeighIn
import Derived.Test.YtchmcmioilmnpaaPlain
namespace Go.Proofs.Ytchmcmioilmnpaa.L
open Go.Proofs.YtchmcmioilmnpaaLab Go.Proofs.YtchmcmioilmnpaaPlain
open Go.RowKit Go.Proofs.YtchmcmioilmnpaaW.PrintWords Go.Proofs.YtchmcmioilmnpaaW.PrintLast Go.Proofs.YtchmcmioilmnpaaW.PrintMore
attribute [local go_sem] max2_int min2_int max_two min_two max_three min_three max_four min_four
set_option linter.unusedVariables false
set_option linter.unusedSimpArgs false

def ahead (nx seq : Int) : Int := IntKind.u16.wrap (seq - nx)
def behind (nx seq : Int) : Int := IntKind.u16.wrap (nx - seq)
def baseR (H : List Bool) (any : Bool) (nx seq : Int) : List Bool :=
  if any = true then (if 17 ≤ IntKind.u16.wrap (seq - nx) then (if 17 ≤ IntKind.u16.wrap (nx - seq) then List.replicate 16 false else ((H ++ List.replicate (IntKind.u16.wrap (nx - seq)).toNat false).take ((IntKind.u16.wrap (nx - seq)).toNat + 16)).drop (IntKind.u16.wrap (nx - seq)).toNat) else (List.replicate (IntKind.u16.wrap (seq - nx)).toNat false ++ H).take 16) else List.replicate 16 false

theorem mid_run (A : Option Addr) (c : Nat) (xs : List Bool) (a b : Int) (h0 : 0 ≤ a) (h1 : a ≤ b) (hm : b ≤ xs.length) (hc : xs.length ≤ c) (hlt : a.toNat < c) (W : World) :
    (Instr.slice 41 (.slice A xs.length c) (some (.int .i64 a)) (some (.int .i64 b)) none).run Try.prog W = .ok (.slice (A.map (·.add a.toNat)) (b.toNat - a.toNat) (c - a.toNat)) W := by
  obtain ⟨i, hi, _, hsz, _⟩ := info_parts info4
  have hel : Try.prog.elem 41 = 4 := by simp [Program.elem, Try.underlying41]
  have hu : Try.prog.underlying 41 = some (.slice (Try.prog.elem 41)) := by rw [hel]; exact Try.underlying41
  rw [run_slice_lh W 41 A xs.length c hu .i64 .i64 a b h0 h1 (by omega), hel]
  have : ¬ c = a.toNat := by omega
  simp [sizeOf, typeInfo, hi, hsz, sliced, Result.andThen, this]
theorem mid_reads {w : World} {A : Option Addr} {c : Nat} {xs : List Bool} {a b : Nat} (h : Kd.C Kd.bool w A xs.length xs) (h1 : a ≤ b) (hm : b ≤ xs.length) (hc : xs.length ≤ c) (hlt : a < c) :
    Kd.C Kd.bool w (A.map (·.add a)) (b - a) ((xs.take b).drop a) := by
  have h2 := ((Kd.reads_of_C (d := false) h).take_ b hm).drop_ (c := c) a (by omega) (by omega)
  have : ¬ c = a := by omega
  rw [if_neg this] at h2
  exact Kd.C_of_reads (h1 := fun _ => rfl) h2

theorem hello_cut (A7 : Option Addr) (c7 : Nat) (Y : List Bool) (i : Nat) (bh : Int) (hb : bh = (i : Int)) (hi : i < 17) (hY : Y.length = 16 + i) (hc : Y.length ≤ c7) (W : World) :
    (Instr.slice 41 (.slice A7 Y.length c7) (some (.int .i64 bh)) (some (.int .i64 (wrap64 (bh + 16)))) none).run Try.prog W = .ok (.slice (A7.map (·.add i)) 16 (c7 - i)) W := by
  subst hb
  have e2 : wrap64 ((i : Int) + 16) = ((i + 16 : Nat) : Int) := by rw [wrap64_id _ (by omega) (by omega)]; omega
  rw [e2]
  have q := mid_run A7 c7 Y (i : Int) ((i + 16 : Nat) : Int) (by omega) (by omega) (by omega) hc (by omega) W
  simp only [Int.toNat_natCast] at q
  rw [Nat.add_sub_cancel_left] at q
  exact q
theorem hello_cap {Y : List Bool} {i c7 : Nat} (hY : Y.length = 16 + i) (hc : Y.length ≤ c7) : 16 ≤ c7 - i := by omega
theorem hello_read {w : World} {A7 : Option Addr} {c7 : Nat} {Y : List Bool} {i : Nat} (h : Kd.C Kd.bool w A7 Y.length Y) (hY : Y.length = 16 + i) (hc : Y.length ≤ c7) : Kd.C Kd.bool w (A7.map (·.add i)) 16 ((Y.take (i + 16)).drop i) := by
  have q := mid_reads (a := i) (b := i + 16) h (by omega) (by omega) hc (by omega)
  rw [Nat.add_sub_cancel_left] at q
  exact q

set_option maxHeartbeats 8000000 in
set_option maxRecDepth 100000 in
theorem octroiref11_Neigh_Hello.calls (g : Nat) (H : List Bool) (f1 : Bool) (f2 f3 : Int) (a1 : Int) (w0 w : World) (hI : IsR w0.heap.size w g H f1 f2 f3) (hL : H.length = 16) (hB : Below w0.heap.size w0 w) :
    Calls Try.prog 13 #[.pointer (some ⟨g, 0, none⟩), .int .u16 a1] w fun e w' => e = .returned (.tuple #[]) ∧ IsR w0.heap.size w' g (true :: (baseR H f1 f2 a1).take 15) true (IntKind.u16.wrap (a1 + 1)) f3 ∧ Below w0.heap.size w0 w' ∧ KeepBut w w' g none := by
  have HI := Aside0.mk hI
  have HB := Aside0.mk hB
  have HK := Aside0.mk (KeepBut.refl w g none)
  have HBw := Aside0.mk (Below.refl w.heap.size w)
  have HLn := Aside0.mk hL
  clear hI hB hL
  obtain ⟨A, c, HG, hc, HC⟩ := HI.out.cell
  have hge := HI.out.ge
  have hcz_0 := cellS43_0 HG
  have hcz_1 := cellS43_1 HG
  have hcz_2 := cellS43_2 HG
  have hfz_0 := blk_frozen HG 0
  have HGA := Aside0.mk HG
  have HCA := Aside0.mk HC
  clear HG HC
  have ha64 : wrap64 (IntKind.u16.wrap (a1 - f2)) = IntKind.u16.wrap (a1 - f2) := by
    have e : IntKind.u16.wrap (a1 - f2) = (a1 - f2) % 65536 := by simp [IntKind.wrap, IntKind.bits, IntKind.signed]
    rw [e]; unfold wrap64; omega
  have hb64 : wrap64 (IntKind.u16.wrap (f2 - a1)) = IntKind.u16.wrap (f2 - a1) := by
    have e : IntKind.u16.wrap (f2 - a1) = (f2 - a1) % 65536 := by simp [IntKind.wrap, IntKind.bits, IntKind.signed]
    rw [e]; unfold wrap64; omega
  have HA64 := Aside0.mk ha64
  have HB64 := Aside0.mk hb64
  clear ha64 hb64
  cases f1
  · go_enter Try.func13, Try.ntmps13
    go_wp2_with (first | ((with_reducible refine gate_dst (N := 37) rfl ?_); refine Kd.R_make Kd.bool (w0 := w) w.heap.size 4 ?hg (N := 37) ?hd 41 (.const (.int .i64 16)) (.const (.int .i64 16)) rfl 16 rfl rfl Try.underlying41 (.bool false) 1 info4 rfl (by decide) (by decide) false (ok := fun _ => True) (okp := fun _ => True) ?hz (fun _ _ => trivial) trivial (by decide) (by decide) ?aB ?aS ?_))
    case hd => rfl
    case hg => rfl
    case hz => rfl
    case aB => exact Below.refl _ _
    case aS => exact Nat.le_refl _
    intro v8 w8 ho hb hg_ hn1_ hn2_ hn3_
    have HO8 := Aside0.mk (show Kd.bool.R 4 w8 w.heap.size (fun _ => True) v8 (List.replicate 16 false) from ho)
    have HB8 := Aside0.mk hb
    clear ho hb hg_ hn2_ hn3_ hn1_ hcz_0 hfz_0 hcz_1 hcz_2
    obtain ⟨A8, c8, e8⟩ := Kd.R_slice HO8.out
    rw [List.length_replicate] at e8
    subst e8
    have HG8 := Aside0.mk (blk_below HGA.out HB8.out)
    have hcz8_0 := cellS43_0 HG8.out
    have hfz8_0 := blk_frozen HG8.out 0
    have hbr : baseR H false f2 a1 = List.replicate 16 false := by rfl
    have HIX := Aside0.mk (show IsR w0.heap.size (w8.setCell ⟨g, 0, none⟩ (.slice A8 16 c8)) g (baseR H false f2 a1) false f2 f3 by rw [hbr]; exact IsR.put HG8.out hge HO8.out)
    have HLX := Aside0.mk (show (baseR H false f2 a1).length = 16 by rw [hbr]; rfl)
    have HBX := Aside0.mk (below_set (g := g) (j := 0) (v := .slice A8 16 c8) (below_step HB.out HB8.out) hge)
    have HKX := Aside0.mk (KeepBut.set_ (KeepBut.of_grown (grown_of_below HB8.out none) g) 0 (.slice A8 16 c8))
    go_wp2_with (first | ((with_reducible refine gate_callee (f := 24) rfl ?_); refine goesL_ (some 71) rfl rfl Try.func24 (by kernel_rfl) rfl #[.pointer (some ⟨g, 0, none⟩), .bool true] rfl (by (try simp only [List.map_toArray, List.map_cons, List.map_nil]); first | done | rfl) ?_; (with_reducible refine (octroiref11_Neigh_in.calls g (baseR H false f2 a1) false f2 f3 true w0 _ ?side1 ?sideL ?side2).mono ?_); (case side1 => exact HIX.out); (case sideL => exact HLX.out); (case side2 => exact HBX.out); rintro e w9 ⟨rfl, hi, hb, hk⟩; refine ⟨_, rfl, ?_⟩; have HI9 := Aside0.mk hi; have HB9 := Aside0.mk hb; have HK9 := Aside0.mk hk; clear hi hb hk; obtain ⟨A9, c9, HG9, hc9, HC9⟩ := HI9.out.cell; have hcz9_1 := cellS43_1 HG9; have hcz9_2 := cellS43_2 HG9; have hfz9_1 := blk_frozen HG9 1; have hfz9_2 := blk_frozen HG9 2; clear HG9 HC9))
    first | go_end0 | ((try simp only [Exit.inBlock, Exit.then]); refine bodyPost_ret (results_none rfl _ _ _) rfl ?_)
    exact ⟨rfl, IsR.set2 (IsR.set1 HI9.out true) _, below_set (below_set HB9.out hge) hge, KeepBut.set_ (KeepBut.set_ (KeepBut.trans HKX.out HK9.out (.inl rfl)) 1 _) 2 _⟩
  · cases ca : decide (17 ≤ wrap64 (IntKind.u16.wrap (a1 - f2)))
    · have cl : IntKind.u16.wrap (a1 - f2) < 17 := by have := of_decide_eq_false ca; rw [HA64.out] at this; omega
      have ca2 : decide (wrap64 (IntKind.u16.wrap (a1 - f2)) < 17) = true := decide_eq_true (by rw [HA64.out]; exact cl)
      have c0 : 0 ≤ IntKind.u16.wrap (a1 - f2) := by
        have e : IntKind.u16.wrap (a1 - f2) = (a1 - f2) % 65536 := by simp [IntKind.wrap, IntKind.bits, IntKind.signed]
        rw [e]; omega
      have hm : ((IntKind.u16.wrap (a1 - f2)).toNat : Int) = IntKind.u16.wrap (a1 - f2) := Int.toNat_of_nonneg c0
      have HM := Aside0.mk hm
      have HCL := Aside0.mk cl
      clear hm cl c0
      go_enter Try.func13, Try.ntmps13
      go_wp2
      go_loopg [6] (IntKind.u16.wrap (a1 - f2)).toNat (fun kq v6 w' => ∃ i : Nat, v6 = .int .i64 (i : Int) ∧ Aside0 (i + kq = (IntKind.u16.wrap (a1 - f2)).toNat) ∧ Aside0 (IsR w0.heap.size w' g ((List.replicate i false ++ H).take 16) true f2 f3) ∧ Aside0 (Below w0.heap.size w0 w') ∧ Aside0 (KeepBut w w' g none))
      case atStart => exact ⟨0, rfl, ⟨by omega⟩, ⟨by rw [List.replicate_zero, List.nil_append, List.take_of_length_le (by have := HLn.out; omega)]; exact HI.out⟩, ⟨HB.out⟩, ⟨HK.out⟩⟩
      case round =>
        clear hcz_0 hcz_1 hcz_2 hfz_0
        obtain ⟨i, rfl, HN, HI6, HB6, HK6⟩ := hrel
        cases gk with
        | zero =>
          have hi : i = (IntKind.u16.wrap (a1 - f2)).toNat := by have := HN.out; omega
          have cx : decide ((i : Int) < wrap64 (IntKind.u16.wrap (a1 - f2))) = false := decide_eq_false (by rw [HA64.out]; have := HM.out; omega)
          have hbr : baseR H true f2 a1 = (List.replicate i false ++ H).take 16 := by
            unfold baseR; rw [if_pos rfl, if_neg (by have := HCL.out; omega), hi]
          have HIX := Aside0.mk (show IsR w0.heap.size wr g (baseR H true f2 a1) true f2 f3 by rw [hbr]; exact HI6.out)
          have HLX := Aside0.mk (show (baseR H true f2 a1).length = 16 by rw [hbr]; simp; have := HLn.out; omega)
          have HBX := HB6
          have HKX := HK6
          clear hi hbr
          go_wp2_with (first | ((with_reducible refine gate_callee (f := 24) rfl ?_); refine goesL_ (some 71) rfl rfl Try.func24 (by kernel_rfl) rfl #[.pointer (some ⟨g, 0, none⟩), .bool true] rfl (by (try simp only [List.map_toArray, List.map_cons, List.map_nil]); first | done | rfl) ?_; (with_reducible refine (octroiref11_Neigh_in.calls g (baseR H true f2 a1) true f2 f3 true w0 _ ?side1 ?sideL ?side2).mono ?_); (case side1 => exact HIX.out); (case sideL => exact HLX.out); (case side2 => exact HBX.out); rintro e w9 ⟨rfl, hi, hb, hk⟩; refine ⟨_, rfl, ?_⟩; have HI9 := Aside0.mk hi; have HB9 := Aside0.mk hb; have HK9 := Aside0.mk hk; clear hi hb hk; obtain ⟨A9, c9, HG9, hc9, HC9⟩ := HI9.out.cell; have hcz9_1 := cellS43_1 HG9; have hcz9_2 := cellS43_2 HG9; have hfz9_1 := blk_frozen HG9 1; have hfz9_2 := blk_frozen HG9 2; clear HG9 HC9))
          first | go_end0 | ((try simp only [Exit.inBlock, Exit.then]); refine bodyPost_ret (results_none rfl _ _ _) rfl ?_)
          exact ⟨rfl, IsR.set2 (IsR.set1 HI9.out true) _, below_set (below_set HB9.out hge) hge, KeepBut.set_ (KeepBut.set_ (KeepBut.trans HKX.out HK9.out (.inl rfl)) 1 _) 2 _⟩
        | succ k1 =>
          have cx : decide ((i : Int) < wrap64 (IntKind.u16.wrap (a1 - f2))) = true := decide_eq_true (by rw [HA64.out]; have := HM.out; have := HN.out; omega)
          have HL6 := Aside0.mk (show ((List.replicate i false ++ H).take 16).length = 16 by simp; have := HLn.out; omega)
          go_wp2_with (first | ((with_reducible refine gate_callee (f := 24) rfl ?_); refine goesL_ (some 48) rfl rfl Try.func24 (by kernel_rfl) rfl #[.pointer (some ⟨g, 0, none⟩), .bool false] rfl (by (try simp only [List.map_toArray, List.map_cons, List.map_nil]); first | done | rfl) ?_; (with_reducible refine (octroiref11_Neigh_in.calls g ((List.replicate i false ++ H).take 16) true f2 f3 false w0 _ ?side1 ?sideL ?side2).mono ?_); (case side1 => exact HI6.out); (case sideL => exact HL6.out); (case side2 => exact HB6.out); rintro e w7 ⟨rfl, hi, hb, hk⟩; refine ⟨_, rfl, ?_⟩; have HI7 := Aside0.mk hi; have HB7 := Aside0.mk hb; have HK7 := Aside0.mk hk; clear hi hb hk))
          go_roundg k1
          case measure => omega
          case rel => exact ⟨i + 1, (by rw [wrap64_nat i (by have := HN.out; have := HM.out; have := HCL.out; omega)]), ⟨by have := HN.out; omega⟩, ⟨by have q := HI7.out; rw [List.take_take] at q; exact q⟩, ⟨HB7.out⟩, ⟨KeepBut.trans HK6.out HK7.out (.inl rfl)⟩⟩
    · cases cb : decide (17 ≤ wrap64 (IntKind.u16.wrap (f2 - a1)))
      · have cl : IntKind.u16.wrap (f2 - a1) < 17 := by have := of_decide_eq_false cb; rw [HB64.out] at this; omega
        have cg : ¬ IntKind.u16.wrap (a1 - f2) < 17 := by have := of_decide_eq_true ca; rw [HA64.out] at this; omega
        have ca2 : decide (wrap64 (IntKind.u16.wrap (a1 - f2)) < 17) = false := decide_eq_false (by rw [HA64.out]; exact cg)
        have c0 : 0 ≤ IntKind.u16.wrap (f2 - a1) := by
          have e : IntKind.u16.wrap (f2 - a1) = (f2 - a1) % 65536 := by simp [IntKind.wrap, IntKind.bits, IntKind.signed]
          rw [e]; omega
        have hm : ((IntKind.u16.wrap (f2 - a1)).toNat : Int) = IntKind.u16.wrap (f2 - a1) := Int.toNat_of_nonneg c0
        have HM := Aside0.mk hm
        have HCL := Aside0.mk cl
        have HCG := Aside0.mk cg
        clear hm cl c0 cg
        go_enter Try.func13, Try.ntmps13
        go_wp2_with (first | ((with_reducible refine gate_builtin (b := .append) (xs := #[.const (.slice none 0 0), .tmp 52]) rfl ?_); at_builtin; refine Kd.R_append_rows Kd.bool (w0 := w) w.heap.size rfl (.const (.slice none 0 0)) (.tmp 52) 41 4 (.bool false) 1 rfl Try.underlying41 info4 rfl (by decide) (by omega) (.slice none 0 0) ([] : List Bool) H _ _ _ (fun _ => True) (fun _ => False) rfl rfl ?aO ?aR (fun _ _ h => h) (fun _ h => h.elim) ?aF ?aB ?aS ?aL ?_; (case aO => exact Kd.R_nil _ _ _ _ _); (case aR => exact HCA.out); (case aF => exact fun _ _ => trivial); (case aB => exact HBw.out); (case aS => exact Nat.le_refl _); (case aL => have := HLn.out; rw [this]; decide); intro v8 w8 ho hb hg_ hat; have HO8 := Aside0.mk (show Kd.bool.R 4 w8 w.heap.size (fun _ => True) v8 H from ho); have HB8 := Aside0.mk hb; clear ho hb hg_ hat))
        go_loopg [7, 8] (IntKind.u16.wrap (f2 - a1)).toNat (fun kq v7 v8 w' => ∃ (i : Nat) (Y : List Bool), v8 = .int .i64 (i : Int) ∧ Aside0 (i + kq = (IntKind.u16.wrap (f2 - a1)).toNat) ∧ Aside0 (Y = H ++ List.replicate i false) ∧ Aside0 (Kd.bool.R 4 w' w.heap.size (fun _ => True) v7 Y) ∧ Aside0 (Below w.heap.size w w'))
        case atStart => exact ⟨0, H, rfl, ⟨by omega⟩, ⟨by simp⟩, ⟨HO8.out⟩, ⟨HB8.out⟩⟩
        case round =>
          clear hcz_0 hcz_1 hcz_2 hfz_0
          obtain ⟨i, Y, rfl, HN, HY, HO7, HB7⟩ := hrel
          have HYL := Aside0.mk (show Y.length = 16 + i by rw [HY.out, List.length_append, List.length_replicate, HLn.out])
          cases gk with
          | zero =>
            have hi : i = (IntKind.u16.wrap (f2 - a1)).toNat := by have := HN.out; omega
            have HIE := Aside0.mk hi
            clear hi
            have cx : decide ((i : Int) < wrap64 (IntKind.u16.wrap (f2 - a1))) = false := decide_eq_false (by rw [HB64.out]; have := HM.out; have := HIE.out; omega)
            obtain ⟨A7, c7, e7, hc7, HC7⟩ := Kd.R_reads HO7.out
            subst e7
            have hcut := fun W : World => hello_cut A7 c7 Y i (wrap64 (IntKind.u16.wrap (f2 - a1))) (by rw [HB64.out, ← HM.out, HIE.out]) (by have h1 := HM.out; have h2 := HIE.out; have h3 := HCL.out; omega) HYL.out hc7 W
            have hbr : baseR H true f2 a1 = (Y.take (i + 16)).drop i := by
              unfold baseR
              rw [if_pos rfl, if_pos (by have := HCG.out; omega), if_neg (by have := HCL.out; omega), HY.out, HIE.out]
            have HC16 := Aside0.mk (hello_read HC7 HYL.out hc7)
            obtain ⟨inner, hown⟩ := Kd.R_own HO7.out
            have HTY := Aside0.mk (show ∀ ad, A7.map (·.add i) = some ad → ∃ cells, wr.heap[ad.block]? = some (.cells cells 4 (0, 0)) by
              intro ad he
              obtain ⟨ad0, e0, e1⟩ := Option.map_eq_some_iff.1 he
              rw [← e1, add_block]
              exact own_typed hown ad0.block (by rw [e0]; rfl))
            have HGr := Aside0.mk (blk_below HGA.out HB7.out)
            have hczr_0 := cellS43_0 HGr.out
            have hfzr_0 := blk_frozen HGr.out 0
            have HL16 := Aside0.mk (show ((Y.take (i + 16)).drop i).length = 16 by rw [List.length_drop, List.length_take]; have := HYL.out; omega)
            obtain ⟨A6, hA6⟩ : ∃ x, x = A7.map (·.add i) := ⟨_, rfl⟩
            rw [← hA6] at hcut HC16 HTY
            have HIX := Aside0.mk (show IsR w0.heap.size (wr.setCell ⟨g, 0, none⟩ (.slice A6 16 (c7 - i))) g (baseR H true f2 a1) true f2 f3 by
              rw [hbr]
              exact IsR.put' HGr.out hge HL16.out (hello_cap HYL.out hc7) HC16.out HTY.out)
            have HLX := Aside0.mk (show (baseR H true f2 a1).length = 16 by rw [hbr]; exact HL16.out)
            have HBX := Aside0.mk (below_set (g := g) (j := 0) (v := .slice A6 16 (c7 - i)) (below_step HB.out HB7.out) hge)
            have HKX := Aside0.mk (KeepBut.set_ (KeepBut.of_grown (grown_of_below HB7.out none) g) 0 (.slice A6 16 (c7 - i)))
            clear hbr hown HC7 hA6
            go_wp2_with (first | ((with_reducible refine gate_callee (f := 24) rfl ?_); refine goesL_ (some 71) rfl rfl Try.func24 (by kernel_rfl) rfl #[.pointer (some ⟨g, 0, none⟩), .bool true] rfl (by (try simp only [List.map_toArray, List.map_cons, List.map_nil]); first | done | rfl) ?_; (with_reducible refine (octroiref11_Neigh_in.calls g (baseR H true f2 a1) true f2 f3 true w0 _ ?side1 ?sideL ?side2).mono ?_); (case side1 => exact HIX.out); (case sideL => exact HLX.out); (case side2 => exact HBX.out); rintro e w9 ⟨rfl, hi, hb, hk⟩; refine ⟨_, rfl, ?_⟩; have HI9 := Aside0.mk hi; have HB9 := Aside0.mk hb; have HK9 := Aside0.mk hk; clear hi hb hk; obtain ⟨A9, c9, HG9, hc9, HC9⟩ := HI9.out.cell; have hcz9_1 := cellS43_1 HG9; have hcz9_2 := cellS43_2 HG9; have hfz9_1 := blk_frozen HG9 1; have hfz9_2 := blk_frozen HG9 2; clear HG9 HC9))
            first | go_end0 | ((try simp only [Exit.inBlock, Exit.then]); refine bodyPost_ret (results_none rfl _ _ _) rfl ?_)
            exact ⟨rfl, IsR.set2 (IsR.set1 HI9.out true) _, below_set (below_set HB9.out hge) hge, KeepBut.set_ (KeepBut.set_ (KeepBut.trans HKX.out HK9.out (.inl rfl)) 1 _) 2 _⟩
          | succ k1 =>
            have cx : decide ((i : Int) < wrap64 (IntKind.u16.wrap (f2 - a1))) = true := decide_eq_true (by rw [HB64.out]; have := HM.out; have := HN.out; omega)
            go_wp2_with (first | ((with_reducible refine gate_builtin (b := .append) (xs := #[.tmp 59, .tmp 60]) rfl ?_); at_builtin; refine Kd.R_append Kd.bool (w0 := w) w.heap.size rfl (.tmp 59) (.tmp 60) 41 4 (.bool false) 1 rfl Try.underlying41 info4 rfl (by decide) (by omega) _ Y false [.bool false] (fun _ => True) (fun _ => False) rfl rfl ?aP (fun _ hk => hk.elim) ?aF ?aO ?aB ?aS ?aL ?_; (case aP => exact rfl); (case aF => exact fun _ _ => trivial); (case aO => exact HO7.out); (case aB => exact HB7.out); (case aS => exact HB7.out.size); (case aL => have h1 := HYL.out; have h2 := HN.out; have h3 := HM.out; have h4 := HCL.out; omega); intro v9 w9 ho hb hg_ hat; have HO9 := Aside0.mk ho; have HB9 := Aside0.mk hb; clear ho hb hg_ hat))
            go_roundg k1
            case measure => omega
            case rel => exact ⟨i + 1, Y ++ [false], (by rw [wrap64_nat i (by have := HN.out; have := HM.out; have := HCL.out; omega)]), ⟨by have := HN.out; omega⟩, ⟨by rw [HY.out, List.append_assoc, ← List.replicate_succ']⟩, ⟨HO9.out⟩, ⟨HB9.out⟩⟩
      · go_enter Try.func13, Try.ntmps13
        go_wp2_with (first | ((with_reducible refine gate_dst (N := 37) rfl ?_); refine Kd.R_make Kd.bool (w0 := w) w.heap.size 4 ?hg (N := 37) ?hd 41 (.const (.int .i64 16)) (.const (.int .i64 16)) rfl 16 rfl rfl Try.underlying41 (.bool false) 1 info4 rfl (by decide) (by decide) false (ok := fun _ => True) (okp := fun _ => True) ?hz (fun _ _ => trivial) trivial (by decide) (by decide) ?aB ?aS ?_))
        case hd => rfl
        case hg => rfl
        case hz => rfl
        case aB => exact Below.refl _ _
        case aS => exact Nat.le_refl _
        intro v8 w8 ho hb hg_ hn1_ hn2_ hn3_
        have HO8 := Aside0.mk (show Kd.bool.R 4 w8 w.heap.size (fun _ => True) v8 (List.replicate 16 false) from ho)
        have HB8 := Aside0.mk hb
        clear ho hb hg_ hn2_ hn3_ hn1_ hcz_0 hfz_0 hcz_1 hcz_2
        obtain ⟨A8, c8, e8⟩ := Kd.R_slice HO8.out
        rw [List.length_replicate] at e8
        subst e8
        have HG8 := Aside0.mk (blk_below HGA.out HB8.out)
        have hcz8_0 := cellS43_0 HG8.out
        have hfz8_0 := blk_frozen HG8.out 0
        have hbr : baseR H true f2 a1 = List.replicate 16 false := by unfold baseR; rw [if_pos rfl, if_pos (by have := of_decide_eq_true ca; rw [HA64.out] at this; exact this), if_pos (by have := of_decide_eq_true cb; rw [HB64.out] at this; exact this)]
        have HIX := Aside0.mk (show IsR w0.heap.size (w8.setCell ⟨g, 0, none⟩ (.slice A8 16 c8)) g (baseR H true f2 a1) true f2 f3 by rw [hbr]; exact IsR.put HG8.out hge HO8.out)
        have HLX := Aside0.mk (show (baseR H true f2 a1).length = 16 by rw [hbr]; rfl)
        have HBX := Aside0.mk (below_set (g := g) (j := 0) (v := .slice A8 16 c8) (below_step HB.out HB8.out) hge)
        have HKX := Aside0.mk (KeepBut.set_ (KeepBut.of_grown (grown_of_below HB8.out none) g) 0 (.slice A8 16 c8))
        go_wp2_with (first | ((with_reducible refine gate_callee (f := 24) rfl ?_); refine goesL_ (some 71) rfl rfl Try.func24 (by kernel_rfl) rfl #[.pointer (some ⟨g, 0, none⟩), .bool true] rfl (by (try simp only [List.map_toArray, List.map_cons, List.map_nil]); first | done | rfl) ?_; (with_reducible refine (octroiref11_Neigh_in.calls g (baseR H true f2 a1) true f2 f3 true w0 _ ?side1 ?sideL ?side2).mono ?_); (case side1 => exact HIX.out); (case sideL => exact HLX.out); (case side2 => exact HBX.out); rintro e w9 ⟨rfl, hi, hb, hk⟩; refine ⟨_, rfl, ?_⟩; have HI9 := Aside0.mk hi; have HB9 := Aside0.mk hb; have HK9 := Aside0.mk hk; clear hi hb hk; obtain ⟨A9, c9, HG9, hc9, HC9⟩ := HI9.out.cell; have hcz9_1 := cellS43_1 HG9; have hcz9_2 := cellS43_2 HG9; have hfz9_1 := blk_frozen HG9 1; have hfz9_2 := blk_frozen HG9 2; clear HG9 HC9))
        first | go_end0 | ((try simp only [Exit.inBlock, Exit.then]); refine bodyPost_ret (results_none rfl _ _ _) rfl ?_)
        exact ⟨rfl, IsR.set2 (IsR.set1 HI9.out true) _, below_set (below_set HB9.out hge) hge, KeepBut.set_ (KeepBut.set_ (KeepBut.trans HKX.out HK9.out (.inl rfl)) 1 _) 2 _⟩
end Go.Proofs.Ytchmcmioilmnpaa.L
