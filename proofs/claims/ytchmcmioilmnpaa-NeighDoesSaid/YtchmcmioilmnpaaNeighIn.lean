/- The reference's 'in', Miss and New: walked by hand. -/
import Derived.Test.YtchmcmioilmnpaaNeighRef
namespace Go.Proofs.Ytchmcmioilmnpaa.L
open Go.Proofs.YtchmcmioilmnpaaLab
open Go.RowKit Go.Proofs.YtchmcmioilmnpaaW.PrintWords Go.Proofs.YtchmcmioilmnpaaW.PrintLast Go.Proofs.YtchmcmioilmnpaaW.PrintMore
attribute [local go_sem] max2_int min2_int max_two min_two max_three min_three max_four min_four
set_option linter.unusedVariables false
set_option linter.unusedSimpArgs false

set_option maxHeartbeats 8000000 in
set_option maxRecDepth 100000 in
theorem octroiref11_Neigh_in.calls (g : Nat) (H : List Bool) (f1 : Bool) (f2 f3 : Int) (x : Bool) (w0 w : World) (hI : IsR w0.heap.size w g H f1 f2 f3) (hL : H.length = 16) (hB : Below w0.heap.size w0 w) :
    Calls Try.prog 24 #[.pointer (some ⟨g, 0, none⟩), .bool x] w fun e w' => e = .returned (.tuple #[]) ∧ IsR w0.heap.size w' g (x :: H.take 15) f1 f2 f3 ∧ Below w0.heap.size w0 w' ∧ KeepBut w w' g none := by
  have HI := Aside0.mk hI
  have HB := Aside0.mk hB
  have HK := Aside0.mk (KeepBut.refl w g none)
  have HBw := Aside0.mk (Below.refl w.heap.size w)
  have HLn := Aside0.mk hL
  clear hI hB hL
  obtain ⟨i069, hi069, _, hsz69, _⟩ := info_parts info4
  go_enter Try.func24, Try.ntmps24
  go_wp2_with (first | ((with_reducible refine gate_dst (N := 6) rfl ?_); refine Kd.R_lit Kd.bool _ 4 ?hg (N := 6) ?hd (xs := ([x] : List Bool)) (inner := [.bool x]) (ok := fun _ => True) (okp := fun _ => True) ?hr ?hp (fun _ hk => hk) trivial (Below.refl _ _) (Nat.le_refl _) (by simp) ?_; (case hd => rfl); (case hg => rfl); (case hr => first | (go_simp; done) | (go_simp; rfl)); (case hp => exact (Reps.one (show Kd.M Kd.bool _ _ _ x [.bool x] from rfl) (Reps.none _ _))); intro v7 w7 ho hb hg_ hnew_; have HO := Aside0.mk ho; have HB7 := Aside0.mk hb; clear ho hb hg_ hnew_; obtain ⟨Ao, co, eo⟩ := Kd.R_slice HO.out; subst eo; have HI7 := Aside0.mk (IsR.below HI.out HB7.out); obtain ⟨A, c, HG, hg, hc, HC, hA⟩ := HI7.out; have HG7 := Aside0.mk HG; have HC7 := Aside0.mk HC; obtain ⟨hcut, hA69, hC69⟩ := print_take_of (P := Try.prog) Value.bool false 41 4 .i64 Try.underlying41 hi069 hsz69 A c H 15 (by omega) (by have := HLn.out; omega) hc; have hcz := cellS43_0 HG; have hfz := blk_frozen HG 0; have HR := Aside0.mk (Kd.C_of_reads (h1 := fun _ => rfl) (hA69 _ (Kd.reads_of_C HC))); clear HG HC hA69) | ((with_reducible refine gate_builtin (b := .append) (xs := #[.tmp 7, .tmp 12]) rfl ?_); at_builtin; refine Kd.R_append_rows Kd.bool (w0 := w) w.heap.size rfl (.tmp 7) (.tmp 12) 41 4 (.bool false) 1 rfl Try.underlying41 info4 rfl (by decide) (by omega) _ [x] (H.take (Int.toNat 15)) _ _ _ (fun _ => True) (fun _ => False) rfl rfl ?aO ?aR (fun _ _ h => h) (fun _ h => h.elim) ?aF ?aB ?aS ?aL ?_))
  case aO => exact HO.out
  case aR => have q := HR.out; rw [List.length_take] at q; exact q
  case aF => exact fun _ _ => trivial
  case aB => exact HB7.out
  case aS => exact HB7.out.size
  case aL => have := HLn.out; simp; omega
  intro v8 w8 ho hb hg_ hat
  have HG8 := Aside0.mk (blk_grown HG7.out hg_ (Kd.R_ne HO.out HG7.out (by decide)))
  have HO8 := Aside0.mk ho
  have HB8 := Aside0.mk hb
  clear ho hb hg_ hat hcz hfz
  have hcz := cellS43_0 HG8.out
  have hfz := blk_frozen HG8.out 0
  obtain ⟨A8, c8, e8⟩ := Kd.R_slice HO8.out
  have HK8 := Aside0.mk (KeepBut.of_grown (grown_of_below HB8.out none) g)
  have HW8 := Aside0.mk (below_step HB.out HB8.out)
  subst e8
  go_wp2
  first | go_end0 | ((try simp only [Exit.inBlock, Exit.then]); refine bodyPost_ret (results_none rfl _ _ _) rfl ?_)
  exact ⟨rfl, by have q := IsR.put HG8.out hg HO8.out; simpa only [List.length_cons, List.length_take] using q, below_set HW8.out hg, KeepBut.set_ HK8.out 0 _⟩

set_option maxHeartbeats 8000000 in
set_option maxRecDepth 100000 in
theorem octroiref11_Neigh_Miss.calls (g : Nat) (H : List Bool) (f1 : Bool) (f2 f3 : Int) (w0 w : World) (hI : IsR w0.heap.size w g H f1 f2 f3) (hL : H.length = 16) (hB : Below w0.heap.size w0 w) :
    Calls Try.prog 15 #[.pointer (some ⟨g, 0, none⟩)] w fun e w' => e = .returned (.tuple #[]) ∧ IsR w0.heap.size w' g (if f1 = true then false :: H.take 15 else H) f1 (if f1 = true then IntKind.u16.wrap (f2 + 1) else f2) f3 ∧ Below w0.heap.size w0 w' ∧ KeepBut w w' g none := by
  have HI := Aside0.mk hI
  have HB := Aside0.mk hB
  have HK := Aside0.mk (KeepBut.refl w g none)
  have HLn := Aside0.mk hL
  clear hI hB hL
  obtain ⟨A, c, HG, hc, HC⟩ := HI.out.cell
  have hcz_1 := cellS43_1 HG
  clear HG HC
  cases f1
  · go_enter Try.func15, Try.ntmps15
    go_wp2
    first | go_end0 | ((try simp only [Exit.inBlock, Exit.then]); refine bodyPost_ret (results_none rfl _ _ _) rfl ?_)
    exact ⟨rfl, HI.out, HB.out, HK.out⟩
  · go_enter Try.func15, Try.ntmps15
    go_wp2_with (first | ((with_reducible refine gate_callee (f := 24) rfl ?_); refine goesL_ (some 7) rfl rfl Try.func24 (by kernel_rfl) rfl #[.pointer (some ⟨g, 0, none⟩), .bool false] rfl (by (try simp only [List.map_toArray, List.map_cons, List.map_nil]); first | done | rfl) ?_; (with_reducible refine (octroiref11_Neigh_in.calls g H true f2 f3 false w0 _ ?side1 HLn.out ?side2).mono ?_); (case side1 => exact HI.out); (case side2 => exact HB.out); rintro e w8 ⟨rfl, hi, hb, hk⟩; refine ⟨_, rfl, ?_⟩; have HI8 := Aside0.mk hi; have HB8 := Aside0.mk hb; have HK8 := Aside0.mk hk; clear hi hb hk; obtain ⟨A8, c8, HG8, hc8, HC8⟩ := HI8.out.cell; have hcz8_2 := cellS43_2 HG8; have hfz8_2 := blk_frozen HG8 2; clear HG8 HC8))
    first | go_end0 | ((try simp only [Exit.inBlock, Exit.then]); refine bodyPost_ret (results_none rfl _ _ _) rfl ?_)
    exact ⟨rfl, IsR.set2 HI8.out _, below_set HB8.out HI8.out.ge, KeepBut.set_ HK8.out 2 _⟩
set_option maxHeartbeats 8000000 in
set_option maxRecDepth 100000 in
theorem octroiref11_New.calls (w0 w : World) (hB : Below w0.heap.size w0 w) :
    Calls Try.prog 11 #[] w fun e w' => ∃ g_ : Nat, e = .returned (.pointer (some ⟨g_, 0, none⟩)) ∧ IsR w0.heap.size w' g_ (List.replicate 16 false) false 0 65535 ∧ Below w0.heap.size w0 w' ∧ Below w.heap.size w w' := by
  have hu43 := Try.underlying43
  have HBW := Aside0.mk (Below.refl w.heap.size w)
  have HB := Aside0.mk hB
  clear hB
  go_enter Try.func11, Try.ntmps11
  go_wp2_with (first | ((with_reducible refine gate_dst (N := 1) rfl ?_); refine Kd.R_make Kd.bool (w0 := w) w.heap.size 4 ?hg (N := 1) ?hd 41 (.const (.int .i64 16)) (.const (.int .i64 16)) rfl 16 rfl rfl Try.underlying41 (.bool false) 1 info4 rfl (by decide) (by decide) false (ok := fun _ => True) (okp := fun _ => True) ?hz (fun _ _ => trivial) trivial (by decide) (by decide) ?aB ?aS ?_; (case hd => rfl); (case hg => rfl); (case hz => rfl); (case aB => exact Below.refl _ _); (case aS => exact Nat.le_refl _); intro v1 w1 ho hb hg_ hnew_; have HO := Aside0.mk ho; have HB1 := Aside0.mk hb; clear ho hb hg_ hnew_; obtain ⟨A1, c1, e1⟩ := Kd.R_slice HO.out; rw [List.length_replicate] at e1; subst e1) | ((with_reducible refine gate_dst (N := 3) rfl ?_); refine box_event ?hg (N := 3) ?hd (cs := #[.slice A1 (Int.toNat 16) c1, .bool false, .int .u16 0, .int .i64 65535]) (t := 43) ?hr ?_; (case hd => rfl); (case hg => rfl); (case hr => first | (go_simp; done) | (go_simp; rfl)); intro gb hg w2 hbox hb; have BK := Aside0.mk hbox; have HB2 := Aside0.mk hb; have HGB := Aside0.mk hg; clear hbox hb hg))
  go_ret
  have hA := Kd.R_below HO.out HB2.out
  have hsz : w0.heap.size ≤ gb := by rw [HGB.out]; exact Nat.le_trans HB.out.size HB1.out.size
  obtain ⟨A', c', he, hc', hC'⟩ := Kd.R_reads hA
  rw [List.length_replicate] at he hC' hc'
  injection he with e1 e2 e3
  subst e1
  subst e3
  refine ⟨_, rfl, ⟨A1, c1, BK.out, hsz, by rw [List.length_replicate]; exact hc', by rw [List.length_replicate]; exact hC', fun ad he => ?_⟩, below_step (below_step HB.out HB1.out) HB2.out, below_step HB1.out HB2.out⟩
  obtain ⟨inner, hown⟩ := Kd.R_own hA
  exact own_typed hown ad.block (by subst he; rfl)
end Go.Proofs.Ytchmcmioilmnpaa.L
