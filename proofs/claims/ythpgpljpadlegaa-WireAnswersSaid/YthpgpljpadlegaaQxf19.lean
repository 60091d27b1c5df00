/- By a program of this session, out of the translation as Lean prints it: what the Go code computes, and that it does. -/
import Derived.Test.YthpgpljpadlegaaQx0
import Derived.Test.YthpgpljpadlegaaQxf17
import Derived.Test.YthpgpljpadlegaaQxf30
import Derived.Test.YthpgpljpadlegaaQxf32
namespace Go.Proofs.Ythpgpljpadlegaa.Q
open Go.RowKit Go.Proofs.YthpgpljpadlegaaW.PrintWords Go.Proofs.YthpgpljpadlegaaW.PrintLast Go.Proofs.YthpgpljpadlegaaW.PrintMore
attribute [local go_sem] max2_int min2_int max_two min_two max_three min_three max_four min_four Aid.leq_str Aid.gtr_str Aid.geq_str   -- for this text's walks alone
set_option linter.unusedVariables false
set_option linter.unusedSimpArgs false

/-! ### wire_Ask_Encode: function 19 -/
def wire_Ask_Encode.l0 : Nat → List Int → List ByteArray → Int → Int → Int → ByteArray → ByteArray → ByteArray → ByteArray → Int → Int → Option (ByteArray × Int)
  | 0, _, _, _, _, _, _, _, _, _, _, _ => none
  | k + 1, x4, x21, x22, x23, x377000, x377001, x377002, x377003, x377004, x377005, x377006 => if x23 < x22 then (if 0 ≤ x23 then (if x23 < (x21.length : Int) then ((octet_Text.f k x4 (rdOf ByteArray.empty x21 x23)).bind fun t385 => (wire_Ask_Encode.l0 k t385 x21 x22 (wrap64 (x23 + 1)) x377000 x377001 x377002 x377003 x377004 x377005 x377006)) else (none)) else (none)) else ((octet_Num.f k x4 x377005).bind fun t388 => ((octet_Num.f k t388 x377006).bind fun t391 => (some (strOfNums t391, 0))))
def wire_Ask_Encode.f (k : Nat) (a0_0 : Int) (a0_1 : ByteArray) (a0_2 : ByteArray) (a0_3 : ByteArray) (a0_4 : ByteArray) (a0_5 : Int) (a0_6 : Int) : Option (ByteArray × Int) := (wire_Ask_Right.f a0_0 a0_1 a0_2 a0_3 a0_4 a0_5 a0_6).bind fun t377 => (if t377 = true then ((octet_Num.f k ([] : List Int) a0_0).bind fun t378 => ((some (([a0_1, a0_2, a0_3, a0_4] : List ByteArray) : List ByteArray)).bind fun y381 => (wire_Ask_Encode.l0 k t378 y381 (y381.length : Int) 0 a0_0 a0_1 a0_2 a0_3 a0_4 a0_5 a0_6))) else (some ((⟨#[]⟩ : ByteArray), 1)))
theorem wire_Ask_Encode.mono_l : ∀ k, (∀ y0 y1 y2 y3 y4 y5 y6 y7 y8 y9 y10, LeO (wire_Ask_Encode.l0 k y0 y1 y2 y3 y4 y5 y6 y7 y8 y9 y10) (wire_Ask_Encode.l0 (k + 1) y0 y1 y2 y3 y4 y5 y6 y7 y8 y9 y10))
  | 0 => fun _ _ _ _ _ _ _ _ _ _ _ r h => by simp [wire_Ask_Encode.l0] at h
  | k + 1 => by
    have ih0 := wire_Ask_Encode.mono_l k
    · intro y0 y1 y2 y3 y4 y5 y6 y7 y8 y9 y10
      unfold wire_Ask_Encode.l0
      repeat' first
      | (with_reducible exact ih0 _ _ _ _ _ _ _ _ _ _ _)
      | (with_reducible exact octet_Num.mono _ _ _)
      | (with_reducible exact octet_Text.mono _ _ _)
      | (with_reducible exact LeO.refl _)
      | (with_reducible exact LeO.none _)
      | (with_reducible refine LeO.ite ?_ ?_)
      | (with_reducible refine LeO.bind ?_ (fun _ => ?_))
      | exact ih0 _ _ _ _ _ _ _ _ _ _ _
      | exact octet_Num.mono _ _ _
      | exact octet_Text.mono _ _ _
      | exact LeO.none _
      | refine LeO.ite ?_ ?_
      | refine LeO.bind ?_ (fun _ => ?_)
theorem wire_Ask_Encode.mono : ∀ a0 a1 a2 a3 a4 a5 a6 k, LeO (wire_Ask_Encode.f k a0 a1 a2 a3 a4 a5 a6) (wire_Ask_Encode.f (k + 1) a0 a1 a2 a3 a4 a5 a6) := by
  intro a0 a1 a2 a3 a4 a5 a6 k
  have ih0 := wire_Ask_Encode.mono_l k
  unfold wire_Ask_Encode.f
  repeat' first
      | (with_reducible exact ih0 _ _ _ _ _ _ _ _ _ _ _)
      | (with_reducible exact octet_Num.mono _ _ _)
      | (with_reducible exact octet_Text.mono _ _ _)
      | (with_reducible exact LeO.refl _)
      | (with_reducible exact LeO.none _)
      | (with_reducible refine LeO.ite ?_ ?_)
      | (with_reducible refine LeO.bind ?_ (fun _ => ?_))
      | exact ih0 _ _ _ _ _ _ _ _ _ _ _
      | exact octet_Num.mono _ _ _
      | exact octet_Text.mono _ _ _
      | exact LeO.none _
      | refine LeO.ite ?_ ?_
      | refine LeO.bind ?_ (fun _ => ?_)
def wire_Ask_Encode.T9 : Bool × List (List Nat × List Nat) := (true, [([], []), ([], []), ([1], [1]), ([0, 2], [0, 2]), ([], []), ([4], [4]), ([3, 5, 3], [3, 5]), ([6], [6]), ([7, 6, 0, 1, 2, 3, 4, 5, 6, 7], [7]), ([8, 0, 1, 2, 3, 4, 5, 6, 7, 8], [])])
def wire_Ask_Encode.B9 : List Nat := [0, 0, 2, 7, 0, 16, 63, 127, 255, 511]
theorem wire_Ask_Encode.tab9 : rtab .any (opsOf Try.f19 9) = wire_Ask_Encode.T9 := by kernel_rfl
theorem wire_Ask_Encode.bits9 : waitsOk wire_Ask_Encode.T9.2 wire_Ask_Encode.B9 = true := by kernel_rfl
set_option maxHeartbeats 8000000 in
set_option maxRecDepth 100000 in
theorem wire_Ask_Encode.calls (k : Nat) (a0_0 : Int) (a0_1 : ByteArray) (a0_2 : ByteArray) (a0_3 : ByteArray) (a0_4 : ByteArray) (a0_5 : Int) (a0_6 : Int) (r1 : ByteArray) (r2 : Int) (w : World) (h : wire_Ask_Encode.f k a0_0 a0_1 a0_2 a0_3 a0_4 a0_5 a0_6 = some (r1, r2)) :
    Calls Try.prog 19 #[.agg #[.int .i64 a0_0, .string a0_1, .string a0_2, .string a0_3, .string a0_4, .int .i64 a0_5, .int .i64 a0_6]] w fun e w' => e = .returned (.tuple #[.string r1, .int .i64 r2]) ∧ Below w.heap.size w w' := by
  have hu30 := Try.underlying30
  have HB := Aside0.mk (Below.refl w.heap.size w)
  have H : ((wire_Ask_Right.f a0_0 a0_1 a0_2 a0_3 a0_4 a0_5 a0_6).bind fun t377 => (if t377 = true then ((octet_Num.f k ([] : List Int) a0_0).bind fun t378 => ((some (([a0_1, a0_2, a0_3, a0_4] : List ByteArray) : List ByteArray)).bind fun y381 => (wire_Ask_Encode.l0 k t378 y381 (y381.length : Int) 0 a0_0 a0_1 a0_2 a0_3 a0_4 a0_5 a0_6))) else (some ((⟨#[]⟩ : ByteArray), 1)))) = some (r1, r2) := h
  clear h
  replace H := Option.bind_eq_some_iff.mp H
  obtain ⟨t377, A20, H⟩ := H
  replace H : (if t377 = true then ((octet_Num.f k ([] : List Int) a0_0).bind fun t378 => ((some (([a0_1, a0_2, a0_3, a0_4] : List ByteArray) : List ByteArray)).bind fun y381 => (wire_Ask_Encode.l0 k t378 y381 (y381.length : Int) 0 a0_0 a0_1 a0_2 a0_3 a0_4 a0_5 a0_6))) else (some ((⟨#[]⟩ : ByteArray), 1))) = some (r1, r2) := H
  have A2 := Aside0.mk A20
  clear A20
  by_cases c3 : t377 = true
  · subst c3
    have H1 : ((octet_Num.f k ([] : List Int) a0_0).bind fun t378 => ((some (([a0_1, a0_2, a0_3, a0_4] : List ByteArray) : List ByteArray)).bind fun y381 => (wire_Ask_Encode.l0 k t378 y381 (y381.length : Int) 0 a0_0 a0_1 a0_2 a0_3 a0_4 a0_5 a0_6))) = some (r1, r2) := by rw [if_pos rfl] at H; exact H
    clear H
    have H := H1
    clear H1
    replace H := Option.bind_eq_some_iff.mp H
    obtain ⟨t378, A40, H⟩ := H
    replace H : ((some (([a0_1, a0_2, a0_3, a0_4] : List ByteArray) : List ByteArray)).bind fun y381 => (wire_Ask_Encode.l0 k t378 y381 (y381.length : Int) 0 a0_0 a0_1 a0_2 a0_3 a0_4 a0_5 a0_6)) = some (r1, r2) := H
    have A4 := Aside0.mk A40
    clear A40
    obtain ⟨y381, hy381⟩ : ∃ y_ : List ByteArray, y_ = (([a0_1, a0_2, a0_3, a0_4] : List ByteArray)) := ⟨_, rfl⟩
    replace H : (wire_Ask_Encode.l0 k t378 y381 (y381.length : Int) 0 a0_0 a0_1 a0_2 a0_3 a0_4 a0_5 a0_6) = some (r1, r2) := by first | (rw [hy381]; with_reducible exact H) | (have H2_ := (Option.bind_some _ _).symm.trans H; rw [hy381]; with_reducible exact H2_) | (have H2_ := (Option.bind_some _ _).symm.trans H; with_reducible exact H2_) | with_reducible exact H | (rw [hy381]; exact H) | exact H
    have Ny381 := Aside0.mk hy381
    clear hy381
    have H' := Aside0.mk H
    clear H
    go_enter Try.func19, Try.ntmps19
    go_wp2_with (first | ((with_reducible refine gate_dst (N := 1) rfl ?_); refine box_event ?hg (N := 1) ?hd (cs := #[.int .i64 a0_0, .string a0_1, .string a0_2, .string a0_3, .string a0_4, .int .i64 a0_5, .int .i64 a0_6]) (t := 30) ?hr ?_; (case hd => rfl); (case hg => rfl); (case hr => first | (go_simp; done) | (go_simp; rfl)); intro gb376 hg w5 hbox hb; have n0_ := Aside0.mk (below_step (by repeat (first | (with_reducible first | exact HB.out | apply below_alloc | apply pw_below_drewN | apply below_drew1) | exact HB.out)) hb); have n1_ := Aside0.mk (hbox); have n2_ := Aside0.mk ((by rw [hg]; exact (below_size (by repeat (first | (with_reducible first | exact HB.out | apply below_alloc | apply pw_below_drewN | apply below_drew1) | exact HB.out))) : w.heap.size ≤ gb376)); have n3_ := Aside0.mk ((by rw [hg]; exact (below_size (by repeat (first | (with_reducible first | exact HB.out | apply below_alloc | apply pw_below_drewN | apply below_drew1) | exact HB.out))) : w.heap.size ≤ gb376)); clear HB; have HB := n0_; have BK376 := n1_; have GW376 := n2_; have GE376 := n3_; clear n0_ n1_ n2_ n3_; clear hb hbox hg; have hcz6_0 : w5.cell? ⟨gb376, 0, none⟩ = some (.int .i64 a0_0) := (blk_cell BK376.out 0).trans rfl; have hcz6_1 : w5.cell? ⟨gb376, 1, none⟩ = some (.string a0_1) := (blk_cell BK376.out 1).trans rfl; have hcz6_2 : w5.cell? ⟨gb376, 2, none⟩ = some (.string a0_2) := (blk_cell BK376.out 2).trans rfl; have hcz6_3 : w5.cell? ⟨gb376, 3, none⟩ = some (.string a0_3) := (blk_cell BK376.out 3).trans rfl; have hcz6_4 : w5.cell? ⟨gb376, 4, none⟩ = some (.string a0_4) := (blk_cell BK376.out 4).trans rfl; have hcz6_5 : w5.cell? ⟨gb376, 5, none⟩ = some (.int .i64 a0_5) := (blk_cell BK376.out 5).trans rfl; have hcz6_6 : w5.cell? ⟨gb376, 6, none⟩ = some (.int .i64 a0_6) := (blk_cell BK376.out 6).trans rfl; have hfz6_0 := blk_frozen BK376.out 0; have hfz6_1 := blk_frozen BK376.out 1; have hfz6_2 := blk_frozen BK376.out 2; have hfz6_3 := blk_frozen BK376.out 3; have hfz6_4 := blk_frozen BK376.out 4; have hfz6_5 := blk_frozen BK376.out 5; have hfz6_6 := blk_frozen BK376.out 6) | ((with_reducible refine gate_callee (f := 32) rfl ?_); refine goesL_ (some 8) rfl rfl Try.func32 (by kernel_rfl) rfl #[.agg #[.int .i64 a0_0, .string a0_1, .string a0_2, .string a0_3, .string a0_4, .int .i64 a0_5, .int .i64 a0_6]] rfl (by (try simp only [List.map_toArray, List.map_cons, List.map_nil]); first | done | rfl | (simp only [List.length_drop, List.length_take]; rfl)) ?_; (with_reducible refine (wire_Ask_Right.calls a0_0 a0_1 a0_2 a0_3 a0_4 a0_5 a0_6 true _ A2.out).mono ?_); rintro e w7 ⟨rfl, hb⟩; refine ⟨_, rfl, ?_⟩; have n0_ := Aside0.mk (blk_below (g := gb376) (o := .cells #[.int .i64 a0_0, .string a0_1, .string a0_2, .string a0_3, .string a0_4, .int .i64 a0_5, .int .i64 a0_6] 30 (0, 0)) (by (with_reducible repeat (first | refine blk_drewN ?_ _ | refine blk_drew ?_ | refine blk_alloc ?_ _)); exact BK376.out) hb); have n1_ := Aside0.mk (below_step (by repeat (first | (with_reducible first | exact HB.out | apply below_alloc | apply pw_below_drewN | apply below_drew1 | refine below_set ?_ GE376.out) | exact HB.out)) hb); clear BK376; clear HB; have BK376 := n0_; have HB := n1_; clear n0_ n1_; (try clear hb); (try clear hb2); (try clear hk); (try clear hi); have hcz8_0 : w7.cell? ⟨gb376, 0, none⟩ = some (.int .i64 a0_0) := (blk_cell BK376.out 0).trans rfl; have hcz8_1 : w7.cell? ⟨gb376, 1, none⟩ = some (.string a0_1) := (blk_cell BK376.out 1).trans rfl; have hcz8_2 : w7.cell? ⟨gb376, 2, none⟩ = some (.string a0_2) := (blk_cell BK376.out 2).trans rfl; have hcz8_3 : w7.cell? ⟨gb376, 3, none⟩ = some (.string a0_3) := (blk_cell BK376.out 3).trans rfl; have hcz8_4 : w7.cell? ⟨gb376, 4, none⟩ = some (.string a0_4) := (blk_cell BK376.out 4).trans rfl; have hcz8_5 : w7.cell? ⟨gb376, 5, none⟩ = some (.int .i64 a0_5) := (blk_cell BK376.out 5).trans rfl; have hcz8_6 : w7.cell? ⟨gb376, 6, none⟩ = some (.int .i64 a0_6) := (blk_cell BK376.out 6).trans rfl; have hfz8_0 := blk_frozen BK376.out 0; have hfz8_1 := blk_frozen BK376.out 1; have hfz8_2 := blk_frozen BK376.out 2; have hfz8_3 := blk_frozen BK376.out 3; have hfz8_4 := blk_frozen BK376.out 4; have hfz8_5 := blk_frozen BK376.out 5; have hfz8_6 := blk_frozen BK376.out 6) | ((with_reducible refine gate_callee (f := 17) rfl ?_); refine goesL_ (some 12) rfl rfl Try.func17 (by kernel_rfl) rfl #[.slice none 0 0, .int .i64 a0_0] rfl (by (try simp only [List.map_toArray, List.map_cons, List.map_nil]); first | done | rfl | (simp only [List.length_drop, List.length_take]; rfl)) ?_; (refine (octet_Num.calls k (fun k_ => some k_ = (.slice none 0 0 : Value).ownBlock) (.slice none 0 0) ([] : List Int) a0_0 t378 w _ ?side1 ?side2 A4.out).mono ?_); (case side1 => repeat (first | (with_reducible first | exact HB.out | apply below_alloc | apply pw_below_drewN | apply below_drew1 | refine below_set ?_ GE376.out) | exact HB.out)); (case side2 => exact Kd.R_nil _ _ _ _ _); rintro e w9 ⟨v379, rfl, ho0, hb, hkp⟩; refine ⟨_, rfl, ?_⟩; have n0_ := Aside0.mk (blk_kept (by (with_reducible repeat (first | refine blk_drewN ?_ _ | refine blk_drew ?_ | refine blk_alloc ?_ _)); exact BK376.out) hkp (fun hs_ => (fun e_ => by simp [Value.ownBlock] at e_) hs_)); have n1_ := Aside0.mk (Kd.R_mono (ok' := fun k_ => True) ho0 (fun k_ hk_ => trivial)); have n2_ := Aside0.mk (hb); clear BK376; clear HB; have BK376 := n0_; have HO380 := n1_; have HB := n2_; clear n0_ n1_ n2_; (try clear hb); (try clear hkp); (try clear ho0); have hcz10_0 : w9.cell? ⟨gb376, 0, none⟩ = some (.int .i64 a0_0) := (blk_cell BK376.out 0).trans rfl; have hcz10_1 : w9.cell? ⟨gb376, 1, none⟩ = some (.string a0_1) := (blk_cell BK376.out 1).trans rfl; have hcz10_2 : w9.cell? ⟨gb376, 2, none⟩ = some (.string a0_2) := (blk_cell BK376.out 2).trans rfl; have hcz10_3 : w9.cell? ⟨gb376, 3, none⟩ = some (.string a0_3) := (blk_cell BK376.out 3).trans rfl; have hcz10_4 : w9.cell? ⟨gb376, 4, none⟩ = some (.string a0_4) := (blk_cell BK376.out 4).trans rfl; have hcz10_5 : w9.cell? ⟨gb376, 5, none⟩ = some (.int .i64 a0_5) := (blk_cell BK376.out 5).trans rfl; have hcz10_6 : w9.cell? ⟨gb376, 6, none⟩ = some (.int .i64 a0_6) := (blk_cell BK376.out 6).trans rfl; have hfz10_0 := blk_frozen BK376.out 0; have hfz10_1 := blk_frozen BK376.out 1; have hfz10_2 := blk_frozen BK376.out 2; have hfz10_3 := blk_frozen BK376.out 3; have hfz10_4 := blk_frozen BK376.out 4; have hfz10_5 := blk_frozen BK376.out 5; have hfz10_6 := blk_frozen BK376.out 6) | ((with_reducible refine gate_dst (N := 21) rfl ?_); refine Kd.R_lit Kd.string _ 9 ?hg (N := 21) ?hd (xs := ([a0_1, a0_2, a0_3, a0_4] : List ByteArray)) (inner := [.string a0_1, .string a0_2, .string a0_3, .string a0_4]) (ok := fun _ => True) (okp := fun _ => True) ?hr ?hp (fun _ hk => hk) trivial (Below.refl _ _) (Nat.le_refl _) (by simp) ?_; (case hd => rfl); (case hg => rfl); (case hr => first | (go_simp; done) | (go_simp; rfl)); (case hp => exact (Reps.one (show Kd.M Kd.string _ _ _ a0_1 [.string a0_1] from rfl) (Reps.one (show Kd.M Kd.string _ _ _ a0_2 [.string a0_2] from rfl) (Reps.one (show Kd.M Kd.string _ _ _ a0_3 [.string a0_3] from rfl) (Reps.one (show Kd.M Kd.string _ _ _ a0_4 [.string a0_4] from rfl) (Reps.none _ _)))))); intro v382 w11 ho12 hb hg_ hnew_; clear hg_ hnew_; (first | rw [← Ny381.out] at ho12 | (simp only [Int.reduceToNat] at ho12; rw [← Ny381.out] at ho12)); have n0_ := Aside0.mk (Kd.R_below (by (with_reducible repeat (first | apply Kd.R_alloc | apply Kd.R_drewN | apply Kd.R_drew)); exact HO380.out) hb); have n1_ := Aside0.mk (Kd.R_lower ho12 (below_size (by repeat (first | (with_reducible first | exact HB.out | apply below_alloc | apply pw_below_drewN | apply below_drew1 | refine below_set ?_ GE376.out) | exact HB.out)))); have n2_ := Aside0.mk (blk_below (g := gb376) (o := .cells #[.int .i64 a0_0, .string a0_1, .string a0_2, .string a0_3, .string a0_4, .int .i64 a0_5, .int .i64 a0_6] 30 (0, 0)) (by (with_reducible repeat (first | refine blk_drewN ?_ _ | refine blk_drew ?_ | refine blk_alloc ?_ _)); exact BK376.out) hb); have n3_ := Aside0.mk (below_step (by repeat (first | (with_reducible first | exact HB.out | apply below_alloc | apply pw_below_drewN | apply below_drew1 | refine below_set ?_ GE376.out) | exact HB.out)) hb); clear HO380; clear BK376; clear HB; have HO380 := n0_; have HO383 := n1_; have BK376 := n2_; have HB := n3_; clear n0_ n1_ n2_ n3_; clear hb ho12; obtain ⟨Ao13, co13, eo13⟩ := Kd.R_slice HO383.out; subst eo13))
    go_loopg [4, 23] k (fun kq v4 v23 w' => ∃ (x4_1 : List Int) (x23_1 : Int), v23 = .int .i64 x23_1 ∧ Aside0 (wire_Ask_Encode.l0 kq x4_1 y381 (y381.length : Int) x23_1 a0_0 a0_1 a0_2 a0_3 a0_4 a0_5 a0_6 = some (r1, r2)) ∧ Aside0 (kq ≤ k) ∧ Aside0 (Kd.R (Kd.int .u8) 5 w' w.heap.size (fun _ => True) v4 x4_1) ∧ Aside0 (Kd.R Kd.string 9 w' w.heap.size (fun _ => True) (.slice Ao13 y381.length co13) y381) ∧ Aside0 (w'.heap[gb376]? = some (.cells #[.int .i64 a0_0, .string a0_1, .string a0_2, .string a0_3, .string a0_4, .int .i64 a0_5, .int .i64 a0_6] 30 (0, 0))) ∧ Aside0 (Below w.heap.size w w'))
    case atStart => exact ⟨(t378), (0), (by first | rfl | (simp; done) | (simp [*]; done)), H', ⟨Nat.le_refl _⟩, ⟨by (with_reducible repeat (first | apply Kd.R_alloc | apply Kd.R_drewN | apply Kd.R_drew)); exact HO380.out⟩, ⟨by (with_reducible repeat (first | apply Kd.R_alloc | apply Kd.R_drewN | apply Kd.R_drew)); exact HO383.out⟩, ⟨by (with_reducible repeat (first | refine blk_drewN ?_ _ | refine blk_drew ?_ | refine blk_alloc ?_ _)); exact BK376.out⟩, ⟨by repeat (first | (with_reducible first | exact HB.out | apply below_alloc | apply pw_below_drewN | apply below_drew1 | refine below_set ?_ GE376.out) | exact HB.out)⟩⟩
    case round =>
      clear H'
      try clear c1
      try clear p2
      try clear c3
      try clear hcz10_0
      try clear hcz10_1
      try clear hcz10_2
      try clear hcz10_3
      try clear hcz10_4
      try clear hcz10_5
      try clear hcz10_6
      try clear hcz6_0
      try clear hcz6_1
      try clear hcz6_2
      try clear hcz6_3
      try clear hcz6_4
      try clear hcz6_5
      try clear hcz6_6
      try clear hcz8_0
      try clear hcz8_1
      try clear hcz8_2
      try clear hcz8_3
      try clear hcz8_4
      try clear hcz8_5
      try clear hcz8_6
      try clear hfz10_0
      try clear hfz10_1
      try clear hfz10_2
      try clear hfz10_3
      try clear hfz10_4
      try clear hfz10_5
      try clear hfz10_6
      try clear hfz6_0
      try clear hfz6_1
      try clear hfz6_2
      try clear hfz6_3
      try clear hfz6_4
      try clear hfz6_5
      try clear hfz6_6
      try clear hfz8_0
      try clear hfz8_1
      try clear hfz8_2
      try clear hfz8_3
      try clear hfz8_4
      try clear hfz8_5
      try clear hfz8_6
      obtain ⟨x4_1, x23_1, rfl, HA, HK1, HO_4, HO_21, BK376, HB⟩ := hrel
      cases gk with
      | zero => exact absurd HA.out (by simp [wire_Ask_Encode.l0])
      | succ k1 =>
        have H := HA.out
        clear HA
        simp only [wire_Ask_Encode.l0] at H
        by_cases c14 : x23_1 < (y381.length : Int)
        · rw [if_pos c14] at H
          have c14b0 : decide (x23_1 < (y381.length : Int)) = true := decide_eq_true c14
          clear c14
          by_cases c15 : 0 ≤ x23_1
          · rw [if_pos c15] at H
            have c15b0 : decide (0 ≤ x23_1) = true := decide_eq_true c15
            clear c15
            by_cases c16 : x23_1 < (y381.length : Int)
            · rw [if_pos c16] at H
              have c16b0 : decide (x23_1 < (y381.length : Int)) = true := decide_eq_true c16
              clear c16
              replace H := Option.bind_eq_some_iff.mp H
              obtain ⟨t385, A170, H⟩ := H
              replace H : (wire_Ask_Encode.l0 k1 t385 y381 (y381.length : Int) (wrap64 (x23_1 + 1)) a0_0 a0_1 a0_2 a0_3 a0_4 a0_5 a0_6) = some (r1, r2) := H
              have A17 := Aside0.mk A170
              clear A170
              have H' := Aside0.mk H
              clear H
              have p384 : 0 ≤ (x23_1 : Int) := of_decide_eq_true (by first | (with_reducible assumption) | assumption)
              have q384 : x23_1 < (y381.length : Int) := of_decide_eq_true (by first | (with_reducible assumption) | assumption)
              obtain ⟨ad384, e384, hx384_0⟩ := Kd.at_string (Kd.R_reads' HO_21.out).2.2 x23_1 p384 q384
              cases e384
              replace p384 := eq_true p384
              replace q384 := eq_true q384
              obtain ⟨Ao18, co18, eo18⟩ := Kd.R_slice HO_4.out
              subst eo18
              go_wp2_with (first | ((with_reducible refine gate_callee (f := 30) rfl ?_); refine goesL_ (some 29) rfl rfl Try.func30 (by kernel_rfl) rfl #[.slice Ao18 x4_1.length co18, .string (rdOf ByteArray.empty y381 x23_1)] rfl (by (try simp only [List.map_toArray, List.map_cons, List.map_nil]); first | done | rfl | (simp only [List.length_drop, List.length_take]; rfl)) ?_; (with_reducible refine (octet_Text.calls k1 (fun k_ => some k_ = (.slice Ao18 x4_1.length co18 : Value).ownBlock) (.slice Ao18 x4_1.length co18) x4_1 (rdOf ByteArray.empty y381 x23_1) t385 w _ ?side1 ?side2 A17.out).mono ?_); (case side1 => repeat (first | (with_reducible first | exact HB.out | apply below_alloc | apply pw_below_drewN | apply below_drew1 | refine below_set ?_ GE376.out) | exact HB.out)); (case side2 => exact Kd.R_tight rfl HO_4.out); rintro e w19 ⟨v386, rfl, ho0, hb, hkp⟩; refine ⟨_, rfl, ?_⟩; have n0_ := Aside0.mk (Kd.R_mono (ok' := fun k_ => True) (Kd.R_keptB ((Kd.R_apart' HO_21.out (Kd.R_typed HO_4.out) (by decide))) hkp (fun k_ hk_ hs_ => (hk_.2) hs_)) (fun k_ hk_ => trivial)); have n1_ := Aside0.mk (blk_kept (by (with_reducible repeat (first | refine blk_drewN ?_ _ | refine blk_drew ?_ | refine blk_alloc ?_ _)); exact BK376.out) hkp (fun hs_ => (fun e_ => (Kd.R_ne HO_4.out BK376.out (by decide)) e_) hs_)); have n2_ := Aside0.mk (Kd.R_mono (ok' := fun k_ => True) ho0 (fun k_ hk_ => trivial)); have n3_ := Aside0.mk (hb); clear HO_21; clear BK376; clear HB; clear HO_4; have HO_21 := n0_; have BK376 := n1_; have HO387 := n2_; have HB := n3_; clear n0_ n1_ n2_ n3_; (try clear hb); (try clear hkp); (try clear ho0)))
              go_roundg k1
              case measure => have := HK1.out; omega
              case rel => exact ⟨(t385), (wrap64 (x23_1 + 1)), (by first | rfl | (simp; done) | (simp [*]; done)), H', ⟨by have := HK1.out; omega⟩, ⟨by (with_reducible repeat (first | apply Kd.R_alloc | apply Kd.R_drewN | apply Kd.R_drew)); exact HO387.out⟩, ⟨by (with_reducible repeat (first | apply Kd.R_alloc | apply Kd.R_drewN | apply Kd.R_drew)); exact HO_21.out⟩, ⟨by (with_reducible repeat (first | refine blk_drewN ?_ _ | refine blk_drew ?_ | refine blk_alloc ?_ _)); exact BK376.out⟩, ⟨by repeat (first | (with_reducible first | exact HB.out | apply below_alloc | apply pw_below_drewN | apply below_drew1 | refine below_set ?_ GE376.out) | exact HB.out)⟩⟩
            · rw [if_neg c16] at H
              exact absurd H (by simp)
          · rw [if_neg c15] at H
            exact absurd H (by simp)
        · rw [if_neg c14] at H
          have c14b0 : decide (x23_1 < (y381.length : Int)) = false := decide_eq_false c14
          clear c14
          replace H := Option.bind_eq_some_iff.mp H
          obtain ⟨t388, A200, H⟩ := H
          replace H : ((octet_Num.f k1 t388 a0_6).bind fun t391 => (some (strOfNums t391, 0))) = some (r1, r2) := H
          have A20 := Aside0.mk A200
          clear A200
          replace H := Option.bind_eq_some_iff.mp H
          obtain ⟨t391, A210, H⟩ := H
          replace H : (some (strOfNums t391, 0)) = some (r1, r2) := H
          have A21 := Aside0.mk A210
          clear A210
          simp only [Option.some.injEq, Prod.mk.injEq] at H
          obtain ⟨rfl, rfl⟩ := H
          try go_wp2
          have n0_ := Aside0.mk (Kd.R_drew HO_4.out)
          have n1_ := Aside0.mk (Kd.R_drew HO_21.out)
          have n2_ := Aside0.mk (blk_drew BK376.out)
          have n3_ := Aside0.mk (below_drew1 HB.out)
          clear HO_4
          clear HO_21
          clear BK376
          clear HB
          have HO_4 := n0_
          have HO_21 := n1_
          have BK376 := n2_
          have HB := n3_
          clear n0_ n1_ n2_ n3_
          obtain ⟨Ao23, co23, eo23⟩ := Kd.R_slice HO_4.out
          (first | subst eo23 | (injection eo23 with f1_ f2_ f3_; have f4_ := f1_.symm; have f5_ := f3_.symm; clear f1_ f2_ f3_; subst f4_; subst f5_))
          refine start_ (n := 10) (S := fun w' => w'.cell? ⟨gb376, 0, none⟩ = some (.int .i64 a0_0) ∧ w'.cell? ⟨gb376, 1, none⟩ = some (.string a0_1) ∧ w'.cell? ⟨gb376, 2, none⟩ = some (.string a0_2) ∧ w'.cell? ⟨gb376, 3, none⟩ = some (.string a0_3) ∧ w'.cell? ⟨gb376, 4, none⟩ = some (.string a0_4) ∧ w'.cell? ⟨gb376, 5, none⟩ = some (.int .i64 a0_5) ∧ w'.cell? ⟨gb376, 6, none⟩ = some (.int .i64 a0_6)) (ds := []) #[false, false, false, false, false, false, false, false, false, false] (by kernel_rfl) rfl rfl ⟨(blk_cell BK376.out 0).trans rfl, (blk_cell BK376.out 1).trans rfl, (blk_cell BK376.out 2).trans rfl, (blk_cell BK376.out 3).trans rfl, (blk_cell BK376.out 4).trans rfl, (blk_cell BK376.out 5).trans rfl, (blk_cell BK376.out 6).trans rfl⟩ (fun hHeld => ?_); refine with_tabW wire_Ask_Encode.tab9 wire_Ask_Encode.bits9 (fun HT_ HW_ => ?_)
          generalize wr.drew = w22 at HO_4 HO_21 BK376 HB hHeld ⊢
          refine pure_ (i := 0) (N := some 31) (v := ?_) (a' := ?_) #[true, false, false, false, false, false, false, false, false, false] rfl rfl (any_of HT_.out (by kernel_rfl)) (fun _ _ _ h => h) (Or.inl ⟨by rfl, ?_⟩) ?_ ?_
          rotate_left
          · intro w'
            go_simp
            with_reducible rfl
          rotate_left
          · simp only [Act.put, List.setIfInBounds_toArray, List.set_cons_zero, List.set_cons_succ, i64_w, i32_w]
            rfl
          refine pure_ (i := 1) (N := some 32) (v := ?_) (a' := ?_) #[true, true, false, false, false, false, false, false, false, false] rfl rfl (any_of HT_.out (by kernel_rfl)) (fun _ _ _ h => h) (Or.inl ⟨by rfl, ?_⟩) ?_ ?_
          rotate_left
          · intro w'
            go_simp
            with_reducible rfl
          rotate_left
          · simp only [Act.put, List.setIfInBounds_toArray, List.set_cons_zero, List.set_cons_succ, i64_w, i32_w]
            rfl
          refine pure_ (i := 4) (N := some 35) (v := ?_) (a' := ?_) #[true, true, false, false, true, false, false, false, false, false] rfl rfl (any_of HT_.out (by kernel_rfl)) (fun _ _ _ h => h) (Or.inl ⟨by rfl, ?_⟩) ?_ ?_
          rotate_left
          · intro w'
            go_simp
            with_reducible rfl
          rotate_left
          · simp only [Act.put, List.setIfInBounds_toArray, List.set_cons_zero, List.set_cons_succ, i64_w, i32_w]
            rfl
          refine take_ (i := 2) (N := some 33) (v := ?_) (a' := ?_) #[true, true, true, false, true, false, false, false, false, false] rfl rfl (take_ofW HT_.out HW_.out (by kernel_rfl)) (fun _ _ _ h => h) (Or.inl ⟨by rfl, ?_⟩) hHeld ?_ ?_
          rotate_left
          · rintro w' ⟨s0, s1, s2, s3, s4, s5, s6⟩
            go_simp
            with_reducible rfl
          rotate_left
          · simp only [Act.put, List.setIfInBounds_toArray, List.set_cons_zero, List.set_cons_succ, i64_w, i32_w]
            rfl
          refine take_ (i := 5) (N := some 36) (v := ?_) (a' := ?_) #[true, true, true, false, true, true, false, false, false, false] rfl rfl (take_ofW HT_.out HW_.out (by kernel_rfl)) (fun _ _ _ h => h) (Or.inl ⟨by rfl, ?_⟩) hHeld ?_ ?_
          rotate_left
          · rintro w' ⟨s0, s1, s2, s3, s4, s5, s6⟩
            go_simp
            with_reducible rfl
          rotate_left
          · simp only [Act.put, List.setIfInBounds_toArray, List.set_cons_zero, List.set_cons_succ, i64_w, i32_w]
            rfl
          refine one_ (i := 3) (N := some 34) #[true, true, true, true, true, true, false, false, false, false] rfl rfl (one_of HT_.out (by kernel_rfl)) (by decide) (fun K hK => ?_)
          refine goes_ Try.func17 (by kernel_rfl) rfl #[.slice Ao23 x4_1.length co23, .int .i64 a0_5] (by rfl) rfl rfl (by (try simp only [List.map_toArray, List.map_cons, List.map_nil]); first | done | rfl | (simp only [List.length_drop, List.length_take]; rfl)) ?_
          with_reducible refine (octet_Num.calls k1 (fun k_ => some k_ = (.slice Ao23 x4_1.length co23 : Value).ownBlock) (.slice Ao23 x4_1.length co23) x4_1 a0_5 t388 w _ ?side1 ?side2 A20.out).mono ?_
          (case side1 => repeat (first | (with_reducible first | exact HB.out | apply below_alloc | apply pw_below_drewN | apply below_drew1 | refine below_set ?_ GE376.out) | exact HB.out))
          (case side2 => exact Kd.R_tight rfl HO_4.out)
          rintro e w24 ⟨v389, rfl, ho0, hb, hkp⟩
          refine ⟨_, rfl, ?_⟩
          have n0_ := Aside0.mk (Kd.R_mono (ok' := fun k_ => True) (Kd.R_keptB ((Kd.R_apart' HO_21.out (Kd.R_typed HO_4.out) (by decide))) hkp (fun k_ hk_ hs_ => (hk_.2) hs_)) (fun k_ hk_ => trivial))
          have n1_ := Aside0.mk (blk_kept (by (with_reducible repeat (first | refine blk_drewN ?_ _ | refine blk_drew ?_ | refine blk_alloc ?_ _)); exact BK376.out) hkp (fun hs_ => (fun e_ => (Kd.R_ne HO_4.out BK376.out (by decide)) e_) hs_))
          have n2_ := Aside0.mk (Kd.R_mono (ok' := fun k_ => True) ho0 (fun k_ hk_ => trivial))
          have n3_ := Aside0.mk (hb)
          clear HO_21
          clear BK376
          clear HB
          clear HO_4
          have HO_21 := n0_
          have BK376 := n1_
          have HO390 := n2_
          have HB := n3_
          clear n0_ n1_ n2_ n3_
          (try clear hb)
          (try clear hkp)
          (try clear ho0)
          obtain ⟨Ao25, co25, eo25⟩ := Kd.R_slice HO390.out
          (first | subst eo25 | (injection eo25 with f1_ f2_ f3_; have f4_ := f1_.symm; have f5_ := f3_.symm; clear f1_ f2_ f3_; subst f4_; subst f5_))
          refine hK.out _ _ ⟨(blk_cell BK376.out 0).trans rfl, (blk_cell BK376.out 1).trans rfl, (blk_cell BK376.out 2).trans rfl, (blk_cell BK376.out 3).trans rfl, (blk_cell BK376.out 4).trans rfl, (blk_cell BK376.out 5).trans rfl, (blk_cell BK376.out 6).trans rfl⟩ (fun hHeld => ?_)
          clear hK K
          refine norm_ (a' := ?_) ?_ ?_
          rotate_left
          · show Act.put _ (some 34) _ = _
            simp only [Act.put, List.setIfInBounds_toArray, List.set_cons_zero, List.set_cons_succ, i64_w, i32_w]
            rfl
          refine one_ (i := 6) (N := some 37) #[true, true, true, true, true, true, true, false, false, false] rfl rfl (one_of HT_.out (by kernel_rfl)) (by decide) (fun K hK => ?_)
          refine goes_ Try.func17 (by kernel_rfl) rfl #[.slice Ao25 t388.length co25, .int .i64 a0_6] (by rfl) rfl rfl (by (try simp only [List.map_toArray, List.map_cons, List.map_nil]); first | done | rfl | (simp only [List.length_drop, List.length_take]; rfl)) ?_
          with_reducible refine (octet_Num.calls k1 (fun k_ => some k_ = (.slice Ao25 t388.length co25 : Value).ownBlock) (.slice Ao25 t388.length co25) t388 a0_6 t391 w _ ?side1 ?side2 A21.out).mono ?_
          (case side1 => repeat (first | (with_reducible first | exact HB.out | apply below_alloc | apply pw_below_drewN | apply below_drew1 | refine below_set ?_ GE376.out) | exact HB.out))
          (case side2 => exact Kd.R_tight rfl HO390.out)
          rintro e w26 ⟨v392, rfl, ho0, hb, hkp⟩
          refine ⟨_, rfl, ?_⟩
          have n0_ := Aside0.mk (Kd.R_mono (ok' := fun k_ => True) (Kd.R_keptB ((Kd.R_apart' HO_21.out (Kd.R_typed HO390.out) (by decide))) hkp (fun k_ hk_ hs_ => (hk_.2) hs_)) (fun k_ hk_ => trivial))
          have n1_ := Aside0.mk (blk_kept (by (with_reducible repeat (first | refine blk_drewN ?_ _ | refine blk_drew ?_ | refine blk_alloc ?_ _)); exact BK376.out) hkp (fun hs_ => (fun e_ => (Kd.R_ne HO390.out BK376.out (by decide)) e_) hs_))
          have n2_ := Aside0.mk (Kd.R_mono (ok' := fun k_ => True) ho0 (fun k_ hk_ => trivial))
          have n3_ := Aside0.mk (hb)
          clear HO_21
          clear BK376
          clear HB
          clear HO390
          have HO_21 := n0_
          have BK376 := n1_
          have HO393 := n2_
          have HB := n3_
          clear n0_ n1_ n2_ n3_
          (try clear hb)
          (try clear hkp)
          (try clear ho0)
          refine hK.out _ _ ⟨(blk_cell BK376.out 0).trans rfl, (blk_cell BK376.out 1).trans rfl, (blk_cell BK376.out 2).trans rfl, (blk_cell BK376.out 3).trans rfl, (blk_cell BK376.out 4).trans rfl, (blk_cell BK376.out 5).trans rfl, (blk_cell BK376.out 6).trans rfl⟩ (fun hHeld => ?_)
          clear hK K
          refine norm_ (a' := ?_) ?_ ?_
          rotate_left
          · show Act.put _ (some 37) _ = _
            simp only [Act.put, List.setIfInBounds_toArray, List.set_cons_zero, List.set_cons_succ, i64_w, i32_w]
            rfl
          refine one_ (i := 7) (N := some 38) #[true, true, true, true, true, true, true, true, false, false] rfl rfl (one_of HT_.out (by kernel_rfl)) (by decide) (fun K hK => ?_)
          have hcv27 := own_string (P := Try.prog) Try.underlying23 Try.underlying5 Try.underlying9 (Kd.own_of_R HO393.out)
          refine value_ (w1 := ?_) (v := ?_) (by rfl) rfl ?_ ?_
          rotate_left 2
          · go_simp
            constructor
            · rfl
            · rfl
          clear hcv27
          refine hK.out _ _ ⟨(blk_cell BK376.out 0).trans rfl, (blk_cell BK376.out 1).trans rfl, (blk_cell BK376.out 2).trans rfl, (blk_cell BK376.out 3).trans rfl, (blk_cell BK376.out 4).trans rfl, (blk_cell BK376.out 5).trans rfl, (blk_cell BK376.out 6).trans rfl⟩ (fun hHeld => ?_)
          clear hK K
          refine norm_ (a' := ?_) ?_ ?_
          rotate_left
          · show Act.put _ (some 38) _ = _
            simp only [Act.put, List.setIfInBounds_toArray, List.set_cons_zero, List.set_cons_succ, i64_w, i32_w]
            rfl
          refine pure_ (i := 8) (N := some 2) (v := ?_) (a' := ?_) #[true, true, true, true, true, true, true, true, true, false] rfl rfl (any_of HT_.out (by kernel_rfl)) (fun _ _ _ h => h) (Or.inl ⟨by rfl, ?_⟩) ?_ ?_
          rotate_left
          · intro w'
            go_simp
            with_reducible rfl
          rotate_left
          · simp only [Act.put, List.setIfInBounds_toArray, List.set_cons_zero, List.set_cons_succ, i64_w, i32_w]
            rfl
          refine pure_ (i := 9) (N := some 3) (v := ?_) (a' := ?_) #[true, true, true, true, true, true, true, true, true, true] rfl rfl (any_of HT_.out (by kernel_rfl)) (fun _ _ _ h => h) (Or.inl ⟨by rfl, ?_⟩) ?_ ?_
          rotate_left
          · intro w'
            go_simp
            with_reducible rfl
          rotate_left
          · simp only [Act.put, List.setIfInBounds_toArray, List.set_cons_zero, List.set_cons_succ, i64_w, i32_w]
            rfl
          refine done_ (done_of HT_.out (by kernel_rfl)) ?_
          try go_wp2
          go_ret2
          exact ⟨by first | rfl | (simp [errW_none, errW_some] <;> rfl) | (simp [*, errW_none, errW_some] <;> rfl), by repeat (first | (with_reducible first | exact HB.out | apply below_alloc | apply pw_below_drewN | apply below_drew1 | refine below_set ?_ GE376.out) | exact HB.out)⟩
  · replace c3 := Bool.eq_false_iff.mpr c3
    subst c3
    have H1 : (some ((⟨#[]⟩ : ByteArray), 1)) = some (r1, r2) := by rw [if_neg (show ¬ (false = true) by decide)] at H; exact H
    clear H
    have H := H1
    clear H1
    simp only [Option.some.injEq, Prod.mk.injEq] at H
    obtain ⟨rfl, rfl⟩ := H
    go_enter Try.func19, Try.ntmps19
    go_wp2_with (first | ((with_reducible refine gate_dst (N := 1) rfl ?_); refine box_event ?hg (N := 1) ?hd (cs := #[.int .i64 a0_0, .string a0_1, .string a0_2, .string a0_3, .string a0_4, .int .i64 a0_5, .int .i64 a0_6]) (t := 30) ?hr ?_; (case hd => rfl); (case hg => rfl); (case hr => first | (go_simp; done) | (go_simp; rfl)); intro gb376 hg w28 hbox hb; have n0_ := Aside0.mk (below_step (by repeat (first | (with_reducible first | exact HB.out | apply below_alloc | apply pw_below_drewN | apply below_drew1) | exact HB.out)) hb); have n1_ := Aside0.mk (hbox); have n2_ := Aside0.mk ((by rw [hg]; exact (below_size (by repeat (first | (with_reducible first | exact HB.out | apply below_alloc | apply pw_below_drewN | apply below_drew1) | exact HB.out))) : w.heap.size ≤ gb376)); have n3_ := Aside0.mk ((by rw [hg]; exact (below_size (by repeat (first | (with_reducible first | exact HB.out | apply below_alloc | apply pw_below_drewN | apply below_drew1) | exact HB.out))) : w.heap.size ≤ gb376)); clear HB; have HB := n0_; have BK376 := n1_; have GW376 := n2_; have GE376 := n3_; clear n0_ n1_ n2_ n3_; clear hb hbox hg; have hcz29_0 : w28.cell? ⟨gb376, 0, none⟩ = some (.int .i64 a0_0) := (blk_cell BK376.out 0).trans rfl; have hcz29_1 : w28.cell? ⟨gb376, 1, none⟩ = some (.string a0_1) := (blk_cell BK376.out 1).trans rfl; have hcz29_2 : w28.cell? ⟨gb376, 2, none⟩ = some (.string a0_2) := (blk_cell BK376.out 2).trans rfl; have hcz29_3 : w28.cell? ⟨gb376, 3, none⟩ = some (.string a0_3) := (blk_cell BK376.out 3).trans rfl; have hcz29_4 : w28.cell? ⟨gb376, 4, none⟩ = some (.string a0_4) := (blk_cell BK376.out 4).trans rfl; have hcz29_5 : w28.cell? ⟨gb376, 5, none⟩ = some (.int .i64 a0_5) := (blk_cell BK376.out 5).trans rfl; have hcz29_6 : w28.cell? ⟨gb376, 6, none⟩ = some (.int .i64 a0_6) := (blk_cell BK376.out 6).trans rfl; have hfz29_0 := blk_frozen BK376.out 0; have hfz29_1 := blk_frozen BK376.out 1; have hfz29_2 := blk_frozen BK376.out 2; have hfz29_3 := blk_frozen BK376.out 3; have hfz29_4 := blk_frozen BK376.out 4; have hfz29_5 := blk_frozen BK376.out 5; have hfz29_6 := blk_frozen BK376.out 6) | ((with_reducible refine gate_callee (f := 32) rfl ?_); refine goesL_ (some 8) rfl rfl Try.func32 (by kernel_rfl) rfl #[.agg #[.int .i64 a0_0, .string a0_1, .string a0_2, .string a0_3, .string a0_4, .int .i64 a0_5, .int .i64 a0_6]] rfl (by (try simp only [List.map_toArray, List.map_cons, List.map_nil]); first | done | rfl | (simp only [List.length_drop, List.length_take]; rfl)) ?_; (with_reducible refine (wire_Ask_Right.calls a0_0 a0_1 a0_2 a0_3 a0_4 a0_5 a0_6 false _ A2.out).mono ?_); rintro e w30 ⟨rfl, hb⟩; refine ⟨_, rfl, ?_⟩; have n0_ := Aside0.mk (blk_below (g := gb376) (o := .cells #[.int .i64 a0_0, .string a0_1, .string a0_2, .string a0_3, .string a0_4, .int .i64 a0_5, .int .i64 a0_6] 30 (0, 0)) (by (with_reducible repeat (first | refine blk_drewN ?_ _ | refine blk_drew ?_ | refine blk_alloc ?_ _)); exact BK376.out) hb); have n1_ := Aside0.mk (below_step (by repeat (first | (with_reducible first | exact HB.out | apply below_alloc | apply pw_below_drewN | apply below_drew1 | refine below_set ?_ GE376.out) | exact HB.out)) hb); clear BK376; clear HB; have BK376 := n0_; have HB := n1_; clear n0_ n1_; (try clear hb); (try clear hb2); (try clear hk); (try clear hi)))
    go_ret2
    exact ⟨by first | rfl | (simp [errW_none, errW_some] <;> rfl) | (simp [*, errW_none, errW_some] <;> rfl), by repeat (first | (with_reducible first | exact HB.out | apply below_alloc | apply pw_below_drewN | apply below_drew1 | refine below_set ?_ GE376.out) | exact HB.out)⟩

end Go.Proofs.Ythpgpljpadlegaa.Q
