/- By a program of this session, out of the translation as Lean prints it: what the Go code computes, and that it does. -/
import Derived.Test.YthpgpljpadlegaaQx0
namespace Go.Proofs.Ythpgpljpadlegaa.Q
open Go.RowKit Go.Proofs.YthpgpljpadlegaaW.PrintWords Go.Proofs.YthpgpljpadlegaaW.PrintLast Go.Proofs.YthpgpljpadlegaaW.PrintMore
attribute [local go_sem] max2_int min2_int max_two min_two max_three min_three max_four min_four Aid.leq_str Aid.gtr_str Aid.geq_str   -- for this text's walks alone
set_option linter.unusedVariables false
set_option linter.unusedSimpArgs false

/-! ### mailbaglaw18_right: function 33 -/
def mailbaglaw18_right.l0 : Nat → List ByteArray → Int → Int → Int → ByteArray → ByteArray → ByteArray → ByteArray → Int → Int → Option (Bool)
  | 0, _, _, _, _, _, _, _, _, _, _ => none
  | k + 1, x13, x14, x15, x379000, x379001, x379002, x379003, x379004, x379005, x379006 => if x15 < x14 then (if 0 ≤ x15 then (if x15 < (x13.length : Int) then (if ((rdOf ByteArray.empty x13 x15).size : Int) > 4096 then (some false) else (mailbaglaw18_right.l0 k x13 x14 (wrap64 (x15 + 1)) x379000 x379001 x379002 x379003 x379004 x379005 x379006)) else (none)) else (none)) else (if x379000 ≥ 1 then (if x379000 ≤ 19 then (if x379005 ≥ 0 then (if x379005 ≤ 1099511627776 then (if x379006 ≥ 0 then (some (decide (x379006 ≤ 1099511627776))) else (some false)) else (some false)) else (some false)) else (some false)) else (some false))
def mailbaglaw18_right.f (k : Nat) (a0_0 : Int) (a0_1 : ByteArray) (a0_2 : ByteArray) (a0_3 : ByteArray) (a0_4 : ByteArray) (a0_5 : Int) (a0_6 : Int) : Option (Bool) := (some (([a0_1, a0_2, a0_3, a0_4] : List ByteArray) : List ByteArray)).bind fun y379 => (mailbaglaw18_right.l0 k y379 (y379.length : Int) 0 a0_0 a0_1 a0_2 a0_3 a0_4 a0_5 a0_6)
theorem mailbaglaw18_right.mono_l : ∀ k, (∀ y0 y1 y2 y3 y4 y5 y6 y7 y8 y9, LeO (mailbaglaw18_right.l0 k y0 y1 y2 y3 y4 y5 y6 y7 y8 y9) (mailbaglaw18_right.l0 (k + 1) y0 y1 y2 y3 y4 y5 y6 y7 y8 y9))
  | 0 => fun _ _ _ _ _ _ _ _ _ _ r h => by simp [mailbaglaw18_right.l0] at h
  | k + 1 => by
    have ih0 := mailbaglaw18_right.mono_l k
    · intro y0 y1 y2 y3 y4 y5 y6 y7 y8 y9
      unfold mailbaglaw18_right.l0
      repeat' first
      | (with_reducible exact ih0 _ _ _ _ _ _ _ _ _ _)
      | (with_reducible exact LeO.refl _)
      | (with_reducible exact LeO.none _)
      | (with_reducible refine LeO.ite ?_ ?_)
      | (with_reducible refine LeO.bind ?_ (fun _ => ?_))
      | exact ih0 _ _ _ _ _ _ _ _ _ _
      | exact LeO.none _
      | refine LeO.ite ?_ ?_
      | refine LeO.bind ?_ (fun _ => ?_)
theorem mailbaglaw18_right.mono : ∀ a0 a1 a2 a3 a4 a5 a6 k, LeO (mailbaglaw18_right.f k a0 a1 a2 a3 a4 a5 a6) (mailbaglaw18_right.f (k + 1) a0 a1 a2 a3 a4 a5 a6) := by
  intro a0 a1 a2 a3 a4 a5 a6 k
  have ih0 := mailbaglaw18_right.mono_l k
  unfold mailbaglaw18_right.f
  repeat' first
      | (with_reducible exact ih0 _ _ _ _ _ _ _ _ _ _)
      | (with_reducible exact LeO.refl _)
      | (with_reducible exact LeO.none _)
      | (with_reducible refine LeO.ite ?_ ?_)
      | (with_reducible refine LeO.bind ?_ (fun _ => ?_))
      | exact ih0 _ _ _ _ _ _ _ _ _ _
      | exact LeO.none _
      | refine LeO.ite ?_ ?_
      | refine LeO.bind ?_ (fun _ => ?_)
set_option maxHeartbeats 8000000 in
set_option maxRecDepth 100000 in
theorem mailbaglaw18_right.calls (k : Nat) (a0_0 : Int) (a0_1 : ByteArray) (a0_2 : ByteArray) (a0_3 : ByteArray) (a0_4 : ByteArray) (a0_5 : Int) (a0_6 : Int) (r : Bool) (w : World) (h : mailbaglaw18_right.f k a0_0 a0_1 a0_2 a0_3 a0_4 a0_5 a0_6 = some r) :
    Calls Try.prog 33 #[.agg #[.int .i64 a0_0, .string a0_1, .string a0_2, .string a0_3, .string a0_4, .int .i64 a0_5, .int .i64 a0_6]] w fun e w' => e = .returned (.bool r) ∧ Below w.heap.size w w' := by
  have hu30 := Try.underlying30
  have HB := Aside0.mk (Below.refl w.heap.size w)
  have H : ((some (([a0_1, a0_2, a0_3, a0_4] : List ByteArray) : List ByteArray)).bind fun y379 => (mailbaglaw18_right.l0 k y379 (y379.length : Int) 0 a0_0 a0_1 a0_2 a0_3 a0_4 a0_5 a0_6)) = some r := h
  clear h
  obtain ⟨y379, hy379⟩ : ∃ y_ : List ByteArray, y_ = (([a0_1, a0_2, a0_3, a0_4] : List ByteArray)) := ⟨_, rfl⟩
  replace H : (mailbaglaw18_right.l0 k y379 (y379.length : Int) 0 a0_0 a0_1 a0_2 a0_3 a0_4 a0_5 a0_6) = some r := by first | (rw [hy379]; with_reducible exact H) | (have H2_ := (Option.bind_some _ _).symm.trans H; rw [hy379]; with_reducible exact H2_) | (have H2_ := (Option.bind_some _ _).symm.trans H; with_reducible exact H2_) | with_reducible exact H | (rw [hy379]; exact H) | exact H
  have Ny379 := Aside0.mk hy379
  clear hy379
  have H' := Aside0.mk H
  clear H
  go_enter Try.func33, Try.ntmps33
  go_wp2_with (first | ((with_reducible refine gate_dst (N := 1) rfl ?_); refine box_event ?hg (N := 1) ?hd (cs := #[.int .i64 a0_0, .string a0_1, .string a0_2, .string a0_3, .string a0_4, .int .i64 a0_5, .int .i64 a0_6]) (t := 30) ?hr ?_; (case hd => rfl); (case hg => rfl); (case hr => first | (go_simp; done) | (go_simp; rfl)); intro gb378 hg w2 hbox hb; have n0_ := Aside0.mk (below_step (by repeat (first | (with_reducible first | exact HB.out | apply below_alloc | apply pw_below_drewN | apply below_drew1) | exact HB.out)) hb); have n1_ := Aside0.mk (hbox); have n2_ := Aside0.mk ((by rw [hg]; exact (below_size (by repeat (first | (with_reducible first | exact HB.out | apply below_alloc | apply pw_below_drewN | apply below_drew1) | exact HB.out))) : w.heap.size ≤ gb378)); have n3_ := Aside0.mk ((by rw [hg]; exact (below_size (by repeat (first | (with_reducible first | exact HB.out | apply below_alloc | apply pw_below_drewN | apply below_drew1) | exact HB.out))) : w.heap.size ≤ gb378)); clear HB; have HB := n0_; have BK378 := n1_; have GW378 := n2_; have GE378 := n3_; clear n0_ n1_ n2_ n3_; clear hb hbox hg; have hcz3_0 : w2.cell? ⟨gb378, 0, none⟩ = some (.int .i64 a0_0) := (blk_cell BK378.out 0).trans rfl; have hcz3_1 : w2.cell? ⟨gb378, 1, none⟩ = some (.string a0_1) := (blk_cell BK378.out 1).trans rfl; have hcz3_2 : w2.cell? ⟨gb378, 2, none⟩ = some (.string a0_2) := (blk_cell BK378.out 2).trans rfl; have hcz3_3 : w2.cell? ⟨gb378, 3, none⟩ = some (.string a0_3) := (blk_cell BK378.out 3).trans rfl; have hcz3_4 : w2.cell? ⟨gb378, 4, none⟩ = some (.string a0_4) := (blk_cell BK378.out 4).trans rfl; have hcz3_5 : w2.cell? ⟨gb378, 5, none⟩ = some (.int .i64 a0_5) := (blk_cell BK378.out 5).trans rfl; have hcz3_6 : w2.cell? ⟨gb378, 6, none⟩ = some (.int .i64 a0_6) := (blk_cell BK378.out 6).trans rfl; have hfz3_0 := blk_frozen BK378.out 0; have hfz3_1 := blk_frozen BK378.out 1; have hfz3_2 := blk_frozen BK378.out 2; have hfz3_3 := blk_frozen BK378.out 3; have hfz3_4 := blk_frozen BK378.out 4; have hfz3_5 := blk_frozen BK378.out 5; have hfz3_6 := blk_frozen BK378.out 6) | ((with_reducible refine gate_dst (N := 13) rfl ?_); refine Kd.R_lit Kd.string _ 9 ?hg (N := 13) ?hd (xs := ([a0_1, a0_2, a0_3, a0_4] : List ByteArray)) (inner := [.string a0_1, .string a0_2, .string a0_3, .string a0_4]) (ok := fun _ => True) (okp := fun _ => True) ?hr ?hp (fun _ hk => hk) trivial (Below.refl _ _) (Nat.le_refl _) (by simp) ?_; (case hd => rfl); (case hg => rfl); (case hr => first | (go_simp; done) | (go_simp; rfl)); (case hp => exact (Reps.one (show Kd.M Kd.string _ _ _ a0_1 [.string a0_1] from rfl) (Reps.one (show Kd.M Kd.string _ _ _ a0_2 [.string a0_2] from rfl) (Reps.one (show Kd.M Kd.string _ _ _ a0_3 [.string a0_3] from rfl) (Reps.one (show Kd.M Kd.string _ _ _ a0_4 [.string a0_4] from rfl) (Reps.none _ _)))))); intro v380 w4 ho5 hb hg_ hnew_; clear hg_ hnew_; (first | rw [← Ny379.out] at ho5 | (simp only [Int.reduceToNat] at ho5; rw [← Ny379.out] at ho5)); have n0_ := Aside0.mk (Kd.R_lower ho5 (below_size (by repeat (first | (with_reducible first | exact HB.out | apply below_alloc | apply pw_below_drewN | apply below_drew1 | refine below_set ?_ GE378.out) | exact HB.out)))); have n1_ := Aside0.mk (blk_below (g := gb378) (o := .cells #[.int .i64 a0_0, .string a0_1, .string a0_2, .string a0_3, .string a0_4, .int .i64 a0_5, .int .i64 a0_6] 30 (0, 0)) (by (with_reducible repeat (first | refine blk_drewN ?_ _ | refine blk_drew ?_ | refine blk_alloc ?_ _)); exact BK378.out) hb); have n2_ := Aside0.mk (below_step (by repeat (first | (with_reducible first | exact HB.out | apply below_alloc | apply pw_below_drewN | apply below_drew1 | refine below_set ?_ GE378.out) | exact HB.out)) hb); clear BK378; clear HB; have HO381 := n0_; have BK378 := n1_; have HB := n2_; clear n0_ n1_ n2_; clear hb ho5; obtain ⟨Ao6, co6, eo6⟩ := Kd.R_slice HO381.out; subst eo6))
  go_loopg [15] k (fun kq v15 w' => ∃ (x15_1 : Int), v15 = .int .i64 x15_1 ∧ Aside0 (mailbaglaw18_right.l0 kq y379 (y379.length : Int) x15_1 a0_0 a0_1 a0_2 a0_3 a0_4 a0_5 a0_6 = some r) ∧ Aside0 (kq ≤ k) ∧ Aside0 (Kd.R Kd.string 9 w' w.heap.size (fun _ => True) (.slice Ao6 y379.length co6) y379) ∧ Aside0 (w'.heap[gb378]? = some (.cells #[.int .i64 a0_0, .string a0_1, .string a0_2, .string a0_3, .string a0_4, .int .i64 a0_5, .int .i64 a0_6] 30 (0, 0))) ∧ Aside0 (Below w.heap.size w w'))
  case atStart => exact ⟨(0), (by first | rfl | (simp; done) | (simp [*]; done)), H', ⟨Nat.le_refl _⟩, ⟨by (with_reducible repeat (first | apply Kd.R_alloc | apply Kd.R_drewN | apply Kd.R_drew)); exact HO381.out⟩, ⟨by (with_reducible repeat (first | refine blk_drewN ?_ _ | refine blk_drew ?_ | refine blk_alloc ?_ _)); exact BK378.out⟩, ⟨by repeat (first | (with_reducible first | exact HB.out | apply below_alloc | apply pw_below_drewN | apply below_drew1 | refine below_set ?_ GE378.out) | exact HB.out)⟩⟩
  case round =>
    clear H'
    try clear p2
    try clear c3
    try clear hcz3_0
    try clear hcz3_1
    try clear hcz3_2
    try clear hcz3_3
    try clear hcz3_4
    try clear hcz3_5
    try clear hcz3_6
    try clear hfz3_0
    try clear hfz3_1
    try clear hfz3_2
    try clear hfz3_3
    try clear hfz3_4
    try clear hfz3_5
    try clear hfz3_6
    obtain ⟨x15_1, rfl, HA, HK1, HO_13, BK378, HB⟩ := hrel
    cases gk with
    | zero => exact absurd HA.out (by simp [mailbaglaw18_right.l0])
    | succ k1 =>
      have H := HA.out
      clear HA
      simp only [mailbaglaw18_right.l0] at H
      by_cases c7 : x15_1 < (y379.length : Int)
      · rw [if_pos c7] at H
        have c7b0 : decide (x15_1 < (y379.length : Int)) = true := decide_eq_true c7
        clear c7
        by_cases c8 : 0 ≤ x15_1
        · rw [if_pos c8] at H
          have c8b0 : decide (0 ≤ x15_1) = true := decide_eq_true c8
          clear c8
          by_cases c9 : x15_1 < (y379.length : Int)
          · rw [if_pos c9] at H
            have c9b0 : decide (x15_1 < (y379.length : Int)) = true := decide_eq_true c9
            clear c9
            by_cases c10 : ((rdOf ByteArray.empty y379 x15_1).size : Int) > 4096
            · rw [if_pos c10] at H
              have c10b0 : decide (4096 < ((rdOf ByteArray.empty y379 x15_1).size : Int)) = true := decide_eq_true c10
              have c10b1 : decide (4096 < (rdOf ByteArray.empty y379 x15_1).size) = true := decide_eq_true (by omega)
              clear c10
              obtain rfl := Option.some.inj H
              have p382 : 0 ≤ (x15_1 : Int) := of_decide_eq_true (by first | (with_reducible assumption) | assumption)
              have q382 : x15_1 < (y379.length : Int) := of_decide_eq_true (by first | (with_reducible assumption) | assumption)
              obtain ⟨ad382, e382, hx382_0⟩ := Kd.at_string (Kd.R_reads' HO_13.out).2.2 x15_1 p382 q382
              cases e382
              replace p382 := eq_true p382
              replace q382 := eq_true q382
              go_wp2
              go_ret
              exact ⟨by first | rfl | (simp [errW_none, errW_some] <;> rfl) | (simp [*, errW_none, errW_some] <;> rfl), by repeat (first | (with_reducible first | exact HB.out | apply below_alloc | apply pw_below_drewN | apply below_drew1 | refine below_set ?_ GE378.out) | exact HB.out)⟩
            · rw [if_neg c10] at H
              have c10b0 : decide (4096 < ((rdOf ByteArray.empty y379 x15_1).size : Int)) = false := decide_eq_false c10
              have c10b1 : decide (4096 < (rdOf ByteArray.empty y379 x15_1).size) = false := decide_eq_false (by omega)
              clear c10
              have H' := Aside0.mk H
              clear H
              have p382 : 0 ≤ (x15_1 : Int) := of_decide_eq_true (by first | (with_reducible assumption) | assumption)
              have q382 : x15_1 < (y379.length : Int) := of_decide_eq_true (by first | (with_reducible assumption) | assumption)
              obtain ⟨ad382, e382, hx382_0⟩ := Kd.at_string (Kd.R_reads' HO_13.out).2.2 x15_1 p382 q382
              cases e382
              replace p382 := eq_true p382
              replace q382 := eq_true q382
              go_wp2
              go_roundg k1
              case measure => have := HK1.out; omega
              case rel => exact ⟨(wrap64 (x15_1 + 1)), (by first | rfl | (simp; done) | (simp [*]; done)), H', ⟨by have := HK1.out; omega⟩, ⟨by (with_reducible repeat (first | apply Kd.R_alloc | apply Kd.R_drewN | apply Kd.R_drew)); exact HO_13.out⟩, ⟨by (with_reducible repeat (first | refine blk_drewN ?_ _ | refine blk_drew ?_ | refine blk_alloc ?_ _)); exact BK378.out⟩, ⟨by repeat (first | (with_reducible first | exact HB.out | apply below_alloc | apply pw_below_drewN | apply below_drew1 | refine below_set ?_ GE378.out) | exact HB.out)⟩⟩
          · rw [if_neg c9] at H
            exact absurd H (by simp)
        · rw [if_neg c8] at H
          exact absurd H (by simp)
      · rw [if_neg c7] at H
        have c7b0 : decide (x15_1 < (y379.length : Int)) = false := decide_eq_false c7
        clear c7
        by_cases c11 : a0_0 ≥ 1
        · rw [if_pos c11] at H
          have c11b0 : decide (1 ≤ a0_0) = true := decide_eq_true c11
          clear c11
          by_cases c12 : a0_0 ≤ 19
          · rw [if_pos c12] at H
            have c12b0 : decide (a0_0 ≤ 19) = true := decide_eq_true c12
            clear c12
            by_cases c13 : a0_5 ≥ 0
            · rw [if_pos c13] at H
              have c13b0 : decide (0 ≤ a0_5) = true := decide_eq_true c13
              clear c13
              by_cases c14 : a0_5 ≤ 1099511627776
              · rw [if_pos c14] at H
                have c14b0 : decide (a0_5 ≤ 1099511627776) = true := decide_eq_true c14
                clear c14
                by_cases c15 : a0_6 ≥ 0
                · rw [if_pos c15] at H
                  have c15b0 : decide (0 ≤ a0_6) = true := decide_eq_true c15
                  clear c15
                  obtain rfl := Option.some.inj H
                  have hcz16_0 : wr.cell? ⟨gb378, 0, none⟩ = some (.int .i64 a0_0) := (blk_cell BK378.out 0).trans rfl
                  have hcz16_1 : wr.cell? ⟨gb378, 1, none⟩ = some (.string a0_1) := (blk_cell BK378.out 1).trans rfl
                  have hcz16_2 : wr.cell? ⟨gb378, 2, none⟩ = some (.string a0_2) := (blk_cell BK378.out 2).trans rfl
                  have hcz16_3 : wr.cell? ⟨gb378, 3, none⟩ = some (.string a0_3) := (blk_cell BK378.out 3).trans rfl
                  have hcz16_4 : wr.cell? ⟨gb378, 4, none⟩ = some (.string a0_4) := (blk_cell BK378.out 4).trans rfl
                  have hcz16_5 : wr.cell? ⟨gb378, 5, none⟩ = some (.int .i64 a0_5) := (blk_cell BK378.out 5).trans rfl
                  have hcz16_6 : wr.cell? ⟨gb378, 6, none⟩ = some (.int .i64 a0_6) := (blk_cell BK378.out 6).trans rfl
                  have hfz16_0 := blk_frozen BK378.out 0
                  have hfz16_1 := blk_frozen BK378.out 1
                  have hfz16_2 := blk_frozen BK378.out 2
                  have hfz16_3 := blk_frozen BK378.out 3
                  have hfz16_4 := blk_frozen BK378.out 4
                  have hfz16_5 := blk_frozen BK378.out 5
                  have hfz16_6 := blk_frozen BK378.out 6
                  go_wp2
                  go_ret
                  exact ⟨by first | rfl | (simp [errW_none, errW_some] <;> rfl) | (simp [*, errW_none, errW_some] <;> rfl), by repeat (first | (with_reducible first | exact HB.out | apply below_alloc | apply pw_below_drewN | apply below_drew1 | refine below_set ?_ GE378.out) | exact HB.out)⟩
                · rw [if_neg c15] at H
                  have c15b0 : decide (0 ≤ a0_6) = false := decide_eq_false c15
                  clear c15
                  obtain rfl := Option.some.inj H
                  have hcz17_0 : wr.cell? ⟨gb378, 0, none⟩ = some (.int .i64 a0_0) := (blk_cell BK378.out 0).trans rfl
                  have hcz17_1 : wr.cell? ⟨gb378, 1, none⟩ = some (.string a0_1) := (blk_cell BK378.out 1).trans rfl
                  have hcz17_2 : wr.cell? ⟨gb378, 2, none⟩ = some (.string a0_2) := (blk_cell BK378.out 2).trans rfl
                  have hcz17_3 : wr.cell? ⟨gb378, 3, none⟩ = some (.string a0_3) := (blk_cell BK378.out 3).trans rfl
                  have hcz17_4 : wr.cell? ⟨gb378, 4, none⟩ = some (.string a0_4) := (blk_cell BK378.out 4).trans rfl
                  have hcz17_5 : wr.cell? ⟨gb378, 5, none⟩ = some (.int .i64 a0_5) := (blk_cell BK378.out 5).trans rfl
                  have hcz17_6 : wr.cell? ⟨gb378, 6, none⟩ = some (.int .i64 a0_6) := (blk_cell BK378.out 6).trans rfl
                  have hfz17_0 := blk_frozen BK378.out 0
                  have hfz17_1 := blk_frozen BK378.out 1
                  have hfz17_2 := blk_frozen BK378.out 2
                  have hfz17_3 := blk_frozen BK378.out 3
                  have hfz17_4 := blk_frozen BK378.out 4
                  have hfz17_5 := blk_frozen BK378.out 5
                  have hfz17_6 := blk_frozen BK378.out 6
                  go_wp2
                  go_ret
                  exact ⟨by first | rfl | (simp [errW_none, errW_some] <;> rfl) | (simp [*, errW_none, errW_some] <;> rfl), by repeat (first | (with_reducible first | exact HB.out | apply below_alloc | apply pw_below_drewN | apply below_drew1 | refine below_set ?_ GE378.out) | exact HB.out)⟩
              · rw [if_neg c14] at H
                have c14b0 : decide (a0_5 ≤ 1099511627776) = false := decide_eq_false c14
                clear c14
                obtain rfl := Option.some.inj H
                have hcz18_0 : wr.cell? ⟨gb378, 0, none⟩ = some (.int .i64 a0_0) := (blk_cell BK378.out 0).trans rfl
                have hcz18_1 : wr.cell? ⟨gb378, 1, none⟩ = some (.string a0_1) := (blk_cell BK378.out 1).trans rfl
                have hcz18_2 : wr.cell? ⟨gb378, 2, none⟩ = some (.string a0_2) := (blk_cell BK378.out 2).trans rfl
                have hcz18_3 : wr.cell? ⟨gb378, 3, none⟩ = some (.string a0_3) := (blk_cell BK378.out 3).trans rfl
                have hcz18_4 : wr.cell? ⟨gb378, 4, none⟩ = some (.string a0_4) := (blk_cell BK378.out 4).trans rfl
                have hcz18_5 : wr.cell? ⟨gb378, 5, none⟩ = some (.int .i64 a0_5) := (blk_cell BK378.out 5).trans rfl
                have hcz18_6 : wr.cell? ⟨gb378, 6, none⟩ = some (.int .i64 a0_6) := (blk_cell BK378.out 6).trans rfl
                have hfz18_0 := blk_frozen BK378.out 0
                have hfz18_1 := blk_frozen BK378.out 1
                have hfz18_2 := blk_frozen BK378.out 2
                have hfz18_3 := blk_frozen BK378.out 3
                have hfz18_4 := blk_frozen BK378.out 4
                have hfz18_5 := blk_frozen BK378.out 5
                have hfz18_6 := blk_frozen BK378.out 6
                go_wp2
                go_ret
                exact ⟨by first | rfl | (simp [errW_none, errW_some] <;> rfl) | (simp [*, errW_none, errW_some] <;> rfl), by repeat (first | (with_reducible first | exact HB.out | apply below_alloc | apply pw_below_drewN | apply below_drew1 | refine below_set ?_ GE378.out) | exact HB.out)⟩
            · rw [if_neg c13] at H
              have c13b0 : decide (0 ≤ a0_5) = false := decide_eq_false c13
              clear c13
              obtain rfl := Option.some.inj H
              have hcz19_0 : wr.cell? ⟨gb378, 0, none⟩ = some (.int .i64 a0_0) := (blk_cell BK378.out 0).trans rfl
              have hcz19_1 : wr.cell? ⟨gb378, 1, none⟩ = some (.string a0_1) := (blk_cell BK378.out 1).trans rfl
              have hcz19_2 : wr.cell? ⟨gb378, 2, none⟩ = some (.string a0_2) := (blk_cell BK378.out 2).trans rfl
              have hcz19_3 : wr.cell? ⟨gb378, 3, none⟩ = some (.string a0_3) := (blk_cell BK378.out 3).trans rfl
              have hcz19_4 : wr.cell? ⟨gb378, 4, none⟩ = some (.string a0_4) := (blk_cell BK378.out 4).trans rfl
              have hcz19_5 : wr.cell? ⟨gb378, 5, none⟩ = some (.int .i64 a0_5) := (blk_cell BK378.out 5).trans rfl
              have hcz19_6 : wr.cell? ⟨gb378, 6, none⟩ = some (.int .i64 a0_6) := (blk_cell BK378.out 6).trans rfl
              have hfz19_0 := blk_frozen BK378.out 0
              have hfz19_1 := blk_frozen BK378.out 1
              have hfz19_2 := blk_frozen BK378.out 2
              have hfz19_3 := blk_frozen BK378.out 3
              have hfz19_4 := blk_frozen BK378.out 4
              have hfz19_5 := blk_frozen BK378.out 5
              have hfz19_6 := blk_frozen BK378.out 6
              go_wp2
              go_ret
              exact ⟨by first | rfl | (simp [errW_none, errW_some] <;> rfl) | (simp [*, errW_none, errW_some] <;> rfl), by repeat (first | (with_reducible first | exact HB.out | apply below_alloc | apply pw_below_drewN | apply below_drew1 | refine below_set ?_ GE378.out) | exact HB.out)⟩
          · rw [if_neg c12] at H
            have c12b0 : decide (a0_0 ≤ 19) = false := decide_eq_false c12
            clear c12
            obtain rfl := Option.some.inj H
            have hcz20_0 : wr.cell? ⟨gb378, 0, none⟩ = some (.int .i64 a0_0) := (blk_cell BK378.out 0).trans rfl
            have hcz20_1 : wr.cell? ⟨gb378, 1, none⟩ = some (.string a0_1) := (blk_cell BK378.out 1).trans rfl
            have hcz20_2 : wr.cell? ⟨gb378, 2, none⟩ = some (.string a0_2) := (blk_cell BK378.out 2).trans rfl
            have hcz20_3 : wr.cell? ⟨gb378, 3, none⟩ = some (.string a0_3) := (blk_cell BK378.out 3).trans rfl
            have hcz20_4 : wr.cell? ⟨gb378, 4, none⟩ = some (.string a0_4) := (blk_cell BK378.out 4).trans rfl
            have hcz20_5 : wr.cell? ⟨gb378, 5, none⟩ = some (.int .i64 a0_5) := (blk_cell BK378.out 5).trans rfl
            have hcz20_6 : wr.cell? ⟨gb378, 6, none⟩ = some (.int .i64 a0_6) := (blk_cell BK378.out 6).trans rfl
            have hfz20_0 := blk_frozen BK378.out 0
            have hfz20_1 := blk_frozen BK378.out 1
            have hfz20_2 := blk_frozen BK378.out 2
            have hfz20_3 := blk_frozen BK378.out 3
            have hfz20_4 := blk_frozen BK378.out 4
            have hfz20_5 := blk_frozen BK378.out 5
            have hfz20_6 := blk_frozen BK378.out 6
            go_wp2
            go_ret
            exact ⟨by first | rfl | (simp [errW_none, errW_some] <;> rfl) | (simp [*, errW_none, errW_some] <;> rfl), by repeat (first | (with_reducible first | exact HB.out | apply below_alloc | apply pw_below_drewN | apply below_drew1 | refine below_set ?_ GE378.out) | exact HB.out)⟩
        · rw [if_neg c11] at H
          have c11b0 : decide (1 ≤ a0_0) = false := decide_eq_false c11
          clear c11
          obtain rfl := Option.some.inj H
          have hcz21_0 : wr.cell? ⟨gb378, 0, none⟩ = some (.int .i64 a0_0) := (blk_cell BK378.out 0).trans rfl
          have hcz21_1 : wr.cell? ⟨gb378, 1, none⟩ = some (.string a0_1) := (blk_cell BK378.out 1).trans rfl
          have hcz21_2 : wr.cell? ⟨gb378, 2, none⟩ = some (.string a0_2) := (blk_cell BK378.out 2).trans rfl
          have hcz21_3 : wr.cell? ⟨gb378, 3, none⟩ = some (.string a0_3) := (blk_cell BK378.out 3).trans rfl
          have hcz21_4 : wr.cell? ⟨gb378, 4, none⟩ = some (.string a0_4) := (blk_cell BK378.out 4).trans rfl
          have hcz21_5 : wr.cell? ⟨gb378, 5, none⟩ = some (.int .i64 a0_5) := (blk_cell BK378.out 5).trans rfl
          have hcz21_6 : wr.cell? ⟨gb378, 6, none⟩ = some (.int .i64 a0_6) := (blk_cell BK378.out 6).trans rfl
          have hfz21_0 := blk_frozen BK378.out 0
          have hfz21_1 := blk_frozen BK378.out 1
          have hfz21_2 := blk_frozen BK378.out 2
          have hfz21_3 := blk_frozen BK378.out 3
          have hfz21_4 := blk_frozen BK378.out 4
          have hfz21_5 := blk_frozen BK378.out 5
          have hfz21_6 := blk_frozen BK378.out 6
          go_wp2
          go_ret
          exact ⟨by first | rfl | (simp [errW_none, errW_some] <;> rfl) | (simp [*, errW_none, errW_some] <;> rfl), by repeat (first | (with_reducible first | exact HB.out | apply below_alloc | apply pw_below_drewN | apply below_drew1 | refine below_set ?_ GE378.out) | exact HB.out)⟩

end Go.Proofs.Ythpgpljpadlegaa.Q
