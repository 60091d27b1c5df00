/- By a program of this session, out of the translation as Lean prints it: what the Go code computes, and that it does. -/
import Derived.Test.YthpgpljpadlegaaQx0
import Derived.Test.YthpgpljpadlegaaAskA
import Derived.Test.YthpgpljpadlegaaQxp1
import Derived.Test.YthpgpljpadlegaaQxf32
import Derived.Test.YthpgpljpadlegaaQxf19
import Derived.Test.YthpgpljpadlegaaQxf18
namespace Go.Proofs.Ythpgpljpadlegaa.Q
open Go.RowKit Go.Proofs.YthpgpljpadlegaaW.PrintWords Go.Proofs.YthpgpljpadlegaaW.PrintLast Go.Proofs.YthpgpljpadlegaaW.PrintMore
attribute [local go_sem] max2_int min2_int max_two min_two max_three min_three max_four min_four Aid.leq_str Aid.gtr_str Aid.geq_str   -- for this text's walks alone
set_option linter.unusedVariables false
set_option linter.unusedSimpArgs false

attribute [local go_sem high] eqA30
/-! ### mailbaglaw18_WireLong: function 12 -/
def mailbaglaw18_WireLong.j0 : Nat → Int → Int → ByteArray → ByteArray → ByteArray → ByteArray → Int → Int → Option (Bool)
  | 0, _, _, _, _, _, _, _, _ => none
  | k + 1, x0, x447000, x447001, x447002, x447003, x447004, x447005, x447006 => (wire_Ask_Encode.f k x447000 x447001 x447002 x447003 x447004 x447005 x447006).bind fun bt447 => (if x0 > 4096 then (if bt447.2 = 1 then (if bt447.1.toList = ([] : List UInt8) then ((wire_Ask_Right.f x447000 x447001 x447002 x447003 x447004 x447005 x447006).bind fun t449 => (some (!t449))) else (some false)) else (some false)) else ((wire_ReadAsk.f k bt447.1).bind fun bt450 => (if bt447.2 = 0 then (if bt450.2.2.2.2.2.2.2 = 0 then (some (bt450.1 == x447000 && (bt450.2.1.toList == x447001.toList && (bt450.2.2.1.toList == x447002.toList && (bt450.2.2.2.1.toList == x447003.toList && (bt450.2.2.2.2.1.toList == x447004.toList && (bt450.2.2.2.2.2.1 == x447005 && (bt450.2.2.2.2.2.2.1 == x447006)))))))) else (some false)) else (some false))))
def mailbaglaw18_WireLong.f (k : Nat) (a0 : Int) (a1 : Int) : Option (Bool) := (mailbaglaw18_head.f k).bind fun t442 => (if t442 = true then (if 0 ≤ (wrap64 (4090 + (Go.bits .and .i64 a0 15))) then (if (wrap64 (4090 + (Go.bits .and .i64 a0 15)) : Int).toNat ≤ 281474976710656 then ((some (List.replicate (wrap64 (4090 + (Go.bits .and .i64 a0 15)) : Int).toNat 0 : List Int)).bind fun y443 => (if (Go.bits .and .i64 a1 3) = 0 then (mailbaglaw18_WireLong.j0 k (wrap64 (4090 + (Go.bits .and .i64 a0 15))) 5 (strOfNums y443) (⟨#[]⟩ : ByteArray) (⟨#[]⟩ : ByteArray) (⟨#[]⟩ : ByteArray) 0 0) else (if (Go.bits .and .i64 a1 3) = 1 then (mailbaglaw18_WireLong.j0 k (wrap64 (4090 + (Go.bits .and .i64 a0 15))) 5 (⟨#[]⟩ : ByteArray) (strOfNums y443) (⟨#[]⟩ : ByteArray) (⟨#[]⟩ : ByteArray) 0 0) else (if (Go.bits .and .i64 a1 3) = 2 then (mailbaglaw18_WireLong.j0 k (wrap64 (4090 + (Go.bits .and .i64 a0 15))) 5 (⟨#[]⟩ : ByteArray) (⟨#[]⟩ : ByteArray) (strOfNums y443) (⟨#[]⟩ : ByteArray) 0 0) else (mailbaglaw18_WireLong.j0 k (wrap64 (4090 + (Go.bits .and .i64 a0 15))) 5 (⟨#[]⟩ : ByteArray) (⟨#[]⟩ : ByteArray) (⟨#[]⟩ : ByteArray) (strOfNums y443) 0 0))))) else (none)) else (none)) else (some false))
theorem mailbaglaw18_WireLong.mono_l : ∀ k, (∀ y0 y1 y2 y3 y4 y5 y6 y7, LeO (mailbaglaw18_WireLong.j0 k y0 y1 y2 y3 y4 y5 y6 y7) (mailbaglaw18_WireLong.j0 (k + 1) y0 y1 y2 y3 y4 y5 y6 y7))
  | 0 => fun _ _ _ _ _ _ _ _ r h => by simp [mailbaglaw18_WireLong.j0] at h
  | k + 1 => by
    have ih0 := mailbaglaw18_WireLong.mono_l k
    · intro y0 y1 y2 y3 y4 y5 y6 y7
      unfold mailbaglaw18_WireLong.j0
      repeat' first
      | (with_reducible exact ih0 _ _ _ _ _ _ _ _)
      | (with_reducible exact mailbaglaw18_head.mono _)
      | (with_reducible exact wire_Ask_Encode.mono _ _ _ _ _ _ _ _)
      | (with_reducible exact wire_ReadAsk.mono _ _)
      | (with_reducible exact LeO.refl _)
      | (with_reducible exact LeO.none _)
      | (with_reducible refine LeO.ite ?_ ?_)
      | (with_reducible refine LeO.bind ?_ (fun _ => ?_))
      | exact ih0 _ _ _ _ _ _ _ _
      | exact mailbaglaw18_head.mono _
      | exact wire_Ask_Encode.mono _ _ _ _ _ _ _ _
      | exact wire_ReadAsk.mono _ _
      | exact LeO.none _
      | refine LeO.ite ?_ ?_
      | refine LeO.bind ?_ (fun _ => ?_)
theorem mailbaglaw18_WireLong.mono : ∀ a0 a1 k, LeO (mailbaglaw18_WireLong.f k a0 a1) (mailbaglaw18_WireLong.f (k + 1) a0 a1) := by
  intro a0 a1 k
  have ih0 := mailbaglaw18_WireLong.mono_l k
  unfold mailbaglaw18_WireLong.f
  repeat' first
      | (with_reducible exact ih0 _ _ _ _ _ _ _ _)
      | (with_reducible exact mailbaglaw18_head.mono _)
      | (with_reducible exact wire_Ask_Encode.mono _ _ _ _ _ _ _ _)
      | (with_reducible exact wire_ReadAsk.mono _ _)
      | (with_reducible exact LeO.refl _)
      | (with_reducible exact LeO.none _)
      | (with_reducible refine LeO.ite ?_ ?_)
      | (with_reducible refine LeO.bind ?_ (fun _ => ?_))
      | exact ih0 _ _ _ _ _ _ _ _
      | exact mailbaglaw18_head.mono _
      | exact wire_Ask_Encode.mono _ _ _ _ _ _ _ _
      | exact wire_ReadAsk.mono _ _
      | exact LeO.none _
      | refine LeO.ite ?_ ?_
      | refine LeO.bind ?_ (fun _ => ?_)
set_option maxHeartbeats 8000000 in
set_option maxRecDepth 100000 in
theorem mailbaglaw18_WireLong.calls (k : Nat) (a0 : Int) (a1 : Int) (r : Bool) (w : World) (h : mailbaglaw18_WireLong.f k a0 a1 = some r) :
    Calls Try.prog 12 #[.int .i64 a0, .int .i64 a1] w fun e w' => e = .returned (.bool r) ∧ Below w.heap.size w w' := by
  have hu30 := Try.underlying30
  have HB := Aside0.mk (Below.refl w.heap.size w)
  have H : ((mailbaglaw18_head.f k).bind fun t442 => (if t442 = true then (if 0 ≤ (wrap64 (4090 + (Go.bits .and .i64 a0 15))) then (if (wrap64 (4090 + (Go.bits .and .i64 a0 15)) : Int).toNat ≤ 281474976710656 then ((some (List.replicate (wrap64 (4090 + (Go.bits .and .i64 a0 15)) : Int).toNat 0 : List Int)).bind fun y443 => (if (Go.bits .and .i64 a1 3) = 0 then (mailbaglaw18_WireLong.j0 k (wrap64 (4090 + (Go.bits .and .i64 a0 15))) 5 (strOfNums y443) (⟨#[]⟩ : ByteArray) (⟨#[]⟩ : ByteArray) (⟨#[]⟩ : ByteArray) 0 0) else (if (Go.bits .and .i64 a1 3) = 1 then (mailbaglaw18_WireLong.j0 k (wrap64 (4090 + (Go.bits .and .i64 a0 15))) 5 (⟨#[]⟩ : ByteArray) (strOfNums y443) (⟨#[]⟩ : ByteArray) (⟨#[]⟩ : ByteArray) 0 0) else (if (Go.bits .and .i64 a1 3) = 2 then (mailbaglaw18_WireLong.j0 k (wrap64 (4090 + (Go.bits .and .i64 a0 15))) 5 (⟨#[]⟩ : ByteArray) (⟨#[]⟩ : ByteArray) (strOfNums y443) (⟨#[]⟩ : ByteArray) 0 0) else (mailbaglaw18_WireLong.j0 k (wrap64 (4090 + (Go.bits .and .i64 a0 15))) 5 (⟨#[]⟩ : ByteArray) (⟨#[]⟩ : ByteArray) (⟨#[]⟩ : ByteArray) (strOfNums y443) 0 0))))) else (none)) else (none)) else (some false))) = some r := h
  clear h
  replace H := Option.bind_eq_some_iff.mp H
  obtain ⟨t442, A30, H⟩ := H
  replace H : (if t442 = true then (if 0 ≤ (wrap64 (4090 + (Go.bits .and .i64 a0 15))) then (if (wrap64 (4090 + (Go.bits .and .i64 a0 15)) : Int).toNat ≤ 281474976710656 then ((some (List.replicate (wrap64 (4090 + (Go.bits .and .i64 a0 15)) : Int).toNat 0 : List Int)).bind fun y443 => (if (Go.bits .and .i64 a1 3) = 0 then (mailbaglaw18_WireLong.j0 k (wrap64 (4090 + (Go.bits .and .i64 a0 15))) 5 (strOfNums y443) (⟨#[]⟩ : ByteArray) (⟨#[]⟩ : ByteArray) (⟨#[]⟩ : ByteArray) 0 0) else (if (Go.bits .and .i64 a1 3) = 1 then (mailbaglaw18_WireLong.j0 k (wrap64 (4090 + (Go.bits .and .i64 a0 15))) 5 (⟨#[]⟩ : ByteArray) (strOfNums y443) (⟨#[]⟩ : ByteArray) (⟨#[]⟩ : ByteArray) 0 0) else (if (Go.bits .and .i64 a1 3) = 2 then (mailbaglaw18_WireLong.j0 k (wrap64 (4090 + (Go.bits .and .i64 a0 15))) 5 (⟨#[]⟩ : ByteArray) (⟨#[]⟩ : ByteArray) (strOfNums y443) (⟨#[]⟩ : ByteArray) 0 0) else (mailbaglaw18_WireLong.j0 k (wrap64 (4090 + (Go.bits .and .i64 a0 15))) 5 (⟨#[]⟩ : ByteArray) (⟨#[]⟩ : ByteArray) (⟨#[]⟩ : ByteArray) (strOfNums y443) 0 0))))) else (none)) else (none)) else (some false)) = some r := H
  have A3 := Aside0.mk A30
  clear A30
  by_cases c4 : t442 = true
  · subst c4
    have H1 : (if 0 ≤ (wrap64 (4090 + (Go.bits .and .i64 a0 15))) then (if (wrap64 (4090 + (Go.bits .and .i64 a0 15)) : Int).toNat ≤ 281474976710656 then ((some (List.replicate (wrap64 (4090 + (Go.bits .and .i64 a0 15)) : Int).toNat 0 : List Int)).bind fun y443 => (if (Go.bits .and .i64 a1 3) = 0 then (mailbaglaw18_WireLong.j0 k (wrap64 (4090 + (Go.bits .and .i64 a0 15))) 5 (strOfNums y443) (⟨#[]⟩ : ByteArray) (⟨#[]⟩ : ByteArray) (⟨#[]⟩ : ByteArray) 0 0) else (if (Go.bits .and .i64 a1 3) = 1 then (mailbaglaw18_WireLong.j0 k (wrap64 (4090 + (Go.bits .and .i64 a0 15))) 5 (⟨#[]⟩ : ByteArray) (strOfNums y443) (⟨#[]⟩ : ByteArray) (⟨#[]⟩ : ByteArray) 0 0) else (if (Go.bits .and .i64 a1 3) = 2 then (mailbaglaw18_WireLong.j0 k (wrap64 (4090 + (Go.bits .and .i64 a0 15))) 5 (⟨#[]⟩ : ByteArray) (⟨#[]⟩ : ByteArray) (strOfNums y443) (⟨#[]⟩ : ByteArray) 0 0) else (mailbaglaw18_WireLong.j0 k (wrap64 (4090 + (Go.bits .and .i64 a0 15))) 5 (⟨#[]⟩ : ByteArray) (⟨#[]⟩ : ByteArray) (⟨#[]⟩ : ByteArray) (strOfNums y443) 0 0))))) else (none)) else (none)) = some r := by rw [if_pos rfl] at H; exact H
    clear H
    have H := H1
    clear H1
    obtain ⟨ji5, hji5⟩ : ∃ j_ : Int, (wrap64 (4090 + (Go.bits .and .i64 a0 15))) = j_ := ⟨_, rfl⟩
    replace H : (if 0 ≤ (ji5) then (if (ji5 : Int).toNat ≤ 281474976710656 then ((some (List.replicate (ji5 : Int).toNat 0 : List Int)).bind fun y443 => (if (Go.bits .and .i64 a1 3) = 0 then (mailbaglaw18_WireLong.j0 k ji5 5 (strOfNums y443) (⟨#[]⟩ : ByteArray) (⟨#[]⟩ : ByteArray) (⟨#[]⟩ : ByteArray) 0 0) else (if (Go.bits .and .i64 a1 3) = 1 then (mailbaglaw18_WireLong.j0 k ji5 5 (⟨#[]⟩ : ByteArray) (strOfNums y443) (⟨#[]⟩ : ByteArray) (⟨#[]⟩ : ByteArray) 0 0) else (if (Go.bits .and .i64 a1 3) = 2 then (mailbaglaw18_WireLong.j0 k ji5 5 (⟨#[]⟩ : ByteArray) (⟨#[]⟩ : ByteArray) (strOfNums y443) (⟨#[]⟩ : ByteArray) 0 0) else (mailbaglaw18_WireLong.j0 k ji5 5 (⟨#[]⟩ : ByteArray) (⟨#[]⟩ : ByteArray) (⟨#[]⟩ : ByteArray) (strOfNums y443) 0 0))))) else (none)) else (none)) = some r := by first | (rw [hji5] at H; exact H) | (simp only [hji5] at H ⊢; exact H)
    (try rw [hji5] at A3)
    have hji5w : (IntKind.i64.wrap (4090 + (Go.bits .and .i64 a0 15))) = ji5 := (i64_w _).trans hji5
    by_cases c6 : 0 ≤ (ji5)
    · rw [if_pos c6] at H
      have c6b0 := eq_true c6
      have c6b1 : decide (0 ≤ (ji5)) = true := decide_eq_true c6
      clear c6
      by_cases c7 : (ji5 : Int).toNat ≤ 281474976710656
      · rw [if_pos c7] at H
        have c7b0 := eq_true c7
        have c7b1 : decide ((ji5 : Int).toNat ≤ 281474976710656) = true := decide_eq_true c7
        clear c7
        obtain ⟨y443, hy443⟩ : ∃ y_ : List Int, y_ = (List.replicate (ji5 : Int).toNat 0) := ⟨_, rfl⟩
        replace H : (if (Go.bits .and .i64 a1 3) = 0 then (mailbaglaw18_WireLong.j0 k ji5 5 (strOfNums y443) (⟨#[]⟩ : ByteArray) (⟨#[]⟩ : ByteArray) (⟨#[]⟩ : ByteArray) 0 0) else (if (Go.bits .and .i64 a1 3) = 1 then (mailbaglaw18_WireLong.j0 k ji5 5 (⟨#[]⟩ : ByteArray) (strOfNums y443) (⟨#[]⟩ : ByteArray) (⟨#[]⟩ : ByteArray) 0 0) else (if (Go.bits .and .i64 a1 3) = 2 then (mailbaglaw18_WireLong.j0 k ji5 5 (⟨#[]⟩ : ByteArray) (⟨#[]⟩ : ByteArray) (strOfNums y443) (⟨#[]⟩ : ByteArray) 0 0) else (mailbaglaw18_WireLong.j0 k ji5 5 (⟨#[]⟩ : ByteArray) (⟨#[]⟩ : ByteArray) (⟨#[]⟩ : ByteArray) (strOfNums y443) 0 0)))) = some r := by first | (rw [hy443]; with_reducible exact H) | (have H2_ := (Option.bind_some _ _).symm.trans H; rw [hy443]; with_reducible exact H2_) | (have H2_ := (Option.bind_some _ _).symm.trans H; with_reducible exact H2_) | with_reducible exact H | (rw [hy443]; exact H) | exact H
        have Ny443 := Aside0.mk hy443
        clear hy443
        have HC8 := Aside0.mk H
        clear H
        go_enter Try.func12, Try.ntmps12
        go_upto_block 0 with (first | ((with_reducible refine gate_callee (f := 18) rfl ?_); refine goesL_ (some 11) rfl rfl Try.func18 (by kernel_rfl) rfl #[] rfl (by (try simp only [List.map_toArray, List.map_cons, List.map_nil]); first | done | rfl | (simp only [List.length_drop, List.length_take]; rfl)) ?_; (with_reducible refine (mailbaglaw18_head.calls k  true _ A3.out).mono ?_); rintro e w9 ⟨rfl, hb⟩; refine ⟨_, rfl, ?_⟩; have n0_ := Aside0.mk (below_step (by repeat (first | (with_reducible first | exact HB.out | apply below_alloc | apply pw_below_drewN | apply below_drew1) | exact HB.out)) hb); clear HB; have HB := n0_; clear n0_; (try clear hb); (try clear hb2); (try clear hk); (try clear hi)) | ((with_reducible refine gate_dst (N := 17) rfl ?_); refine Kd.R_make (Kd.int .u8) _ 5 rfl (N := 17) rfl 23 _ _ rfl ji5 rfl rfl Try.underlying23 (.int .u8 0) 1 info5 rfl (by decide) (by omega) 0 (ok := fun _ => True) (okp := fun _ => True) rfl (fun _ hk => hk) trivial (of_decide_eq_true (by first | (with_reducible assumption) | assumption)) (Nat.le_trans (Nat.mul_le_mul_right _ (of_decide_eq_true (by first | (with_reducible assumption) | assumption) : ji5.toNat ≤ 281474976710656)) (by omega)) (Below.refl _ _) (Nat.le_refl _) ?_; intro v444 w10 ho11 hb hg_ hnew_; clear hg_ hnew_; (first | rw [← Ny443.out] at ho11 | (simp only [Int.reduceToNat] at ho11; rw [← Ny443.out] at ho11)); have n0_ := Aside0.mk (Kd.R_lower ho11 (below_size (by repeat (first | (with_reducible first | exact HB.out | apply below_alloc | apply pw_below_drewN | apply below_drew1) | exact HB.out)))); have n1_ := Aside0.mk (below_step (by repeat (first | (with_reducible first | exact HB.out | apply below_alloc | apply pw_below_drewN | apply below_drew1) | exact HB.out)) hb); clear HB; have HO445 := n0_; have HB := n1_; clear n0_ n1_; clear hb ho11; have hcv12 := own_string (P := Try.prog) Try.underlying23 Try.underlying5 Try.underlying9 (Kd.own_of_R HO445.out); have hcv13 := fun nd_ : Nat => own_string (P := Try.prog) Try.underlying23 Try.underlying5 Try.underlying9 (Kd.own_of_R (Kd.R_drewN HO445.out nd_))) | ((with_reducible refine gate_dst (N := 6) rfl ?_); refine box_event ?hg (N := 6) ?hd (cs := #[.int .i64 0, .string (⟨#[]⟩ : ByteArray), .string (⟨#[]⟩ : ByteArray), .string (⟨#[]⟩ : ByteArray), .string (⟨#[]⟩ : ByteArray), .int .i64 0, .int .i64 0]) (t := 30) ?hr ?_; (case hd => rfl); (case hg => rfl); (case hr => first | (go_simp; done) | (go_simp; rfl)); intro gb446 hg w14 hbox hb; have n0_ := Aside0.mk (Kd.R_below (by (with_reducible repeat (first | apply Kd.R_alloc | apply Kd.R_drewN | apply Kd.R_drew)); exact HO445.out) hb); have n1_ := Aside0.mk (below_step (by repeat (first | (with_reducible first | exact HB.out | apply below_alloc | apply pw_below_drewN | apply below_drew1) | exact HB.out)) hb); have n2_ := Aside0.mk (hbox); have n3_ := Aside0.mk ((by rw [hg]; exact (below_size (by repeat (first | (with_reducible first | exact HB.out | apply below_alloc | apply pw_below_drewN | apply below_drew1) | exact HB.out))) : w.heap.size ≤ gb446)); have n4_ := Aside0.mk ((by rw [hg]; exact (below_size (by repeat (first | (with_reducible first | exact HB.out | apply below_alloc | apply pw_below_drewN | apply below_drew1) | exact HB.out))) : w.heap.size ≤ gb446)); clear HO445; clear HB; have HO445 := n0_; have HB := n1_; have BK446 := n2_; have GW446 := n3_; have GE446 := n4_; clear n0_ n1_ n2_ n3_ n4_; clear hb hbox hg; have hcz15_0 : w14.cell? ⟨gb446, 0, none⟩ = some (.int .i64 0) := (blk_cell BK446.out 0).trans rfl; have hcz15_1 : w14.cell? ⟨gb446, 1, none⟩ = some (.string (⟨#[]⟩ : ByteArray)) := (blk_cell BK446.out 1).trans rfl; have hcz15_2 : w14.cell? ⟨gb446, 2, none⟩ = some (.string (⟨#[]⟩ : ByteArray)) := (blk_cell BK446.out 2).trans rfl; have hcz15_3 : w14.cell? ⟨gb446, 3, none⟩ = some (.string (⟨#[]⟩ : ByteArray)) := (blk_cell BK446.out 3).trans rfl; have hcz15_4 : w14.cell? ⟨gb446, 4, none⟩ = some (.string (⟨#[]⟩ : ByteArray)) := (blk_cell BK446.out 4).trans rfl; have hcz15_5 : w14.cell? ⟨gb446, 5, none⟩ = some (.int .i64 0) := (blk_cell BK446.out 5).trans rfl; have hcz15_6 : w14.cell? ⟨gb446, 6, none⟩ = some (.int .i64 0) := (blk_cell BK446.out 6).trans rfl; have hfz15_0 := blk_frozen BK446.out 0; have hfz15_1 := blk_frozen BK446.out 1; have hfz15_2 := blk_frozen BK446.out 2; have hfz15_3 := blk_frozen BK446.out 3; have hfz15_4 := blk_frozen BK446.out 4; have hfz15_5 := blk_frozen BK446.out 5; have hfz15_6 := blk_frozen BK446.out 6))
        (try simp only [Act.put, List.setIfInBounds_toArray, List.set_cons_zero, List.set_cons_succ])
        go_cut [] (fun wc => ∃ (kq : Nat) (x447001_7 : ByteArray) (x447002_7 : ByteArray) (x447003_7 : ByteArray) (x447004_7 : ByteArray), Aside0 (mailbaglaw18_WireLong.j0 kq ji5 5 x447001_7 x447002_7 x447003_7 x447004_7 0 0 = some r) ∧ Aside0 (kq ≤ k) ∧ Aside0 (wc.heap[gb446]? = some (.cells #[.int .i64 5, .string x447001_7, .string x447002_7, .string x447003_7, .string x447004_7, .int .i64 0, .int .i64 0] 30 (0, 0))) ∧ Aside0 (Below w.heap.size w wc))
        case first =>
          have H := HC8.out
          clear HC8
          by_cases c16 : (Go.bits .and .i64 a1 3) = 0
          · rw [if_pos c16] at H
            have c16b0 : ((Go.bits .and .i64 a1 3) == 0) = true := beq_iff_eq.mpr c16
            have c16b1 : ((Go.bits .and .i64 a1 3) != 0) = false := bne_eq_false_iff_eq.mpr c16
            clear c16
            (first | rw [c16b0] | (simp only [i64_w, i32_w]; rw [c16b0]) | skip)
            have H' := Aside0.mk H
            clear H
            have hcz17_0 : w14.cell? ⟨gb446, 0, none⟩ = some (.int .i64 0) := (blk_cell BK446.out 0).trans rfl
            have hcz17_1 : w14.cell? ⟨gb446, 1, none⟩ = some (.string (⟨#[]⟩ : ByteArray)) := (blk_cell BK446.out 1).trans rfl
            have hcz17_2 : w14.cell? ⟨gb446, 2, none⟩ = some (.string (⟨#[]⟩ : ByteArray)) := (blk_cell BK446.out 2).trans rfl
            have hcz17_3 : w14.cell? ⟨gb446, 3, none⟩ = some (.string (⟨#[]⟩ : ByteArray)) := (blk_cell BK446.out 3).trans rfl
            have hcz17_4 : w14.cell? ⟨gb446, 4, none⟩ = some (.string (⟨#[]⟩ : ByteArray)) := (blk_cell BK446.out 4).trans rfl
            have hcz17_5 : w14.cell? ⟨gb446, 5, none⟩ = some (.int .i64 0) := (blk_cell BK446.out 5).trans rfl
            have hcz17_6 : w14.cell? ⟨gb446, 6, none⟩ = some (.int .i64 0) := (blk_cell BK446.out 6).trans rfl
            have hfz17_0 := blk_frozen BK446.out 0
            have hfz17_1 := blk_frozen BK446.out 1
            have hfz17_2 := blk_frozen BK446.out 2
            have hfz17_3 := blk_frozen BK446.out 3
            have hfz17_4 := blk_frozen BK446.out 4
            have hfz17_5 := blk_frozen BK446.out 5
            have hfz17_6 := blk_frozen BK446.out 6
            go_wp2
            go_meet
            case rel => exact ⟨_, (strOfNums y443), ((⟨#[]⟩ : ByteArray)), ((⟨#[]⟩ : ByteArray)), ((⟨#[]⟩ : ByteArray)), H', ⟨by first | omega | exact Nat.le_refl _⟩, ⟨by (with_reducible repeat (first | refine blk_drewN ?_ _ | refine blk_drew ?_ | refine blk_alloc ?_ _)); refine blk_put (cs := #[.int .i64 5, .string (⟨#[]⟩ : ByteArray), .string (⟨#[]⟩ : ByteArray), .string (⟨#[]⟩ : ByteArray), .string (⟨#[]⟩ : ByteArray), .int .i64 0, .int .i64 0]) ?_ 1 _ rfl; (with_reducible repeat (first | refine blk_drewN ?_ _ | refine blk_drew ?_ | refine blk_alloc ?_ _)); refine blk_put (cs := #[.int .i64 5, .string (⟨#[]⟩ : ByteArray), .string (⟨#[]⟩ : ByteArray), .string (⟨#[]⟩ : ByteArray), .string (⟨#[]⟩ : ByteArray), .int .i64 0, .int .i64 0]) ?_ 6 _ rfl; (with_reducible repeat (first | refine blk_drewN ?_ _ | refine blk_drew ?_ | refine blk_alloc ?_ _)); refine blk_put (cs := #[.int .i64 5, .string (⟨#[]⟩ : ByteArray), .string (⟨#[]⟩ : ByteArray), .string (⟨#[]⟩ : ByteArray), .string (⟨#[]⟩ : ByteArray), .int .i64 0, .int .i64 0]) ?_ 5 _ rfl; (with_reducible repeat (first | refine blk_drewN ?_ _ | refine blk_drew ?_ | refine blk_alloc ?_ _)); refine blk_put (cs := #[.int .i64 5, .string (⟨#[]⟩ : ByteArray), .string (⟨#[]⟩ : ByteArray), .string (⟨#[]⟩ : ByteArray), .string (⟨#[]⟩ : ByteArray), .int .i64 0, .int .i64 0]) ?_ 4 _ rfl; (with_reducible repeat (first | refine blk_drewN ?_ _ | refine blk_drew ?_ | refine blk_alloc ?_ _)); refine blk_put (cs := #[.int .i64 5, .string (⟨#[]⟩ : ByteArray), .string (⟨#[]⟩ : ByteArray), .string (⟨#[]⟩ : ByteArray), .string (⟨#[]⟩ : ByteArray), .int .i64 0, .int .i64 0]) ?_ 3 _ rfl; (with_reducible repeat (first | refine blk_drewN ?_ _ | refine blk_drew ?_ | refine blk_alloc ?_ _)); refine blk_put (cs := #[.int .i64 5, .string (⟨#[]⟩ : ByteArray), .string (⟨#[]⟩ : ByteArray), .string (⟨#[]⟩ : ByteArray), .string (⟨#[]⟩ : ByteArray), .int .i64 0, .int .i64 0]) ?_ 2 _ rfl; (with_reducible repeat (first | refine blk_drewN ?_ _ | refine blk_drew ?_ | refine blk_alloc ?_ _)); refine blk_put (cs := #[.int .i64 5, .string (⟨#[]⟩ : ByteArray), .string (⟨#[]⟩ : ByteArray), .string (⟨#[]⟩ : ByteArray), .string (⟨#[]⟩ : ByteArray), .int .i64 0, .int .i64 0]) ?_ 1 _ rfl; (with_reducible repeat (first | refine blk_drewN ?_ _ | refine blk_drew ?_ | refine blk_alloc ?_ _)); refine blk_put (cs := #[.int .i64 0, .string (⟨#[]⟩ : ByteArray), .string (⟨#[]⟩ : ByteArray), .string (⟨#[]⟩ : ByteArray), .string (⟨#[]⟩ : ByteArray), .int .i64 0, .int .i64 0]) ?_ 0 _ rfl; (with_reducible repeat (first | refine blk_drewN ?_ _ | refine blk_drew ?_ | refine blk_alloc ?_ _)); exact BK446.out⟩, ⟨by repeat (first | (with_reducible first | exact HB.out | apply below_alloc | apply pw_below_drewN | apply below_drew1 | refine below_set ?_ GE446.out) | exact HB.out)⟩⟩
          · rw [if_neg c16] at H
            have c16b0 : ((Go.bits .and .i64 a1 3) == 0) = false := beq_eq_false_iff_ne.mpr c16
            have c16b1 : ((Go.bits .and .i64 a1 3) != 0) = true := bne_iff_ne.mpr c16
            (first | rw [c16b0] | (simp only [i64_w, i32_w]; rw [c16b0]) | skip)
            by_cases c18 : (Go.bits .and .i64 a1 3) = 1
            · rw [if_pos c18] at H
              have c18b0 : ((Go.bits .and .i64 a1 3) == 1) = true := beq_iff_eq.mpr c18
              have c18b1 : ((Go.bits .and .i64 a1 3) != 1) = false := bne_eq_false_iff_eq.mpr c18
              clear c18
              have H' := Aside0.mk H
              clear H
              have hcz19_0 : w14.cell? ⟨gb446, 0, none⟩ = some (.int .i64 0) := (blk_cell BK446.out 0).trans rfl
              have hcz19_1 : w14.cell? ⟨gb446, 1, none⟩ = some (.string (⟨#[]⟩ : ByteArray)) := (blk_cell BK446.out 1).trans rfl
              have hcz19_2 : w14.cell? ⟨gb446, 2, none⟩ = some (.string (⟨#[]⟩ : ByteArray)) := (blk_cell BK446.out 2).trans rfl
              have hcz19_3 : w14.cell? ⟨gb446, 3, none⟩ = some (.string (⟨#[]⟩ : ByteArray)) := (blk_cell BK446.out 3).trans rfl
              have hcz19_4 : w14.cell? ⟨gb446, 4, none⟩ = some (.string (⟨#[]⟩ : ByteArray)) := (blk_cell BK446.out 4).trans rfl
              have hcz19_5 : w14.cell? ⟨gb446, 5, none⟩ = some (.int .i64 0) := (blk_cell BK446.out 5).trans rfl
              have hcz19_6 : w14.cell? ⟨gb446, 6, none⟩ = some (.int .i64 0) := (blk_cell BK446.out 6).trans rfl
              have hfz19_0 := blk_frozen BK446.out 0
              have hfz19_1 := blk_frozen BK446.out 1
              have hfz19_2 := blk_frozen BK446.out 2
              have hfz19_3 := blk_frozen BK446.out 3
              have hfz19_4 := blk_frozen BK446.out 4
              have hfz19_5 := blk_frozen BK446.out 5
              have hfz19_6 := blk_frozen BK446.out 6
              go_wp2
              go_meet
              case rel => exact ⟨_, ((⟨#[]⟩ : ByteArray)), (strOfNums y443), ((⟨#[]⟩ : ByteArray)), ((⟨#[]⟩ : ByteArray)), H', ⟨by first | omega | exact Nat.le_refl _⟩, ⟨by (with_reducible repeat (first | refine blk_drewN ?_ _ | refine blk_drew ?_ | refine blk_alloc ?_ _)); refine blk_put (cs := #[.int .i64 5, .string (⟨#[]⟩ : ByteArray), .string (⟨#[]⟩ : ByteArray), .string (⟨#[]⟩ : ByteArray), .string (⟨#[]⟩ : ByteArray), .int .i64 0, .int .i64 0]) ?_ 2 _ rfl; (with_reducible repeat (first | refine blk_drewN ?_ _ | refine blk_drew ?_ | refine blk_alloc ?_ _)); refine blk_put (cs := #[.int .i64 5, .string (⟨#[]⟩ : ByteArray), .string (⟨#[]⟩ : ByteArray), .string (⟨#[]⟩ : ByteArray), .string (⟨#[]⟩ : ByteArray), .int .i64 0, .int .i64 0]) ?_ 6 _ rfl; (with_reducible repeat (first | refine blk_drewN ?_ _ | refine blk_drew ?_ | refine blk_alloc ?_ _)); refine blk_put (cs := #[.int .i64 5, .string (⟨#[]⟩ : ByteArray), .string (⟨#[]⟩ : ByteArray), .string (⟨#[]⟩ : ByteArray), .string (⟨#[]⟩ : ByteArray), .int .i64 0, .int .i64 0]) ?_ 5 _ rfl; (with_reducible repeat (first | refine blk_drewN ?_ _ | refine blk_drew ?_ | refine blk_alloc ?_ _)); refine blk_put (cs := #[.int .i64 5, .string (⟨#[]⟩ : ByteArray), .string (⟨#[]⟩ : ByteArray), .string (⟨#[]⟩ : ByteArray), .string (⟨#[]⟩ : ByteArray), .int .i64 0, .int .i64 0]) ?_ 4 _ rfl; (with_reducible repeat (first | refine blk_drewN ?_ _ | refine blk_drew ?_ | refine blk_alloc ?_ _)); refine blk_put (cs := #[.int .i64 5, .string (⟨#[]⟩ : ByteArray), .string (⟨#[]⟩ : ByteArray), .string (⟨#[]⟩ : ByteArray), .string (⟨#[]⟩ : ByteArray), .int .i64 0, .int .i64 0]) ?_ 3 _ rfl; (with_reducible repeat (first | refine blk_drewN ?_ _ | refine blk_drew ?_ | refine blk_alloc ?_ _)); refine blk_put (cs := #[.int .i64 5, .string (⟨#[]⟩ : ByteArray), .string (⟨#[]⟩ : ByteArray), .string (⟨#[]⟩ : ByteArray), .string (⟨#[]⟩ : ByteArray), .int .i64 0, .int .i64 0]) ?_ 2 _ rfl; (with_reducible repeat (first | refine blk_drewN ?_ _ | refine blk_drew ?_ | refine blk_alloc ?_ _)); refine blk_put (cs := #[.int .i64 5, .string (⟨#[]⟩ : ByteArray), .string (⟨#[]⟩ : ByteArray), .string (⟨#[]⟩ : ByteArray), .string (⟨#[]⟩ : ByteArray), .int .i64 0, .int .i64 0]) ?_ 1 _ rfl; (with_reducible repeat (first | refine blk_drewN ?_ _ | refine blk_drew ?_ | refine blk_alloc ?_ _)); refine blk_put (cs := #[.int .i64 0, .string (⟨#[]⟩ : ByteArray), .string (⟨#[]⟩ : ByteArray), .string (⟨#[]⟩ : ByteArray), .string (⟨#[]⟩ : ByteArray), .int .i64 0, .int .i64 0]) ?_ 0 _ rfl; (with_reducible repeat (first | refine blk_drewN ?_ _ | refine blk_drew ?_ | refine blk_alloc ?_ _)); exact BK446.out⟩, ⟨by repeat (first | (with_reducible first | exact HB.out | apply below_alloc | apply pw_below_drewN | apply below_drew1 | refine below_set ?_ GE446.out) | exact HB.out)⟩⟩
            · rw [if_neg c18] at H
              have c18b0 : ((Go.bits .and .i64 a1 3) == 1) = false := beq_eq_false_iff_ne.mpr c18
              have c18b1 : ((Go.bits .and .i64 a1 3) != 1) = true := bne_iff_ne.mpr c18
              by_cases c20 : (Go.bits .and .i64 a1 3) = 2
              · rw [if_pos c20] at H
                have c20b0 : ((Go.bits .and .i64 a1 3) == 2) = true := beq_iff_eq.mpr c20
                have c20b1 : ((Go.bits .and .i64 a1 3) != 2) = false := bne_eq_false_iff_eq.mpr c20
                clear c20
                have H' := Aside0.mk H
                clear H
                have hcz21_0 : w14.cell? ⟨gb446, 0, none⟩ = some (.int .i64 0) := (blk_cell BK446.out 0).trans rfl
                have hcz21_1 : w14.cell? ⟨gb446, 1, none⟩ = some (.string (⟨#[]⟩ : ByteArray)) := (blk_cell BK446.out 1).trans rfl
                have hcz21_2 : w14.cell? ⟨gb446, 2, none⟩ = some (.string (⟨#[]⟩ : ByteArray)) := (blk_cell BK446.out 2).trans rfl
                have hcz21_3 : w14.cell? ⟨gb446, 3, none⟩ = some (.string (⟨#[]⟩ : ByteArray)) := (blk_cell BK446.out 3).trans rfl
                have hcz21_4 : w14.cell? ⟨gb446, 4, none⟩ = some (.string (⟨#[]⟩ : ByteArray)) := (blk_cell BK446.out 4).trans rfl
                have hcz21_5 : w14.cell? ⟨gb446, 5, none⟩ = some (.int .i64 0) := (blk_cell BK446.out 5).trans rfl
                have hcz21_6 : w14.cell? ⟨gb446, 6, none⟩ = some (.int .i64 0) := (blk_cell BK446.out 6).trans rfl
                have hfz21_0 := blk_frozen BK446.out 0
                have hfz21_1 := blk_frozen BK446.out 1
                have hfz21_2 := blk_frozen BK446.out 2
                have hfz21_3 := blk_frozen BK446.out 3
                have hfz21_4 := blk_frozen BK446.out 4
                have hfz21_5 := blk_frozen BK446.out 5
                have hfz21_6 := blk_frozen BK446.out 6
                go_wp2
                go_meet
                case rel => exact ⟨_, ((⟨#[]⟩ : ByteArray)), ((⟨#[]⟩ : ByteArray)), (strOfNums y443), ((⟨#[]⟩ : ByteArray)), H', ⟨by first | omega | exact Nat.le_refl _⟩, ⟨by (with_reducible repeat (first | refine blk_drewN ?_ _ | refine blk_drew ?_ | refine blk_alloc ?_ _)); refine blk_put (cs := #[.int .i64 5, .string (⟨#[]⟩ : ByteArray), .string (⟨#[]⟩ : ByteArray), .string (⟨#[]⟩ : ByteArray), .string (⟨#[]⟩ : ByteArray), .int .i64 0, .int .i64 0]) ?_ 3 _ rfl; (with_reducible repeat (first | refine blk_drewN ?_ _ | refine blk_drew ?_ | refine blk_alloc ?_ _)); refine blk_put (cs := #[.int .i64 5, .string (⟨#[]⟩ : ByteArray), .string (⟨#[]⟩ : ByteArray), .string (⟨#[]⟩ : ByteArray), .string (⟨#[]⟩ : ByteArray), .int .i64 0, .int .i64 0]) ?_ 6 _ rfl; (with_reducible repeat (first | refine blk_drewN ?_ _ | refine blk_drew ?_ | refine blk_alloc ?_ _)); refine blk_put (cs := #[.int .i64 5, .string (⟨#[]⟩ : ByteArray), .string (⟨#[]⟩ : ByteArray), .string (⟨#[]⟩ : ByteArray), .string (⟨#[]⟩ : ByteArray), .int .i64 0, .int .i64 0]) ?_ 5 _ rfl; (with_reducible repeat (first | refine blk_drewN ?_ _ | refine blk_drew ?_ | refine blk_alloc ?_ _)); refine blk_put (cs := #[.int .i64 5, .string (⟨#[]⟩ : ByteArray), .string (⟨#[]⟩ : ByteArray), .string (⟨#[]⟩ : ByteArray), .string (⟨#[]⟩ : ByteArray), .int .i64 0, .int .i64 0]) ?_ 4 _ rfl; (with_reducible repeat (first | refine blk_drewN ?_ _ | refine blk_drew ?_ | refine blk_alloc ?_ _)); refine blk_put (cs := #[.int .i64 5, .string (⟨#[]⟩ : ByteArray), .string (⟨#[]⟩ : ByteArray), .string (⟨#[]⟩ : ByteArray), .string (⟨#[]⟩ : ByteArray), .int .i64 0, .int .i64 0]) ?_ 3 _ rfl; (with_reducible repeat (first | refine blk_drewN ?_ _ | refine blk_drew ?_ | refine blk_alloc ?_ _)); refine blk_put (cs := #[.int .i64 5, .string (⟨#[]⟩ : ByteArray), .string (⟨#[]⟩ : ByteArray), .string (⟨#[]⟩ : ByteArray), .string (⟨#[]⟩ : ByteArray), .int .i64 0, .int .i64 0]) ?_ 2 _ rfl; (with_reducible repeat (first | refine blk_drewN ?_ _ | refine blk_drew ?_ | refine blk_alloc ?_ _)); refine blk_put (cs := #[.int .i64 5, .string (⟨#[]⟩ : ByteArray), .string (⟨#[]⟩ : ByteArray), .string (⟨#[]⟩ : ByteArray), .string (⟨#[]⟩ : ByteArray), .int .i64 0, .int .i64 0]) ?_ 1 _ rfl; (with_reducible repeat (first | refine blk_drewN ?_ _ | refine blk_drew ?_ | refine blk_alloc ?_ _)); refine blk_put (cs := #[.int .i64 0, .string (⟨#[]⟩ : ByteArray), .string (⟨#[]⟩ : ByteArray), .string (⟨#[]⟩ : ByteArray), .string (⟨#[]⟩ : ByteArray), .int .i64 0, .int .i64 0]) ?_ 0 _ rfl; (with_reducible repeat (first | refine blk_drewN ?_ _ | refine blk_drew ?_ | refine blk_alloc ?_ _)); exact BK446.out⟩, ⟨by repeat (first | (with_reducible first | exact HB.out | apply below_alloc | apply pw_below_drewN | apply below_drew1 | refine below_set ?_ GE446.out) | exact HB.out)⟩⟩
              · rw [if_neg c20] at H
                have c20b0 : ((Go.bits .and .i64 a1 3) == 2) = false := beq_eq_false_iff_ne.mpr c20
                have c20b1 : ((Go.bits .and .i64 a1 3) != 2) = true := bne_iff_ne.mpr c20
                have H' := Aside0.mk H
                clear H
                have hcz22_0 : w14.cell? ⟨gb446, 0, none⟩ = some (.int .i64 0) := (blk_cell BK446.out 0).trans rfl
                have hcz22_1 : w14.cell? ⟨gb446, 1, none⟩ = some (.string (⟨#[]⟩ : ByteArray)) := (blk_cell BK446.out 1).trans rfl
                have hcz22_2 : w14.cell? ⟨gb446, 2, none⟩ = some (.string (⟨#[]⟩ : ByteArray)) := (blk_cell BK446.out 2).trans rfl
                have hcz22_3 : w14.cell? ⟨gb446, 3, none⟩ = some (.string (⟨#[]⟩ : ByteArray)) := (blk_cell BK446.out 3).trans rfl
                have hcz22_4 : w14.cell? ⟨gb446, 4, none⟩ = some (.string (⟨#[]⟩ : ByteArray)) := (blk_cell BK446.out 4).trans rfl
                have hcz22_5 : w14.cell? ⟨gb446, 5, none⟩ = some (.int .i64 0) := (blk_cell BK446.out 5).trans rfl
                have hcz22_6 : w14.cell? ⟨gb446, 6, none⟩ = some (.int .i64 0) := (blk_cell BK446.out 6).trans rfl
                have hfz22_0 := blk_frozen BK446.out 0
                have hfz22_1 := blk_frozen BK446.out 1
                have hfz22_2 := blk_frozen BK446.out 2
                have hfz22_3 := blk_frozen BK446.out 3
                have hfz22_4 := blk_frozen BK446.out 4
                have hfz22_5 := blk_frozen BK446.out 5
                have hfz22_6 := blk_frozen BK446.out 6
                go_wp2
                go_meet
                case rel => exact ⟨_, ((⟨#[]⟩ : ByteArray)), ((⟨#[]⟩ : ByteArray)), ((⟨#[]⟩ : ByteArray)), (strOfNums y443), H', ⟨by first | omega | exact Nat.le_refl _⟩, ⟨by (with_reducible repeat (first | refine blk_drewN ?_ _ | refine blk_drew ?_ | refine blk_alloc ?_ _)); refine blk_put (cs := #[.int .i64 5, .string (⟨#[]⟩ : ByteArray), .string (⟨#[]⟩ : ByteArray), .string (⟨#[]⟩ : ByteArray), .string (⟨#[]⟩ : ByteArray), .int .i64 0, .int .i64 0]) ?_ 4 _ rfl; (with_reducible repeat (first | refine blk_drewN ?_ _ | refine blk_drew ?_ | refine blk_alloc ?_ _)); refine blk_put (cs := #[.int .i64 5, .string (⟨#[]⟩ : ByteArray), .string (⟨#[]⟩ : ByteArray), .string (⟨#[]⟩ : ByteArray), .string (⟨#[]⟩ : ByteArray), .int .i64 0, .int .i64 0]) ?_ 6 _ rfl; (with_reducible repeat (first | refine blk_drewN ?_ _ | refine blk_drew ?_ | refine blk_alloc ?_ _)); refine blk_put (cs := #[.int .i64 5, .string (⟨#[]⟩ : ByteArray), .string (⟨#[]⟩ : ByteArray), .string (⟨#[]⟩ : ByteArray), .string (⟨#[]⟩ : ByteArray), .int .i64 0, .int .i64 0]) ?_ 5 _ rfl; (with_reducible repeat (first | refine blk_drewN ?_ _ | refine blk_drew ?_ | refine blk_alloc ?_ _)); refine blk_put (cs := #[.int .i64 5, .string (⟨#[]⟩ : ByteArray), .string (⟨#[]⟩ : ByteArray), .string (⟨#[]⟩ : ByteArray), .string (⟨#[]⟩ : ByteArray), .int .i64 0, .int .i64 0]) ?_ 4 _ rfl; (with_reducible repeat (first | refine blk_drewN ?_ _ | refine blk_drew ?_ | refine blk_alloc ?_ _)); refine blk_put (cs := #[.int .i64 5, .string (⟨#[]⟩ : ByteArray), .string (⟨#[]⟩ : ByteArray), .string (⟨#[]⟩ : ByteArray), .string (⟨#[]⟩ : ByteArray), .int .i64 0, .int .i64 0]) ?_ 3 _ rfl; (with_reducible repeat (first | refine blk_drewN ?_ _ | refine blk_drew ?_ | refine blk_alloc ?_ _)); refine blk_put (cs := #[.int .i64 5, .string (⟨#[]⟩ : ByteArray), .string (⟨#[]⟩ : ByteArray), .string (⟨#[]⟩ : ByteArray), .string (⟨#[]⟩ : ByteArray), .int .i64 0, .int .i64 0]) ?_ 2 _ rfl; (with_reducible repeat (first | refine blk_drewN ?_ _ | refine blk_drew ?_ | refine blk_alloc ?_ _)); refine blk_put (cs := #[.int .i64 5, .string (⟨#[]⟩ : ByteArray), .string (⟨#[]⟩ : ByteArray), .string (⟨#[]⟩ : ByteArray), .string (⟨#[]⟩ : ByteArray), .int .i64 0, .int .i64 0]) ?_ 1 _ rfl; (with_reducible repeat (first | refine blk_drewN ?_ _ | refine blk_drew ?_ | refine blk_alloc ?_ _)); refine blk_put (cs := #[.int .i64 0, .string (⟨#[]⟩ : ByteArray), .string (⟨#[]⟩ : ByteArray), .string (⟨#[]⟩ : ByteArray), .string (⟨#[]⟩ : ByteArray), .int .i64 0, .int .i64 0]) ?_ 0 _ rfl; (with_reducible repeat (first | refine blk_drewN ?_ _ | refine blk_drew ?_ | refine blk_alloc ?_ _)); exact BK446.out⟩, ⟨by repeat (first | (with_reducible first | exact HB.out | apply below_alloc | apply pw_below_drewN | apply below_drew1 | refine below_set ?_ GE446.out) | exact HB.out)⟩⟩
        case rest =>
          clear HC8
          try clear c1
          try clear hcv1
          try clear c2
          try clear p2
          try clear c4
          try clear c6
          try clear c6b0
          try clear c6b1
          try clear p6
          try clear c7
          try clear c7b0
          try clear c7b1
          try clear c12
          try clear hcv12
          try clear hcv13
          try clear c16
          try clear c16b0
          try clear c16b1
          try clear c18
          try clear c18b0
          try clear c18b1
          try clear c20
          try clear c20b0
          try clear c20b1
          try clear hcz15_0
          try clear hcz15_1
          try clear hcz15_2
          try clear hcz15_3
          try clear hcz15_4
          try clear hcz15_5
          try clear hcz15_6
          try clear hcz17_0
          try clear hcz17_1
          try clear hcz17_2
          try clear hcz17_3
          try clear hcz17_4
          try clear hcz17_5
          try clear hcz17_6
          try clear hcz19_0
          try clear hcz19_1
          try clear hcz19_2
          try clear hcz19_3
          try clear hcz19_4
          try clear hcz19_5
          try clear hcz19_6
          try clear hcz21_0
          try clear hcz21_1
          try clear hcz21_2
          try clear hcz21_3
          try clear hcz21_4
          try clear hcz21_5
          try clear hcz21_6
          try clear hcz22_0
          try clear hcz22_1
          try clear hcz22_2
          try clear hcz22_3
          try clear hcz22_4
          try clear hcz22_5
          try clear hcz22_6
          try clear hfz15_0
          try clear hfz15_1
          try clear hfz15_2
          try clear hfz15_3
          try clear hfz15_4
          try clear hfz15_5
          try clear hfz15_6
          try clear hfz17_0
          try clear hfz17_1
          try clear hfz17_2
          try clear hfz17_3
          try clear hfz17_4
          try clear hfz17_5
          try clear hfz17_6
          try clear hfz19_0
          try clear hfz19_1
          try clear hfz19_2
          try clear hfz19_3
          try clear hfz19_4
          try clear hfz19_5
          try clear hfz19_6
          try clear hfz21_0
          try clear hfz21_1
          try clear hfz21_2
          try clear hfz21_3
          try clear hfz21_4
          try clear hfz21_5
          try clear hfz21_6
          try clear hfz22_0
          try clear hfz22_1
          try clear hfz22_2
          try clear hfz22_3
          try clear hfz22_4
          try clear hfz22_5
          try clear hfz22_6
          obtain ⟨kq, x447001_7, x447002_7, x447003_7, x447004_7, HA, HJ7, BK446, HB⟩ := hcut
          cases kq with
          | zero => exact absurd HA.out (by simp [mailbaglaw18_WireLong.j0])
          | succ kj7 =>
            have H := HA.out
            clear HA
            simp only [mailbaglaw18_WireLong.j0] at H
            replace H := Option.bind_eq_some_iff.mp H
            obtain ⟨⟨t447, t448⟩, A230, H⟩ := H
            replace H : (if ji5 > 4096 then (if t448 = 1 then (if t447.toList = ([] : List UInt8) then ((wire_Ask_Right.f 5 x447001_7 x447002_7 x447003_7 x447004_7 0 0).bind fun t449 => (some (!t449))) else (some false)) else (some false)) else ((wire_ReadAsk.f kj7 t447).bind fun bt450 => (if t448 = 0 then (if bt450.2.2.2.2.2.2.2 = 0 then (some (bt450.1 == 5 && (bt450.2.1.toList == x447001_7.toList && (bt450.2.2.1.toList == x447002_7.toList && (bt450.2.2.2.1.toList == x447003_7.toList && (bt450.2.2.2.2.1.toList == x447004_7.toList && (bt450.2.2.2.2.2.1 == 0 && (bt450.2.2.2.2.2.2.1 == 0)))))))) else (some false)) else (some false)))) = some r := H
            have A23 := Aside0.mk A230
            clear A230
            by_cases c24 : ji5 > 4096
            · rw [if_pos c24] at H
              have c24b0 : decide (4096 < ji5) = true := decide_eq_true c24
              clear c24
              by_cases c25 : t448 = 1
              · rw [if_pos c25] at H
                have c25b0 : (t448 == 1) = true := beq_iff_eq.mpr c25
                have c25b1 : (t448 != 1) = false := bne_eq_false_iff_eq.mpr c25
                clear c25
                by_cases c26 : t447.toList = ([] : List UInt8)
                · rw [if_pos c26] at H
                  have c26b0 : (t447.toList == ([] : List UInt8)) = true := beq_iff_eq.mpr c26
                  have c26b1 : (t447.toList != ([] : List UInt8)) = false := bne_eq_false_iff_eq.mpr c26
                  clear c26
                  replace H := Option.bind_eq_some_iff.mp H
                  obtain ⟨t449, A270, H⟩ := H
                  replace H : (some (!t449)) = some r := H
                  have A27 := Aside0.mk A270
                  clear A270
                  obtain rfl := Option.some.inj H
                  have hcz28_0 : wc.cell? ⟨gb446, 0, none⟩ = some (.int .i64 5) := (blk_cell BK446.out 0).trans rfl
                  have hcz28_1 : wc.cell? ⟨gb446, 1, none⟩ = some (.string x447001_7) := (blk_cell BK446.out 1).trans rfl
                  have hcz28_2 : wc.cell? ⟨gb446, 2, none⟩ = some (.string x447002_7) := (blk_cell BK446.out 2).trans rfl
                  have hcz28_3 : wc.cell? ⟨gb446, 3, none⟩ = some (.string x447003_7) := (blk_cell BK446.out 3).trans rfl
                  have hcz28_4 : wc.cell? ⟨gb446, 4, none⟩ = some (.string x447004_7) := (blk_cell BK446.out 4).trans rfl
                  have hcz28_5 : wc.cell? ⟨gb446, 5, none⟩ = some (.int .i64 0) := (blk_cell BK446.out 5).trans rfl
                  have hcz28_6 : wc.cell? ⟨gb446, 6, none⟩ = some (.int .i64 0) := (blk_cell BK446.out 6).trans rfl
                  have hfz28_0 := blk_frozen BK446.out 0
                  have hfz28_1 := blk_frozen BK446.out 1
                  have hfz28_2 := blk_frozen BK446.out 2
                  have hfz28_3 := blk_frozen BK446.out 3
                  have hfz28_4 := blk_frozen BK446.out 4
                  have hfz28_5 := blk_frozen BK446.out 5
                  have hfz28_6 := blk_frozen BK446.out 6
                  go_wp2_with (first | ((with_reducible refine gate_callee (f := 19) rfl ?_); refine goesL_ (some 38) rfl rfl Try.func19 (by kernel_rfl) rfl #[.agg #[.int .i64 5, .string x447001_7, .string x447002_7, .string x447003_7, .string x447004_7, .int .i64 0, .int .i64 0]] rfl (by (try simp only [List.map_toArray, List.map_cons, List.map_nil]); first | done | rfl | (simp only [List.length_drop, List.length_take]; rfl)) ?_; (with_reducible refine (wire_Ask_Encode.calls kj7 5 x447001_7 x447002_7 x447003_7 x447004_7 0 0 t447 t448 _ A23.out).mono ?_); rintro e w29 ⟨rfl, hb⟩; refine ⟨_, rfl, ?_⟩; have n0_ := Aside0.mk (blk_below (g := gb446) (o := .cells #[.int .i64 5, .string x447001_7, .string x447002_7, .string x447003_7, .string x447004_7, .int .i64 0, .int .i64 0] 30 (0, 0)) (by (with_reducible repeat (first | refine blk_drewN ?_ _ | refine blk_drew ?_ | refine blk_alloc ?_ _)); exact BK446.out) hb); have n1_ := Aside0.mk (below_step (by repeat (first | (with_reducible first | exact HB.out | apply below_alloc | apply pw_below_drewN | apply below_drew1 | refine below_set ?_ GE446.out) | exact HB.out)) hb); clear BK446; clear HB; have BK446 := n0_; have HB := n1_; clear n0_ n1_; (try clear hb); (try clear hb2); (try clear hk); (try clear hi); have hcz30_0 : w29.cell? ⟨gb446, 0, none⟩ = some (.int .i64 5) := (blk_cell BK446.out 0).trans rfl; have hcz30_1 : w29.cell? ⟨gb446, 1, none⟩ = some (.string x447001_7) := (blk_cell BK446.out 1).trans rfl; have hcz30_2 : w29.cell? ⟨gb446, 2, none⟩ = some (.string x447002_7) := (blk_cell BK446.out 2).trans rfl; have hcz30_3 : w29.cell? ⟨gb446, 3, none⟩ = some (.string x447003_7) := (blk_cell BK446.out 3).trans rfl; have hcz30_4 : w29.cell? ⟨gb446, 4, none⟩ = some (.string x447004_7) := (blk_cell BK446.out 4).trans rfl; have hcz30_5 : w29.cell? ⟨gb446, 5, none⟩ = some (.int .i64 0) := (blk_cell BK446.out 5).trans rfl; have hcz30_6 : w29.cell? ⟨gb446, 6, none⟩ = some (.int .i64 0) := (blk_cell BK446.out 6).trans rfl; have hfz30_0 := blk_frozen BK446.out 0; have hfz30_1 := blk_frozen BK446.out 1; have hfz30_2 := blk_frozen BK446.out 2; have hfz30_3 := blk_frozen BK446.out 3; have hfz30_4 := blk_frozen BK446.out 4; have hfz30_5 := blk_frozen BK446.out 5; have hfz30_6 := blk_frozen BK446.out 6) | (go_at_call 32; (with_reducible refine (wire_Ask_Right.calls 5 x447001_7 x447002_7 x447003_7 x447004_7 0 0 t449 _ A27.out).mono ?_); rintro e w31 ⟨rfl, hb⟩; have n0_ := Aside0.mk (blk_below (g := gb446) (o := .cells #[.int .i64 5, .string x447001_7, .string x447002_7, .string x447003_7, .string x447004_7, .int .i64 0, .int .i64 0] 30 (0, 0)) (by (with_reducible repeat (first | refine blk_drewN ?_ _ | refine blk_drew ?_ | refine blk_alloc ?_ _)); exact BK446.out) hb); have n1_ := Aside0.mk (below_step (by repeat (first | (with_reducible first | exact HB.out | apply below_alloc | apply pw_below_drewN | apply below_drew1 | refine below_set ?_ GE446.out) | exact HB.out)) hb); clear BK446; clear HB; have BK446 := n0_; have HB := n1_; clear n0_ n1_; (try clear hb); (try clear hb2); (try clear hk); (try clear hi)))
                  go_ret
                  exact ⟨by first | rfl | (simp [errW_none, errW_some] <;> rfl) | (simp only [← hji5]; first | rfl | (simp [errW_none, errW_some] <;> rfl)) | (simp [*, errW_none, errW_some] <;> rfl), by repeat (first | (with_reducible first | exact HB.out | apply below_alloc | apply pw_below_drewN | apply below_drew1 | refine below_set ?_ GE446.out) | exact HB.out)⟩
                · rw [if_neg c26] at H
                  have c26b0 : (t447.toList == ([] : List UInt8)) = false := beq_eq_false_iff_ne.mpr c26
                  have c26b1 : (t447.toList != ([] : List UInt8)) = true := bne_iff_ne.mpr c26
                  obtain rfl := Option.some.inj H
                  have hcz32_0 : wc.cell? ⟨gb446, 0, none⟩ = some (.int .i64 5) := (blk_cell BK446.out 0).trans rfl
                  have hcz32_1 : wc.cell? ⟨gb446, 1, none⟩ = some (.string x447001_7) := (blk_cell BK446.out 1).trans rfl
                  have hcz32_2 : wc.cell? ⟨gb446, 2, none⟩ = some (.string x447002_7) := (blk_cell BK446.out 2).trans rfl
                  have hcz32_3 : wc.cell? ⟨gb446, 3, none⟩ = some (.string x447003_7) := (blk_cell BK446.out 3).trans rfl
                  have hcz32_4 : wc.cell? ⟨gb446, 4, none⟩ = some (.string x447004_7) := (blk_cell BK446.out 4).trans rfl
                  have hcz32_5 : wc.cell? ⟨gb446, 5, none⟩ = some (.int .i64 0) := (blk_cell BK446.out 5).trans rfl
                  have hcz32_6 : wc.cell? ⟨gb446, 6, none⟩ = some (.int .i64 0) := (blk_cell BK446.out 6).trans rfl
                  have hfz32_0 := blk_frozen BK446.out 0
                  have hfz32_1 := blk_frozen BK446.out 1
                  have hfz32_2 := blk_frozen BK446.out 2
                  have hfz32_3 := blk_frozen BK446.out 3
                  have hfz32_4 := blk_frozen BK446.out 4
                  have hfz32_5 := blk_frozen BK446.out 5
                  have hfz32_6 := blk_frozen BK446.out 6
                  go_wp2_with (first | ((with_reducible refine gate_callee (f := 19) rfl ?_); refine goesL_ (some 38) rfl rfl Try.func19 (by kernel_rfl) rfl #[.agg #[.int .i64 5, .string x447001_7, .string x447002_7, .string x447003_7, .string x447004_7, .int .i64 0, .int .i64 0]] rfl (by (try simp only [List.map_toArray, List.map_cons, List.map_nil]); first | done | rfl | (simp only [List.length_drop, List.length_take]; rfl)) ?_; (with_reducible refine (wire_Ask_Encode.calls kj7 5 x447001_7 x447002_7 x447003_7 x447004_7 0 0 t447 t448 _ A23.out).mono ?_); rintro e w33 ⟨rfl, hb⟩; refine ⟨_, rfl, ?_⟩; have n0_ := Aside0.mk (blk_below (g := gb446) (o := .cells #[.int .i64 5, .string x447001_7, .string x447002_7, .string x447003_7, .string x447004_7, .int .i64 0, .int .i64 0] 30 (0, 0)) (by (with_reducible repeat (first | refine blk_drewN ?_ _ | refine blk_drew ?_ | refine blk_alloc ?_ _)); exact BK446.out) hb); have n1_ := Aside0.mk (below_step (by repeat (first | (with_reducible first | exact HB.out | apply below_alloc | apply pw_below_drewN | apply below_drew1 | refine below_set ?_ GE446.out) | exact HB.out)) hb); clear BK446; clear HB; have BK446 := n0_; have HB := n1_; clear n0_ n1_; (try clear hb); (try clear hb2); (try clear hk); (try clear hi)))
                  go_ret
                  exact ⟨by first | rfl | (simp [errW_none, errW_some] <;> rfl) | (simp only [← hji5]; first | rfl | (simp [errW_none, errW_some] <;> rfl)) | (simp [*, errW_none, errW_some] <;> rfl), by repeat (first | (with_reducible first | exact HB.out | apply below_alloc | apply pw_below_drewN | apply below_drew1 | refine below_set ?_ GE446.out) | exact HB.out)⟩
              · rw [if_neg c25] at H
                have c25b0 : (t448 == 1) = false := beq_eq_false_iff_ne.mpr c25
                have c25b1 : (t448 != 1) = true := bne_iff_ne.mpr c25
                obtain rfl := Option.some.inj H
                have hcz34_0 : wc.cell? ⟨gb446, 0, none⟩ = some (.int .i64 5) := (blk_cell BK446.out 0).trans rfl
                have hcz34_1 : wc.cell? ⟨gb446, 1, none⟩ = some (.string x447001_7) := (blk_cell BK446.out 1).trans rfl
                have hcz34_2 : wc.cell? ⟨gb446, 2, none⟩ = some (.string x447002_7) := (blk_cell BK446.out 2).trans rfl
                have hcz34_3 : wc.cell? ⟨gb446, 3, none⟩ = some (.string x447003_7) := (blk_cell BK446.out 3).trans rfl
                have hcz34_4 : wc.cell? ⟨gb446, 4, none⟩ = some (.string x447004_7) := (blk_cell BK446.out 4).trans rfl
                have hcz34_5 : wc.cell? ⟨gb446, 5, none⟩ = some (.int .i64 0) := (blk_cell BK446.out 5).trans rfl
                have hcz34_6 : wc.cell? ⟨gb446, 6, none⟩ = some (.int .i64 0) := (blk_cell BK446.out 6).trans rfl
                have hfz34_0 := blk_frozen BK446.out 0
                have hfz34_1 := blk_frozen BK446.out 1
                have hfz34_2 := blk_frozen BK446.out 2
                have hfz34_3 := blk_frozen BK446.out 3
                have hfz34_4 := blk_frozen BK446.out 4
                have hfz34_5 := blk_frozen BK446.out 5
                have hfz34_6 := blk_frozen BK446.out 6
                go_wp2_with (first | ((with_reducible refine gate_callee (f := 19) rfl ?_); refine goesL_ (some 38) rfl rfl Try.func19 (by kernel_rfl) rfl #[.agg #[.int .i64 5, .string x447001_7, .string x447002_7, .string x447003_7, .string x447004_7, .int .i64 0, .int .i64 0]] rfl (by (try simp only [List.map_toArray, List.map_cons, List.map_nil]); first | done | rfl | (simp only [List.length_drop, List.length_take]; rfl)) ?_; (with_reducible refine (wire_Ask_Encode.calls kj7 5 x447001_7 x447002_7 x447003_7 x447004_7 0 0 t447 t448 _ A23.out).mono ?_); rintro e w35 ⟨rfl, hb⟩; refine ⟨_, rfl, ?_⟩; have n0_ := Aside0.mk (blk_below (g := gb446) (o := .cells #[.int .i64 5, .string x447001_7, .string x447002_7, .string x447003_7, .string x447004_7, .int .i64 0, .int .i64 0] 30 (0, 0)) (by (with_reducible repeat (first | refine blk_drewN ?_ _ | refine blk_drew ?_ | refine blk_alloc ?_ _)); exact BK446.out) hb); have n1_ := Aside0.mk (below_step (by repeat (first | (with_reducible first | exact HB.out | apply below_alloc | apply pw_below_drewN | apply below_drew1 | refine below_set ?_ GE446.out) | exact HB.out)) hb); clear BK446; clear HB; have BK446 := n0_; have HB := n1_; clear n0_ n1_; (try clear hb); (try clear hb2); (try clear hk); (try clear hi)))
                go_ret
                exact ⟨by first | rfl | (simp [errW_none, errW_some] <;> rfl) | (simp only [← hji5]; first | rfl | (simp [errW_none, errW_some] <;> rfl)) | (simp [*, errW_none, errW_some] <;> rfl), by repeat (first | (with_reducible first | exact HB.out | apply below_alloc | apply pw_below_drewN | apply below_drew1 | refine below_set ?_ GE446.out) | exact HB.out)⟩
            · rw [if_neg c24] at H
              have c24b0 : decide (4096 < ji5) = false := decide_eq_false c24
              clear c24
              replace H := Option.bind_eq_some_iff.mp H
              obtain ⟨⟨t450, t451, t452, t453, t454, t455, t456, t457⟩, A360, H⟩ := H
              replace H : (if t448 = 0 then (if t457 = 0 then (some (t450 == 5 && (t451.toList == x447001_7.toList && (t452.toList == x447002_7.toList && (t453.toList == x447003_7.toList && (t454.toList == x447004_7.toList && (t455 == 0 && (t456 == 0)))))))) else (some false)) else (some false)) = some r := H
              have A36 := Aside0.mk A360
              clear A360
              by_cases c37 : t448 = 0
              · rw [if_pos c37] at H
                have c37b0 : (t448 == 0) = true := beq_iff_eq.mpr c37
                have c37b1 : (t448 != 0) = false := bne_eq_false_iff_eq.mpr c37
                clear c37
                by_cases c38 : t457 = 0
                · rw [if_pos c38] at H
                  have c38b0 : (t457 == 0) = true := beq_iff_eq.mpr c38
                  have c38b1 : (t457 != 0) = false := bne_eq_false_iff_eq.mpr c38
                  clear c38
                  obtain rfl := Option.some.inj H
                  have hcz39_0 : wc.cell? ⟨gb446, 0, none⟩ = some (.int .i64 5) := (blk_cell BK446.out 0).trans rfl
                  have hcz39_1 : wc.cell? ⟨gb446, 1, none⟩ = some (.string x447001_7) := (blk_cell BK446.out 1).trans rfl
                  have hcz39_2 : wc.cell? ⟨gb446, 2, none⟩ = some (.string x447002_7) := (blk_cell BK446.out 2).trans rfl
                  have hcz39_3 : wc.cell? ⟨gb446, 3, none⟩ = some (.string x447003_7) := (blk_cell BK446.out 3).trans rfl
                  have hcz39_4 : wc.cell? ⟨gb446, 4, none⟩ = some (.string x447004_7) := (blk_cell BK446.out 4).trans rfl
                  have hcz39_5 : wc.cell? ⟨gb446, 5, none⟩ = some (.int .i64 0) := (blk_cell BK446.out 5).trans rfl
                  have hcz39_6 : wc.cell? ⟨gb446, 6, none⟩ = some (.int .i64 0) := (blk_cell BK446.out 6).trans rfl
                  have hfz39_0 := blk_frozen BK446.out 0
                  have hfz39_1 := blk_frozen BK446.out 1
                  have hfz39_2 := blk_frozen BK446.out 2
                  have hfz39_3 := blk_frozen BK446.out 3
                  have hfz39_4 := blk_frozen BK446.out 4
                  have hfz39_5 := blk_frozen BK446.out 5
                  have hfz39_6 := blk_frozen BK446.out 6
                  go_wp2_with (first | ((with_reducible refine gate_callee (f := 19) rfl ?_); refine goesL_ (some 38) rfl rfl Try.func19 (by kernel_rfl) rfl #[.agg #[.int .i64 5, .string x447001_7, .string x447002_7, .string x447003_7, .string x447004_7, .int .i64 0, .int .i64 0]] rfl (by (try simp only [List.map_toArray, List.map_cons, List.map_nil]); first | done | rfl | (simp only [List.length_drop, List.length_take]; rfl)) ?_; (with_reducible refine (wire_Ask_Encode.calls kj7 5 x447001_7 x447002_7 x447003_7 x447004_7 0 0 t447 t448 _ A23.out).mono ?_); rintro e w40 ⟨rfl, hb⟩; refine ⟨_, rfl, ?_⟩; have n0_ := Aside0.mk (blk_below (g := gb446) (o := .cells #[.int .i64 5, .string x447001_7, .string x447002_7, .string x447003_7, .string x447004_7, .int .i64 0, .int .i64 0] 30 (0, 0)) (by (with_reducible repeat (first | refine blk_drewN ?_ _ | refine blk_drew ?_ | refine blk_alloc ?_ _)); exact BK446.out) hb); have n1_ := Aside0.mk (below_step (by repeat (first | (with_reducible first | exact HB.out | apply below_alloc | apply pw_below_drewN | apply below_drew1 | refine below_set ?_ GE446.out) | exact HB.out)) hb); clear BK446; clear HB; have BK446 := n0_; have HB := n1_; clear n0_ n1_; (try clear hb); (try clear hb2); (try clear hk); (try clear hi)) | ((with_reducible refine gate_callee (f := 34) rfl ?_); refine goesL_ (some 56) rfl rfl Try.func34 (by kernel_rfl) rfl #[.string t447] rfl (by (try simp only [List.map_toArray, List.map_cons, List.map_nil]); first | done | rfl | (simp only [List.length_drop, List.length_take]; rfl)) ?_; (with_reducible refine (wire_ReadAsk.calls kj7 t447 t450 t451 t452 t453 t454 t455 t456 t457 _ A36.out).mono ?_); rintro e w41 ⟨rfl, hb⟩; refine ⟨_, rfl, ?_⟩; have n0_ := Aside0.mk (blk_below (g := gb446) (o := .cells #[.int .i64 5, .string x447001_7, .string x447002_7, .string x447003_7, .string x447004_7, .int .i64 0, .int .i64 0] 30 (0, 0)) (by (with_reducible repeat (first | refine blk_drewN ?_ _ | refine blk_drew ?_ | refine blk_alloc ?_ _)); exact BK446.out) hb); have n1_ := Aside0.mk (below_step (by repeat (first | (with_reducible first | exact HB.out | apply below_alloc | apply pw_below_drewN | apply below_drew1 | refine below_set ?_ GE446.out) | exact HB.out)) hb); clear BK446; clear HB; have BK446 := n0_; have HB := n1_; clear n0_ n1_; (try clear hb); (try clear hb2); (try clear hk); (try clear hi)) | ((with_reducible refine gate_dst (N := 9) rfl ?_); refine box_event ?hg (N := 9) ?hd (cs := #[.int .i64 0, .string (⟨#[]⟩ : ByteArray), .string (⟨#[]⟩ : ByteArray), .string (⟨#[]⟩ : ByteArray), .string (⟨#[]⟩ : ByteArray), .int .i64 0, .int .i64 0]) (t := 30) ?hr ?_; (case hd => rfl); (case hg => rfl); (case hr => first | (go_simp; done) | (go_simp; rfl)); intro gb458 hg w42 hbox hb; have n0_ := Aside0.mk (blk_below (g := gb446) (o := .cells #[.int .i64 5, .string x447001_7, .string x447002_7, .string x447003_7, .string x447004_7, .int .i64 0, .int .i64 0] 30 (0, 0)) (by (with_reducible repeat (first | refine blk_drewN ?_ _ | refine blk_drew ?_ | refine blk_alloc ?_ _)); exact BK446.out) hb); have n1_ := Aside0.mk (below_step (by repeat (first | (with_reducible first | exact HB.out | apply below_alloc | apply pw_below_drewN | apply below_drew1 | refine below_set ?_ GE446.out) | exact HB.out)) hb); have n2_ := Aside0.mk (hbox); have n3_ := Aside0.mk ((by rw [hg]; exact (below_size (by repeat (first | (with_reducible first | exact HB.out | apply below_alloc | apply pw_below_drewN | apply below_drew1 | refine below_set ?_ GE446.out) | exact HB.out))) : w.heap.size ≤ gb458)); have n4_ := Aside0.mk ((by rw [hg]; exact (below_size (by repeat (first | (with_reducible first | exact HB.out | apply below_alloc | apply pw_below_drewN | apply below_drew1 | refine below_set ?_ GE446.out) | exact HB.out))) : w.heap.size ≤ gb458)); have n5_ := Aside0.mk ((by rw [hg]; exact Nat.ne_of_lt (blk_lt (g := gb446) (o := .cells #[.int .i64 5, .string x447001_7, .string x447002_7, .string x447003_7, .string x447004_7, .int .i64 0, .int .i64 0] 30 (0, 0)) (by (with_reducible repeat (first | refine blk_drewN ?_ _ | refine blk_drew ?_ | refine blk_alloc ?_ _)); exact BK446.out)) : gb446 ≠ gb458)); have n6_ := Aside0.mk ((by rw [hg]; exact Nat.ne_of_gt (blk_lt (g := gb446) (o := .cells #[.int .i64 5, .string x447001_7, .string x447002_7, .string x447003_7, .string x447004_7, .int .i64 0, .int .i64 0] 30 (0, 0)) (by (with_reducible repeat (first | refine blk_drewN ?_ _ | refine blk_drew ?_ | refine blk_alloc ?_ _)); exact BK446.out)) : gb458 ≠ gb446)); clear BK446; clear HB; have BK446 := n0_; have HB := n1_; have BK458 := n2_; have GW458 := n3_; have GE458 := n4_; have NB446_458 := n5_; have NB458_446 := n6_; clear n0_ n1_ n2_ n3_ n4_ n5_ n6_; clear hb hbox hg; have hnb43 := NB458_446.out; have hnc43 := NB446_458.out; have hcz44_0 : w42.cell? ⟨gb458, 0, none⟩ = some (.int .i64 0) := (blk_cell BK458.out 0).trans rfl; have hcz44_1 : w42.cell? ⟨gb458, 1, none⟩ = some (.string (⟨#[]⟩ : ByteArray)) := (blk_cell BK458.out 1).trans rfl; have hcz44_2 : w42.cell? ⟨gb458, 2, none⟩ = some (.string (⟨#[]⟩ : ByteArray)) := (blk_cell BK458.out 2).trans rfl; have hcz44_3 : w42.cell? ⟨gb458, 3, none⟩ = some (.string (⟨#[]⟩ : ByteArray)) := (blk_cell BK458.out 3).trans rfl; have hcz44_4 : w42.cell? ⟨gb458, 4, none⟩ = some (.string (⟨#[]⟩ : ByteArray)) := (blk_cell BK458.out 4).trans rfl; have hcz44_5 : w42.cell? ⟨gb458, 5, none⟩ = some (.int .i64 0) := (blk_cell BK458.out 5).trans rfl; have hcz44_6 : w42.cell? ⟨gb458, 6, none⟩ = some (.int .i64 0) := (blk_cell BK458.out 6).trans rfl; have hfz44_0 := blk_frozen BK458.out 0; have hfz44_1 := blk_frozen BK458.out 1; have hfz44_2 := blk_frozen BK458.out 2; have hfz44_3 := blk_frozen BK458.out 3; have hfz44_4 := blk_frozen BK458.out 4; have hfz44_5 := blk_frozen BK458.out 5; have hfz44_6 := blk_frozen BK458.out 6; have hcz45_0 : w42.cell? ⟨gb446, 0, none⟩ = some (.int .i64 5) := (blk_cell BK446.out 0).trans rfl; have hcz45_1 : w42.cell? ⟨gb446, 1, none⟩ = some (.string x447001_7) := (blk_cell BK446.out 1).trans rfl; have hcz45_2 : w42.cell? ⟨gb446, 2, none⟩ = some (.string x447002_7) := (blk_cell BK446.out 2).trans rfl; have hcz45_3 : w42.cell? ⟨gb446, 3, none⟩ = some (.string x447003_7) := (blk_cell BK446.out 3).trans rfl; have hcz45_4 : w42.cell? ⟨gb446, 4, none⟩ = some (.string x447004_7) := (blk_cell BK446.out 4).trans rfl; have hcz45_5 : w42.cell? ⟨gb446, 5, none⟩ = some (.int .i64 0) := (blk_cell BK446.out 5).trans rfl; have hcz45_6 : w42.cell? ⟨gb446, 6, none⟩ = some (.int .i64 0) := (blk_cell BK446.out 6).trans rfl; have hfz45_0 := blk_frozen BK446.out 0; have hfz45_1 := blk_frozen BK446.out 1; have hfz45_2 := blk_frozen BK446.out 2; have hfz45_3 := blk_frozen BK446.out 3; have hfz45_4 := blk_frozen BK446.out 4; have hfz45_5 := blk_frozen BK446.out 5; have hfz45_6 := blk_frozen BK446.out 6))
                  go_ret
                  exact ⟨by first | rfl | (simp [errW_none, errW_some] <;> rfl) | (simp only [← hji5]; first | rfl | (simp [errW_none, errW_some] <;> rfl)) | (simp [*, errW_none, errW_some] <;> rfl), by repeat (first | (with_reducible first | exact HB.out | apply below_alloc | apply pw_below_drewN | apply below_drew1 | refine below_set ?_ GE446.out | refine below_set ?_ GE458.out) | exact HB.out)⟩
                · rw [if_neg c38] at H
                  have c38b0 : (t457 == 0) = false := beq_eq_false_iff_ne.mpr c38
                  have c38b1 : (t457 != 0) = true := bne_iff_ne.mpr c38
                  obtain rfl := Option.some.inj H
                  have hcz46_0 : wc.cell? ⟨gb446, 0, none⟩ = some (.int .i64 5) := (blk_cell BK446.out 0).trans rfl
                  have hcz46_1 : wc.cell? ⟨gb446, 1, none⟩ = some (.string x447001_7) := (blk_cell BK446.out 1).trans rfl
                  have hcz46_2 : wc.cell? ⟨gb446, 2, none⟩ = some (.string x447002_7) := (blk_cell BK446.out 2).trans rfl
                  have hcz46_3 : wc.cell? ⟨gb446, 3, none⟩ = some (.string x447003_7) := (blk_cell BK446.out 3).trans rfl
                  have hcz46_4 : wc.cell? ⟨gb446, 4, none⟩ = some (.string x447004_7) := (blk_cell BK446.out 4).trans rfl
                  have hcz46_5 : wc.cell? ⟨gb446, 5, none⟩ = some (.int .i64 0) := (blk_cell BK446.out 5).trans rfl
                  have hcz46_6 : wc.cell? ⟨gb446, 6, none⟩ = some (.int .i64 0) := (blk_cell BK446.out 6).trans rfl
                  have hfz46_0 := blk_frozen BK446.out 0
                  have hfz46_1 := blk_frozen BK446.out 1
                  have hfz46_2 := blk_frozen BK446.out 2
                  have hfz46_3 := blk_frozen BK446.out 3
                  have hfz46_4 := blk_frozen BK446.out 4
                  have hfz46_5 := blk_frozen BK446.out 5
                  have hfz46_6 := blk_frozen BK446.out 6
                  go_wp2_with (first | ((with_reducible refine gate_callee (f := 19) rfl ?_); refine goesL_ (some 38) rfl rfl Try.func19 (by kernel_rfl) rfl #[.agg #[.int .i64 5, .string x447001_7, .string x447002_7, .string x447003_7, .string x447004_7, .int .i64 0, .int .i64 0]] rfl (by (try simp only [List.map_toArray, List.map_cons, List.map_nil]); first | done | rfl | (simp only [List.length_drop, List.length_take]; rfl)) ?_; (with_reducible refine (wire_Ask_Encode.calls kj7 5 x447001_7 x447002_7 x447003_7 x447004_7 0 0 t447 t448 _ A23.out).mono ?_); rintro e w47 ⟨rfl, hb⟩; refine ⟨_, rfl, ?_⟩; have n0_ := Aside0.mk (blk_below (g := gb446) (o := .cells #[.int .i64 5, .string x447001_7, .string x447002_7, .string x447003_7, .string x447004_7, .int .i64 0, .int .i64 0] 30 (0, 0)) (by (with_reducible repeat (first | refine blk_drewN ?_ _ | refine blk_drew ?_ | refine blk_alloc ?_ _)); exact BK446.out) hb); have n1_ := Aside0.mk (below_step (by repeat (first | (with_reducible first | exact HB.out | apply below_alloc | apply pw_below_drewN | apply below_drew1 | refine below_set ?_ GE446.out) | exact HB.out)) hb); clear BK446; clear HB; have BK446 := n0_; have HB := n1_; clear n0_ n1_; (try clear hb); (try clear hb2); (try clear hk); (try clear hi)) | ((with_reducible refine gate_callee (f := 34) rfl ?_); refine goesL_ (some 56) rfl rfl Try.func34 (by kernel_rfl) rfl #[.string t447] rfl (by (try simp only [List.map_toArray, List.map_cons, List.map_nil]); first | done | rfl | (simp only [List.length_drop, List.length_take]; rfl)) ?_; (with_reducible refine (wire_ReadAsk.calls kj7 t447 t450 t451 t452 t453 t454 t455 t456 t457 _ A36.out).mono ?_); rintro e w48 ⟨rfl, hb⟩; refine ⟨_, rfl, ?_⟩; have n0_ := Aside0.mk (blk_below (g := gb446) (o := .cells #[.int .i64 5, .string x447001_7, .string x447002_7, .string x447003_7, .string x447004_7, .int .i64 0, .int .i64 0] 30 (0, 0)) (by (with_reducible repeat (first | refine blk_drewN ?_ _ | refine blk_drew ?_ | refine blk_alloc ?_ _)); exact BK446.out) hb); have n1_ := Aside0.mk (below_step (by repeat (first | (with_reducible first | exact HB.out | apply below_alloc | apply pw_below_drewN | apply below_drew1 | refine below_set ?_ GE446.out) | exact HB.out)) hb); clear BK446; clear HB; have BK446 := n0_; have HB := n1_; clear n0_ n1_; (try clear hb); (try clear hb2); (try clear hk); (try clear hi)) | ((with_reducible refine gate_dst (N := 9) rfl ?_); refine box_event ?hg (N := 9) ?hd (cs := #[.int .i64 0, .string (⟨#[]⟩ : ByteArray), .string (⟨#[]⟩ : ByteArray), .string (⟨#[]⟩ : ByteArray), .string (⟨#[]⟩ : ByteArray), .int .i64 0, .int .i64 0]) (t := 30) ?hr ?_; (case hd => rfl); (case hg => rfl); (case hr => first | (go_simp; done) | (go_simp; rfl)); intro gb458 hg w49 hbox hb; have n0_ := Aside0.mk (blk_below (g := gb446) (o := .cells #[.int .i64 5, .string x447001_7, .string x447002_7, .string x447003_7, .string x447004_7, .int .i64 0, .int .i64 0] 30 (0, 0)) (by (with_reducible repeat (first | refine blk_drewN ?_ _ | refine blk_drew ?_ | refine blk_alloc ?_ _)); exact BK446.out) hb); have n1_ := Aside0.mk (below_step (by repeat (first | (with_reducible first | exact HB.out | apply below_alloc | apply pw_below_drewN | apply below_drew1 | refine below_set ?_ GE446.out) | exact HB.out)) hb); have n2_ := Aside0.mk (hbox); have n3_ := Aside0.mk ((by rw [hg]; exact (below_size (by repeat (first | (with_reducible first | exact HB.out | apply below_alloc | apply pw_below_drewN | apply below_drew1 | refine below_set ?_ GE446.out) | exact HB.out))) : w.heap.size ≤ gb458)); have n4_ := Aside0.mk ((by rw [hg]; exact (below_size (by repeat (first | (with_reducible first | exact HB.out | apply below_alloc | apply pw_below_drewN | apply below_drew1 | refine below_set ?_ GE446.out) | exact HB.out))) : w.heap.size ≤ gb458)); have n5_ := Aside0.mk ((by rw [hg]; exact Nat.ne_of_lt (blk_lt (g := gb446) (o := .cells #[.int .i64 5, .string x447001_7, .string x447002_7, .string x447003_7, .string x447004_7, .int .i64 0, .int .i64 0] 30 (0, 0)) (by (with_reducible repeat (first | refine blk_drewN ?_ _ | refine blk_drew ?_ | refine blk_alloc ?_ _)); exact BK446.out)) : gb446 ≠ gb458)); have n6_ := Aside0.mk ((by rw [hg]; exact Nat.ne_of_gt (blk_lt (g := gb446) (o := .cells #[.int .i64 5, .string x447001_7, .string x447002_7, .string x447003_7, .string x447004_7, .int .i64 0, .int .i64 0] 30 (0, 0)) (by (with_reducible repeat (first | refine blk_drewN ?_ _ | refine blk_drew ?_ | refine blk_alloc ?_ _)); exact BK446.out)) : gb458 ≠ gb446)); clear BK446; clear HB; have BK446 := n0_; have HB := n1_; have BK458 := n2_; have GW458 := n3_; have GE458 := n4_; have NB446_458 := n5_; have NB458_446 := n6_; clear n0_ n1_ n2_ n3_ n4_ n5_ n6_; clear hb hbox hg; have hnb50 := NB458_446.out; have hnc50 := NB446_458.out; have hcz51_0 : w49.cell? ⟨gb458, 0, none⟩ = some (.int .i64 0) := (blk_cell BK458.out 0).trans rfl; have hcz51_1 : w49.cell? ⟨gb458, 1, none⟩ = some (.string (⟨#[]⟩ : ByteArray)) := (blk_cell BK458.out 1).trans rfl; have hcz51_2 : w49.cell? ⟨gb458, 2, none⟩ = some (.string (⟨#[]⟩ : ByteArray)) := (blk_cell BK458.out 2).trans rfl; have hcz51_3 : w49.cell? ⟨gb458, 3, none⟩ = some (.string (⟨#[]⟩ : ByteArray)) := (blk_cell BK458.out 3).trans rfl; have hcz51_4 : w49.cell? ⟨gb458, 4, none⟩ = some (.string (⟨#[]⟩ : ByteArray)) := (blk_cell BK458.out 4).trans rfl; have hcz51_5 : w49.cell? ⟨gb458, 5, none⟩ = some (.int .i64 0) := (blk_cell BK458.out 5).trans rfl; have hcz51_6 : w49.cell? ⟨gb458, 6, none⟩ = some (.int .i64 0) := (blk_cell BK458.out 6).trans rfl; have hfz51_0 := blk_frozen BK458.out 0; have hfz51_1 := blk_frozen BK458.out 1; have hfz51_2 := blk_frozen BK458.out 2; have hfz51_3 := blk_frozen BK458.out 3; have hfz51_4 := blk_frozen BK458.out 4; have hfz51_5 := blk_frozen BK458.out 5; have hfz51_6 := blk_frozen BK458.out 6))
                  go_ret
                  exact ⟨by first | rfl | (simp [errW_none, errW_some] <;> rfl) | (simp only [← hji5]; first | rfl | (simp [errW_none, errW_some] <;> rfl)) | (simp [*, errW_none, errW_some] <;> rfl), by repeat (first | (with_reducible first | exact HB.out | apply below_alloc | apply pw_below_drewN | apply below_drew1 | refine below_set ?_ GE446.out | refine below_set ?_ GE458.out) | exact HB.out)⟩
              · rw [if_neg c37] at H
                have c37b0 : (t448 == 0) = false := beq_eq_false_iff_ne.mpr c37
                have c37b1 : (t448 != 0) = true := bne_iff_ne.mpr c37
                obtain rfl := Option.some.inj H
                have hcz52_0 : wc.cell? ⟨gb446, 0, none⟩ = some (.int .i64 5) := (blk_cell BK446.out 0).trans rfl
                have hcz52_1 : wc.cell? ⟨gb446, 1, none⟩ = some (.string x447001_7) := (blk_cell BK446.out 1).trans rfl
                have hcz52_2 : wc.cell? ⟨gb446, 2, none⟩ = some (.string x447002_7) := (blk_cell BK446.out 2).trans rfl
                have hcz52_3 : wc.cell? ⟨gb446, 3, none⟩ = some (.string x447003_7) := (blk_cell BK446.out 3).trans rfl
                have hcz52_4 : wc.cell? ⟨gb446, 4, none⟩ = some (.string x447004_7) := (blk_cell BK446.out 4).trans rfl
                have hcz52_5 : wc.cell? ⟨gb446, 5, none⟩ = some (.int .i64 0) := (blk_cell BK446.out 5).trans rfl
                have hcz52_6 : wc.cell? ⟨gb446, 6, none⟩ = some (.int .i64 0) := (blk_cell BK446.out 6).trans rfl
                have hfz52_0 := blk_frozen BK446.out 0
                have hfz52_1 := blk_frozen BK446.out 1
                have hfz52_2 := blk_frozen BK446.out 2
                have hfz52_3 := blk_frozen BK446.out 3
                have hfz52_4 := blk_frozen BK446.out 4
                have hfz52_5 := blk_frozen BK446.out 5
                have hfz52_6 := blk_frozen BK446.out 6
                go_wp2_with (first | ((with_reducible refine gate_callee (f := 19) rfl ?_); refine goesL_ (some 38) rfl rfl Try.func19 (by kernel_rfl) rfl #[.agg #[.int .i64 5, .string x447001_7, .string x447002_7, .string x447003_7, .string x447004_7, .int .i64 0, .int .i64 0]] rfl (by (try simp only [List.map_toArray, List.map_cons, List.map_nil]); first | done | rfl | (simp only [List.length_drop, List.length_take]; rfl)) ?_; (with_reducible refine (wire_Ask_Encode.calls kj7 5 x447001_7 x447002_7 x447003_7 x447004_7 0 0 t447 t448 _ A23.out).mono ?_); rintro e w53 ⟨rfl, hb⟩; refine ⟨_, rfl, ?_⟩; have n0_ := Aside0.mk (blk_below (g := gb446) (o := .cells #[.int .i64 5, .string x447001_7, .string x447002_7, .string x447003_7, .string x447004_7, .int .i64 0, .int .i64 0] 30 (0, 0)) (by (with_reducible repeat (first | refine blk_drewN ?_ _ | refine blk_drew ?_ | refine blk_alloc ?_ _)); exact BK446.out) hb); have n1_ := Aside0.mk (below_step (by repeat (first | (with_reducible first | exact HB.out | apply below_alloc | apply pw_below_drewN | apply below_drew1 | refine below_set ?_ GE446.out) | exact HB.out)) hb); clear BK446; clear HB; have BK446 := n0_; have HB := n1_; clear n0_ n1_; (try clear hb); (try clear hb2); (try clear hk); (try clear hi)) | ((with_reducible refine gate_callee (f := 34) rfl ?_); refine goesL_ (some 56) rfl rfl Try.func34 (by kernel_rfl) rfl #[.string t447] rfl (by (try simp only [List.map_toArray, List.map_cons, List.map_nil]); first | done | rfl | (simp only [List.length_drop, List.length_take]; rfl)) ?_; (with_reducible refine (wire_ReadAsk.calls kj7 t447 t450 t451 t452 t453 t454 t455 t456 t457 _ A36.out).mono ?_); rintro e w54 ⟨rfl, hb⟩; refine ⟨_, rfl, ?_⟩; have n0_ := Aside0.mk (blk_below (g := gb446) (o := .cells #[.int .i64 5, .string x447001_7, .string x447002_7, .string x447003_7, .string x447004_7, .int .i64 0, .int .i64 0] 30 (0, 0)) (by (with_reducible repeat (first | refine blk_drewN ?_ _ | refine blk_drew ?_ | refine blk_alloc ?_ _)); exact BK446.out) hb); have n1_ := Aside0.mk (below_step (by repeat (first | (with_reducible first | exact HB.out | apply below_alloc | apply pw_below_drewN | apply below_drew1 | refine below_set ?_ GE446.out) | exact HB.out)) hb); clear BK446; clear HB; have BK446 := n0_; have HB := n1_; clear n0_ n1_; (try clear hb); (try clear hb2); (try clear hk); (try clear hi)) | ((with_reducible refine gate_dst (N := 9) rfl ?_); refine box_event ?hg (N := 9) ?hd (cs := #[.int .i64 0, .string (⟨#[]⟩ : ByteArray), .string (⟨#[]⟩ : ByteArray), .string (⟨#[]⟩ : ByteArray), .string (⟨#[]⟩ : ByteArray), .int .i64 0, .int .i64 0]) (t := 30) ?hr ?_; (case hd => rfl); (case hg => rfl); (case hr => first | (go_simp; done) | (go_simp; rfl)); intro gb458 hg w55 hbox hb; have n0_ := Aside0.mk (blk_below (g := gb446) (o := .cells #[.int .i64 5, .string x447001_7, .string x447002_7, .string x447003_7, .string x447004_7, .int .i64 0, .int .i64 0] 30 (0, 0)) (by (with_reducible repeat (first | refine blk_drewN ?_ _ | refine blk_drew ?_ | refine blk_alloc ?_ _)); exact BK446.out) hb); have n1_ := Aside0.mk (below_step (by repeat (first | (with_reducible first | exact HB.out | apply below_alloc | apply pw_below_drewN | apply below_drew1 | refine below_set ?_ GE446.out) | exact HB.out)) hb); have n2_ := Aside0.mk (hbox); have n3_ := Aside0.mk ((by rw [hg]; exact (below_size (by repeat (first | (with_reducible first | exact HB.out | apply below_alloc | apply pw_below_drewN | apply below_drew1 | refine below_set ?_ GE446.out) | exact HB.out))) : w.heap.size ≤ gb458)); have n4_ := Aside0.mk ((by rw [hg]; exact (below_size (by repeat (first | (with_reducible first | exact HB.out | apply below_alloc | apply pw_below_drewN | apply below_drew1 | refine below_set ?_ GE446.out) | exact HB.out))) : w.heap.size ≤ gb458)); have n5_ := Aside0.mk ((by rw [hg]; exact Nat.ne_of_lt (blk_lt (g := gb446) (o := .cells #[.int .i64 5, .string x447001_7, .string x447002_7, .string x447003_7, .string x447004_7, .int .i64 0, .int .i64 0] 30 (0, 0)) (by (with_reducible repeat (first | refine blk_drewN ?_ _ | refine blk_drew ?_ | refine blk_alloc ?_ _)); exact BK446.out)) : gb446 ≠ gb458)); have n6_ := Aside0.mk ((by rw [hg]; exact Nat.ne_of_gt (blk_lt (g := gb446) (o := .cells #[.int .i64 5, .string x447001_7, .string x447002_7, .string x447003_7, .string x447004_7, .int .i64 0, .int .i64 0] 30 (0, 0)) (by (with_reducible repeat (first | refine blk_drewN ?_ _ | refine blk_drew ?_ | refine blk_alloc ?_ _)); exact BK446.out)) : gb458 ≠ gb446)); clear BK446; clear HB; have BK446 := n0_; have HB := n1_; have BK458 := n2_; have GW458 := n3_; have GE458 := n4_; have NB446_458 := n5_; have NB458_446 := n6_; clear n0_ n1_ n2_ n3_ n4_ n5_ n6_; clear hb hbox hg; have hnb56 := NB458_446.out; have hnc56 := NB446_458.out; have hcz57_0 : w55.cell? ⟨gb458, 0, none⟩ = some (.int .i64 0) := (blk_cell BK458.out 0).trans rfl; have hcz57_1 : w55.cell? ⟨gb458, 1, none⟩ = some (.string (⟨#[]⟩ : ByteArray)) := (blk_cell BK458.out 1).trans rfl; have hcz57_2 : w55.cell? ⟨gb458, 2, none⟩ = some (.string (⟨#[]⟩ : ByteArray)) := (blk_cell BK458.out 2).trans rfl; have hcz57_3 : w55.cell? ⟨gb458, 3, none⟩ = some (.string (⟨#[]⟩ : ByteArray)) := (blk_cell BK458.out 3).trans rfl; have hcz57_4 : w55.cell? ⟨gb458, 4, none⟩ = some (.string (⟨#[]⟩ : ByteArray)) := (blk_cell BK458.out 4).trans rfl; have hcz57_5 : w55.cell? ⟨gb458, 5, none⟩ = some (.int .i64 0) := (blk_cell BK458.out 5).trans rfl; have hcz57_6 : w55.cell? ⟨gb458, 6, none⟩ = some (.int .i64 0) := (blk_cell BK458.out 6).trans rfl; have hfz57_0 := blk_frozen BK458.out 0; have hfz57_1 := blk_frozen BK458.out 1; have hfz57_2 := blk_frozen BK458.out 2; have hfz57_3 := blk_frozen BK458.out 3; have hfz57_4 := blk_frozen BK458.out 4; have hfz57_5 := blk_frozen BK458.out 5; have hfz57_6 := blk_frozen BK458.out 6))
                go_ret
                exact ⟨by first | rfl | (simp [errW_none, errW_some] <;> rfl) | (simp only [← hji5]; first | rfl | (simp [errW_none, errW_some] <;> rfl)) | (simp [*, errW_none, errW_some] <;> rfl), by repeat (first | (with_reducible first | exact HB.out | apply below_alloc | apply pw_below_drewN | apply below_drew1 | refine below_set ?_ GE446.out | refine below_set ?_ GE458.out) | exact HB.out)⟩
      · rw [if_neg c7] at H
        exact absurd H (by simp)
    · rw [if_neg c6] at H
      exact absurd H (by simp)
  · replace c4 := Bool.eq_false_iff.mpr c4
    subst c4
    have H1 : (some false) = some r := by rw [if_neg (show ¬ (false = true) by decide)] at H; exact H
    clear H
    have H := H1
    clear H1
    obtain rfl := Option.some.inj H
    go_enter Try.func12, Try.ntmps12
    go_wp2_with (first | ((with_reducible refine gate_callee (f := 18) rfl ?_); refine goesL_ (some 11) rfl rfl Try.func18 (by kernel_rfl) rfl #[] rfl (by (try simp only [List.map_toArray, List.map_cons, List.map_nil]); first | done | rfl | (simp only [List.length_drop, List.length_take]; rfl)) ?_; (with_reducible refine (mailbaglaw18_head.calls k  false _ A3.out).mono ?_); rintro e w58 ⟨rfl, hb⟩; refine ⟨_, rfl, ?_⟩; have n0_ := Aside0.mk (below_step (by repeat (first | (with_reducible first | exact HB.out | apply below_alloc | apply pw_below_drewN | apply below_drew1) | exact HB.out)) hb); clear HB; have HB := n0_; clear n0_; (try clear hb); (try clear hb2); (try clear hk); (try clear hi)))
    go_ret
    exact ⟨by first | rfl | (simp [errW_none, errW_some] <;> rfl) | (simp [*, errW_none, errW_some] <;> rfl), by repeat (first | (with_reducible first | exact HB.out | apply below_alloc | apply pw_below_drewN | apply below_drew1) | exact HB.out)⟩

/-- THE ONE PURE STATEMENT of mailbaglaw18_WireLong: yours. -/
def mailbaglaw18_WireLong.Pure : Prop := ∀ (a0 : Int) (a1 : Int), (Lit.int .i64 a0).wf = true → (Lit.int .i64 a1).wf = true → ∃ k, mailbaglaw18_WireLong.f k a0 a1 = some true
theorem mailbaglaw18_WireLong.walk (P : mailbaglaw18_WireLong.Pure) (a0 : Int) (a1 : Int) (w : World) (w0 : (Lit.int .i64 a0).wf = true) (w1 : (Lit.int .i64 a1).wf = true) :
    Calls Try.prog 12 #[.int .i64 a0, .int .i64 a1] w fun e w' => e = .returned (.bool true) ∧ Below w.heap.size w w' := by
  obtain ⟨k, h⟩ := P a0 a1 w0 w1
  refine (mailbaglaw18_WireLong.calls k a0 a1 true w h).mono ?_
  rintro e w' ⟨rfl, hd⟩
  exact ⟨rfl, hd⟩

end Go.Proofs.Ythpgpljpadlegaa.Q
