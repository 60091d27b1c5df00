/- By a program of this session, out of the translation as Lean prints it: what the Go code computes, and that it does. -/
import Derived.Test.YthpgpljpadlegaaQx0
import Derived.Test.YthpgpljpadlegaaAskA
import Derived.Test.YthpgpljpadlegaaQxp1
import Derived.Test.YthpgpljpadlegaaQxf32
import Derived.Test.YthpgpljpadlegaaQxf19
import Derived.Test.YthpgpljpadlegaaQxf18
import Derived.Test.YthpgpljpadlegaaQxf35
import Derived.Test.YthpgpljpadlegaaQxf36
import Derived.Test.YthpgpljpadlegaaQxf38
namespace Go.Proofs.Ythpgpljpadlegaa.Q
open Go.RowKit Go.Proofs.YthpgpljpadlegaaW.PrintWords Go.Proofs.YthpgpljpadlegaaW.PrintLast Go.Proofs.YthpgpljpadlegaaW.PrintMore
attribute [local go_sem] max2_int min2_int max_two min_two max_three min_three max_four min_four Aid.leq_str Aid.gtr_str Aid.geq_str   -- for this text's walks alone
set_option linter.unusedVariables false
set_option linter.unusedSimpArgs false

theorem nil_beq (l : List UInt8) : (l == []) = l.isEmpty := by cases l <;> rfl
attribute [local go_sem high] eqA30
/-! ### mailbaglaw18_WireReads: function 15 -/
def mailbaglaw18_WireReads.j0 : Nat → ByteArray → Option (Bool)
  | 0, _ => none
  | k + 1, x0 => (wire_ReadAnswer.f k x0).bind fun bt569 => (if bt569.2.2.2 = 0 then ((wire_Answer_Encode.f k bt569.1 bt569.2.1 bt569.2.2.1).bind fun t576 => (some (t576.toList == x0.toList))) else (if bt569.2.2.2 = 2 then ((wire_Answer_Same.f k bt569.1 bt569.2.1 bt569.2.2.1 0 0 ([] : List ByteArray)).bind fun t577 => (some t577)) else (some false)))
def mailbaglaw18_WireReads.f (k : Nat) (a0 : ByteArray) : Option (Bool) := (mailbaglaw18_head.f k).bind fun t556 => (if t556 = true then (if (a0.size : Int) > 21000 then (some true) else ((wire_ReadAsk.f k a0).bind fun bt557 => (if bt557.2.2.2.2.2.2.2 = 0 then ((wire_Ask_Encode.f k bt557.1 bt557.2.1 bt557.2.2.1 bt557.2.2.2.1 bt557.2.2.2.2.1 bt557.2.2.2.2.2.1 bt557.2.2.2.2.2.2.1).bind fun bt566 => (if bt566.2 = 0 then (if bt566.1.toList = a0.toList then ((wire_Ask_Right.f bt557.1 bt557.2.1 bt557.2.2.1 bt557.2.2.2.1 bt557.2.2.2.2.1 bt557.2.2.2.2.2.1 bt557.2.2.2.2.2.2.1).bind fun t568 => (if t568 = true then (mailbaglaw18_WireReads.j0 k a0) else (some false))) else (some false)) else (some false))) else (if bt557.2.2.2.2.2.2.2 = 2 then (if ((bt557.2.2.2.2.2.2.2 == 4) != (decide ((a0.size : Int) > 20000))) = true then (some false) else (if (!(bt557.1 == 0) || (!(bt557.2.1.toList == ([] : List UInt8)) || (!(bt557.2.2.1.toList == ([] : List UInt8)) || (!(bt557.2.2.2.1.toList == ([] : List UInt8)) || (!(bt557.2.2.2.2.1.toList == ([] : List UInt8)) || (!(bt557.2.2.2.2.2.1 == 0) || (!(bt557.2.2.2.2.2.2.1 == 0)))))))) = true then (some false) else (mailbaglaw18_WireReads.j0 k a0))) else (if bt557.2.2.2.2.2.2.2 = 4 then (if ((bt557.2.2.2.2.2.2.2 == 4) != (decide ((a0.size : Int) > 20000))) = true then (some false) else (if (!(bt557.1 == 0) || (!(bt557.2.1.toList == ([] : List UInt8)) || (!(bt557.2.2.1.toList == ([] : List UInt8)) || (!(bt557.2.2.2.1.toList == ([] : List UInt8)) || (!(bt557.2.2.2.2.1.toList == ([] : List UInt8)) || (!(bt557.2.2.2.2.2.1 == 0) || (!(bt557.2.2.2.2.2.2.1 == 0)))))))) = true then (some false) else (mailbaglaw18_WireReads.j0 k a0))) else (some false)))))) else (some false))
theorem mailbaglaw18_WireReads.mono_l : ∀ k, (∀ y0, LeO (mailbaglaw18_WireReads.j0 k y0) (mailbaglaw18_WireReads.j0 (k + 1) y0))
  | 0 => fun _ r h => by simp [mailbaglaw18_WireReads.j0] at h
  | k + 1 => by
    have ih0 := mailbaglaw18_WireReads.mono_l k
    · intro y0
      unfold mailbaglaw18_WireReads.j0
      repeat' first
      | (with_reducible exact ih0 _)
      | (with_reducible exact mailbaglaw18_head.mono _)
      | (with_reducible exact wire_Answer_Encode.mono _ _ _ _)
      | (with_reducible exact wire_Answer_Same.mono _ _ _ _ _ _ _)
      | (with_reducible exact wire_Ask_Encode.mono _ _ _ _ _ _ _ _)
      | (with_reducible exact wire_ReadAnswer.mono _ _)
      | (with_reducible exact wire_ReadAsk.mono _ _)
      | (with_reducible exact LeO.refl _)
      | (with_reducible exact LeO.none _)
      | (with_reducible refine LeO.ite ?_ ?_)
      | (with_reducible refine LeO.bind ?_ (fun _ => ?_))
      | exact ih0 _
      | exact mailbaglaw18_head.mono _
      | exact wire_Answer_Encode.mono _ _ _ _
      | exact wire_Answer_Same.mono _ _ _ _ _ _ _
      | exact wire_Ask_Encode.mono _ _ _ _ _ _ _ _
      | exact wire_ReadAnswer.mono _ _
      | exact wire_ReadAsk.mono _ _
      | exact LeO.none _
      | refine LeO.ite ?_ ?_
      | refine LeO.bind ?_ (fun _ => ?_)
theorem mailbaglaw18_WireReads.mono : ∀ a0 k, LeO (mailbaglaw18_WireReads.f k a0) (mailbaglaw18_WireReads.f (k + 1) a0) := by
  intro a0 k
  have ih0 := mailbaglaw18_WireReads.mono_l k
  unfold mailbaglaw18_WireReads.f
  repeat' first
      | (with_reducible exact ih0 _)
      | (with_reducible exact mailbaglaw18_head.mono _)
      | (with_reducible exact wire_Answer_Encode.mono _ _ _ _)
      | (with_reducible exact wire_Answer_Same.mono _ _ _ _ _ _ _)
      | (with_reducible exact wire_Ask_Encode.mono _ _ _ _ _ _ _ _)
      | (with_reducible exact wire_ReadAnswer.mono _ _)
      | (with_reducible exact wire_ReadAsk.mono _ _)
      | (with_reducible exact LeO.refl _)
      | (with_reducible exact LeO.none _)
      | (with_reducible refine LeO.ite ?_ ?_)
      | (with_reducible refine LeO.bind ?_ (fun _ => ?_))
      | exact ih0 _
      | exact mailbaglaw18_head.mono _
      | exact wire_Answer_Encode.mono _ _ _ _
      | exact wire_Answer_Same.mono _ _ _ _ _ _ _
      | exact wire_Ask_Encode.mono _ _ _ _ _ _ _ _
      | exact wire_ReadAnswer.mono _ _
      | exact wire_ReadAsk.mono _ _
      | exact LeO.none _
      | refine LeO.ite ?_ ?_
      | refine LeO.bind ?_ (fun _ => ?_)
set_option maxHeartbeats 8000000 in
set_option maxRecDepth 100000 in
theorem mailbaglaw18_WireReads.calls (k : Nat) (a0 : ByteArray) (r : Bool) (w : World) (h : mailbaglaw18_WireReads.f k a0 = some r) :
    Calls Try.prog 15 #[.string a0] w fun e w' => e = .returned (.bool r) ∧ Below w.heap.size w w' := by
  have hu30 := Try.underlying30
  have hu59 := Try.underlying59
  have HB := Aside0.mk (Below.refl w.heap.size w)
  have H : ((mailbaglaw18_head.f k).bind fun t556 => (if t556 = true then (if (a0.size : Int) > 21000 then (some true) else ((wire_ReadAsk.f k a0).bind fun bt557 => (if bt557.2.2.2.2.2.2.2 = 0 then ((wire_Ask_Encode.f k bt557.1 bt557.2.1 bt557.2.2.1 bt557.2.2.2.1 bt557.2.2.2.2.1 bt557.2.2.2.2.2.1 bt557.2.2.2.2.2.2.1).bind fun bt566 => (if bt566.2 = 0 then (if bt566.1.toList = a0.toList then ((wire_Ask_Right.f bt557.1 bt557.2.1 bt557.2.2.1 bt557.2.2.2.1 bt557.2.2.2.2.1 bt557.2.2.2.2.2.1 bt557.2.2.2.2.2.2.1).bind fun t568 => (if t568 = true then (mailbaglaw18_WireReads.j0 k a0) else (some false))) else (some false)) else (some false))) else (if bt557.2.2.2.2.2.2.2 = 2 then (if ((bt557.2.2.2.2.2.2.2 == 4) != (decide ((a0.size : Int) > 20000))) = true then (some false) else (if (!(bt557.1 == 0) || (!(bt557.2.1.toList == ([] : List UInt8)) || (!(bt557.2.2.1.toList == ([] : List UInt8)) || (!(bt557.2.2.2.1.toList == ([] : List UInt8)) || (!(bt557.2.2.2.2.1.toList == ([] : List UInt8)) || (!(bt557.2.2.2.2.2.1 == 0) || (!(bt557.2.2.2.2.2.2.1 == 0)))))))) = true then (some false) else (mailbaglaw18_WireReads.j0 k a0))) else (if bt557.2.2.2.2.2.2.2 = 4 then (if ((bt557.2.2.2.2.2.2.2 == 4) != (decide ((a0.size : Int) > 20000))) = true then (some false) else (if (!(bt557.1 == 0) || (!(bt557.2.1.toList == ([] : List UInt8)) || (!(bt557.2.2.1.toList == ([] : List UInt8)) || (!(bt557.2.2.2.1.toList == ([] : List UInt8)) || (!(bt557.2.2.2.2.1.toList == ([] : List UInt8)) || (!(bt557.2.2.2.2.2.1 == 0) || (!(bt557.2.2.2.2.2.2.1 == 0)))))))) = true then (some false) else (mailbaglaw18_WireReads.j0 k a0))) else (some false)))))) else (some false))) = some r := h
  clear h
  replace H := Option.bind_eq_some_iff.mp H
  obtain ⟨t556, A20, H⟩ := H
  replace H : (if t556 = true then (if (a0.size : Int) > 21000 then (some true) else ((wire_ReadAsk.f k a0).bind fun bt557 => (if bt557.2.2.2.2.2.2.2 = 0 then ((wire_Ask_Encode.f k bt557.1 bt557.2.1 bt557.2.2.1 bt557.2.2.2.1 bt557.2.2.2.2.1 bt557.2.2.2.2.2.1 bt557.2.2.2.2.2.2.1).bind fun bt566 => (if bt566.2 = 0 then (if bt566.1.toList = a0.toList then ((wire_Ask_Right.f bt557.1 bt557.2.1 bt557.2.2.1 bt557.2.2.2.1 bt557.2.2.2.2.1 bt557.2.2.2.2.2.1 bt557.2.2.2.2.2.2.1).bind fun t568 => (if t568 = true then (mailbaglaw18_WireReads.j0 k a0) else (some false))) else (some false)) else (some false))) else (if bt557.2.2.2.2.2.2.2 = 2 then (if ((bt557.2.2.2.2.2.2.2 == 4) != (decide ((a0.size : Int) > 20000))) = true then (some false) else (if (!(bt557.1 == 0) || (!(bt557.2.1.toList == ([] : List UInt8)) || (!(bt557.2.2.1.toList == ([] : List UInt8)) || (!(bt557.2.2.2.1.toList == ([] : List UInt8)) || (!(bt557.2.2.2.2.1.toList == ([] : List UInt8)) || (!(bt557.2.2.2.2.2.1 == 0) || (!(bt557.2.2.2.2.2.2.1 == 0)))))))) = true then (some false) else (mailbaglaw18_WireReads.j0 k a0))) else (if bt557.2.2.2.2.2.2.2 = 4 then (if ((bt557.2.2.2.2.2.2.2 == 4) != (decide ((a0.size : Int) > 20000))) = true then (some false) else (if (!(bt557.1 == 0) || (!(bt557.2.1.toList == ([] : List UInt8)) || (!(bt557.2.2.1.toList == ([] : List UInt8)) || (!(bt557.2.2.2.1.toList == ([] : List UInt8)) || (!(bt557.2.2.2.2.1.toList == ([] : List UInt8)) || (!(bt557.2.2.2.2.2.1 == 0) || (!(bt557.2.2.2.2.2.2.1 == 0)))))))) = true then (some false) else (mailbaglaw18_WireReads.j0 k a0))) else (some false)))))) else (some false)) = some r := H
  have A2 := Aside0.mk A20
  clear A20
  by_cases c3 : t556 = true
  · subst c3
    have H1 : (if (a0.size : Int) > 21000 then (some true) else ((wire_ReadAsk.f k a0).bind fun bt557 => (if bt557.2.2.2.2.2.2.2 = 0 then ((wire_Ask_Encode.f k bt557.1 bt557.2.1 bt557.2.2.1 bt557.2.2.2.1 bt557.2.2.2.2.1 bt557.2.2.2.2.2.1 bt557.2.2.2.2.2.2.1).bind fun bt566 => (if bt566.2 = 0 then (if bt566.1.toList = a0.toList then ((wire_Ask_Right.f bt557.1 bt557.2.1 bt557.2.2.1 bt557.2.2.2.1 bt557.2.2.2.2.1 bt557.2.2.2.2.2.1 bt557.2.2.2.2.2.2.1).bind fun t568 => (if t568 = true then (mailbaglaw18_WireReads.j0 k a0) else (some false))) else (some false)) else (some false))) else (if bt557.2.2.2.2.2.2.2 = 2 then (if ((bt557.2.2.2.2.2.2.2 == 4) != (decide ((a0.size : Int) > 20000))) = true then (some false) else (if (!(bt557.1 == 0) || (!(bt557.2.1.toList == ([] : List UInt8)) || (!(bt557.2.2.1.toList == ([] : List UInt8)) || (!(bt557.2.2.2.1.toList == ([] : List UInt8)) || (!(bt557.2.2.2.2.1.toList == ([] : List UInt8)) || (!(bt557.2.2.2.2.2.1 == 0) || (!(bt557.2.2.2.2.2.2.1 == 0)))))))) = true then (some false) else (mailbaglaw18_WireReads.j0 k a0))) else (if bt557.2.2.2.2.2.2.2 = 4 then (if ((bt557.2.2.2.2.2.2.2 == 4) != (decide ((a0.size : Int) > 20000))) = true then (some false) else (if (!(bt557.1 == 0) || (!(bt557.2.1.toList == ([] : List UInt8)) || (!(bt557.2.2.1.toList == ([] : List UInt8)) || (!(bt557.2.2.2.1.toList == ([] : List UInt8)) || (!(bt557.2.2.2.2.1.toList == ([] : List UInt8)) || (!(bt557.2.2.2.2.2.1 == 0) || (!(bt557.2.2.2.2.2.2.1 == 0)))))))) = true then (some false) else (mailbaglaw18_WireReads.j0 k a0))) else (some false)))))) = some r := by rw [if_pos rfl] at H; exact H
    clear H
    have H := H1
    clear H1
    by_cases c4 : (a0.size : Int) > 21000
    · rw [if_pos c4] at H
      have c4b0 : decide (21000 < (a0.size : Int)) = true := decide_eq_true c4
      have c4b1 : decide (21000 < a0.size) = true := decide_eq_true (by omega)
      clear c4
      obtain rfl := Option.some.inj H
      go_enter Try.func15, Try.ntmps15
      go_wp2_with (first | ((with_reducible refine gate_callee (f := 18) rfl ?_); refine goesL_ (some 9) rfl rfl Try.func18 (by kernel_rfl) rfl #[] rfl (by (try simp only [List.map_toArray, List.map_cons, List.map_nil]); first | done | rfl | (simp only [List.length_drop, List.length_take]; rfl)) ?_; (with_reducible refine (mailbaglaw18_head.calls k  true _ A2.out).mono ?_); rintro e w5 ⟨rfl, hb⟩; refine ⟨_, rfl, ?_⟩; have n0_ := Aside0.mk (below_step (by repeat (first | (with_reducible first | exact HB.out | apply below_alloc | apply pw_below_drewN | apply below_drew1) | exact HB.out)) hb); clear HB; have HB := n0_; clear n0_; (try clear hb); (try clear hb2); (try clear hk); (try clear hi)))
      go_ret
      exact ⟨by first | rfl | (simp [errW_none, errW_some] <;> rfl) | (simp [*, errW_none, errW_some] <;> rfl), by repeat (first | (with_reducible first | exact HB.out | apply below_alloc | apply pw_below_drewN | apply below_drew1) | exact HB.out)⟩
    · rw [if_neg c4] at H
      have c4b0 : decide (21000 < (a0.size : Int)) = false := decide_eq_false c4
      have c4b1 : decide (21000 < a0.size) = false := decide_eq_false (by omega)
      clear c4
      replace H := Option.bind_eq_some_iff.mp H
      obtain ⟨⟨t557, t558, t559, t560, t561, t562, t563, t564⟩, A60, H⟩ := H
      replace H : (if t564 = 0 then ((wire_Ask_Encode.f k t557 t558 t559 t560 t561 t562 t563).bind fun bt566 => (if bt566.2 = 0 then (if bt566.1.toList = a0.toList then ((wire_Ask_Right.f t557 t558 t559 t560 t561 t562 t563).bind fun t568 => (if t568 = true then (mailbaglaw18_WireReads.j0 k a0) else (some false))) else (some false)) else (some false))) else (if t564 = 2 then (if ((t564 == 4) != (decide ((a0.size : Int) > 20000))) = true then (some false) else (if (!(t557 == 0) || (!(t558.toList == ([] : List UInt8)) || (!(t559.toList == ([] : List UInt8)) || (!(t560.toList == ([] : List UInt8)) || (!(t561.toList == ([] : List UInt8)) || (!(t562 == 0) || (!(t563 == 0)))))))) = true then (some false) else (mailbaglaw18_WireReads.j0 k a0))) else (if t564 = 4 then (if ((t564 == 4) != (decide ((a0.size : Int) > 20000))) = true then (some false) else (if (!(t557 == 0) || (!(t558.toList == ([] : List UInt8)) || (!(t559.toList == ([] : List UInt8)) || (!(t560.toList == ([] : List UInt8)) || (!(t561.toList == ([] : List UInt8)) || (!(t562 == 0) || (!(t563 == 0)))))))) = true then (some false) else (mailbaglaw18_WireReads.j0 k a0))) else (some false)))) = some r := H
      have A6 := Aside0.mk A60
      clear A60
      have HC7 := Aside0.mk H
      clear H
      go_enter Try.func15, Try.ntmps15
      go_upto_if 20 with (first | ((with_reducible refine gate_callee (f := 18) rfl ?_); refine goesL_ (some 9) rfl rfl Try.func18 (by kernel_rfl) rfl #[] rfl (by (try simp only [List.map_toArray, List.map_cons, List.map_nil]); first | done | rfl | (simp only [List.length_drop, List.length_take]; rfl)) ?_; (with_reducible refine (mailbaglaw18_head.calls k  true _ A2.out).mono ?_); rintro e w8 ⟨rfl, hb⟩; refine ⟨_, rfl, ?_⟩; have n0_ := Aside0.mk (below_step (by repeat (first | (with_reducible first | exact HB.out | apply below_alloc | apply pw_below_drewN | apply below_drew1) | exact HB.out)) hb); clear HB; have HB := n0_; clear n0_; (try clear hb); (try clear hb2); (try clear hk); (try clear hi)) | ((with_reducible refine gate_callee (f := 34) rfl ?_); refine goesL_ (some 16) rfl rfl Try.func34 (by kernel_rfl) rfl #[.string a0] rfl (by (try simp only [List.map_toArray, List.map_cons, List.map_nil]); first | done | rfl | (simp only [List.length_drop, List.length_take]; rfl)) ?_; (with_reducible refine (wire_ReadAsk.calls k a0 t557 t558 t559 t560 t561 t562 t563 t564 _ A6.out).mono ?_); rintro e w9 ⟨rfl, hb⟩; refine ⟨_, rfl, ?_⟩; have n0_ := Aside0.mk (below_step (by repeat (first | (with_reducible first | exact HB.out | apply below_alloc | apply pw_below_drewN | apply below_drew1) | exact HB.out)) hb); clear HB; have HB := n0_; clear n0_; (try clear hb); (try clear hb2); (try clear hk); (try clear hi)) | ((with_reducible refine gate_dst (N := 3) rfl ?_); (try (refine gate_guard (by rfl) ?_; dsimp only)); refine box_event ?hg (N := 3) ?hd (cs := #[.int .i64 0, .string (⟨#[]⟩ : ByteArray), .string (⟨#[]⟩ : ByteArray), .string (⟨#[]⟩ : ByteArray), .string (⟨#[]⟩ : ByteArray), .int .i64 0, .int .i64 0]) (t := 30) ?hr ?_; (case hd => rfl); (case hg => rfl); (case hr => first | (go_simp; done) | (go_simp; rfl)); intro gb565 hg w10 hbox hb; have n0_ := Aside0.mk (below_step (by repeat (first | (with_reducible first | exact HB.out | apply below_alloc | apply pw_below_drewN | apply below_drew1) | exact HB.out)) hb); have n1_ := Aside0.mk (hbox); have n2_ := Aside0.mk ((by rw [hg]; exact (below_size (by repeat (first | (with_reducible first | exact HB.out | apply below_alloc | apply pw_below_drewN | apply below_drew1) | exact HB.out))) : w.heap.size ≤ gb565)); have n3_ := Aside0.mk ((by rw [hg]; exact (below_size (by repeat (first | (with_reducible first | exact HB.out | apply below_alloc | apply pw_below_drewN | apply below_drew1) | exact HB.out))) : w.heap.size ≤ gb565)); clear HB; have HB := n0_; have BK565 := n1_; have GW565 := n2_; have GE565 := n3_; clear n0_ n1_ n2_ n3_; clear hb hbox hg; have hcz11_0 : w10.cell? ⟨gb565, 0, none⟩ = some (.int .i64 0) := (blk_cell BK565.out 0).trans rfl; have hcz11_1 : w10.cell? ⟨gb565, 1, none⟩ = some (.string (⟨#[]⟩ : ByteArray)) := (blk_cell BK565.out 1).trans rfl; have hcz11_2 : w10.cell? ⟨gb565, 2, none⟩ = some (.string (⟨#[]⟩ : ByteArray)) := (blk_cell BK565.out 2).trans rfl; have hcz11_3 : w10.cell? ⟨gb565, 3, none⟩ = some (.string (⟨#[]⟩ : ByteArray)) := (blk_cell BK565.out 3).trans rfl; have hcz11_4 : w10.cell? ⟨gb565, 4, none⟩ = some (.string (⟨#[]⟩ : ByteArray)) := (blk_cell BK565.out 4).trans rfl; have hcz11_5 : w10.cell? ⟨gb565, 5, none⟩ = some (.int .i64 0) := (blk_cell BK565.out 5).trans rfl; have hcz11_6 : w10.cell? ⟨gb565, 6, none⟩ = some (.int .i64 0) := (blk_cell BK565.out 6).trans rfl; have hfz11_0 := blk_frozen BK565.out 0; have hfz11_1 := blk_frozen BK565.out 1; have hfz11_2 := blk_frozen BK565.out 2; have hfz11_3 := blk_frozen BK565.out 3; have hfz11_4 := blk_frozen BK565.out 4; have hfz11_5 := blk_frozen BK565.out 5; have hfz11_6 := blk_frozen BK565.out 6))
      (try simp only [Act.put, List.setIfInBounds_toArray, List.set_cons_zero, List.set_cons_succ])
      go_cut [] (fun wc => ∃ (kq : Nat), Aside0 (mailbaglaw18_WireReads.j0 kq a0 = some r) ∧ Aside0 (kq ≤ k) ∧ Aside0 (wc.heap[gb565]? = some (.cells #[.int .i64 t557, .string t558, .string t559, .string t560, .string t561, .int .i64 t562, .int .i64 t563] 30 (0, 0))) ∧ Aside0 (Below w.heap.size w wc))
      case first =>
        have H := HC7.out
        clear HC7
        by_cases c12 : t564 = 0
        · rw [if_pos c12] at H
          have c12b0 : (t564 == 0) = true := beq_iff_eq.mpr c12
          have c12b1 : (t564 != 0) = false := bne_eq_false_iff_eq.mpr c12
          clear c12
          (first | rw [c12b0] | (simp only [i64_w, i32_w]; rw [c12b0]) | skip)
          replace H := Option.bind_eq_some_iff.mp H
          obtain ⟨⟨t566, t567⟩, A130, H⟩ := H
          replace H : (if t567 = 0 then (if t566.toList = a0.toList then ((wire_Ask_Right.f t557 t558 t559 t560 t561 t562 t563).bind fun t568 => (if t568 = true then (mailbaglaw18_WireReads.j0 k a0) else (some false))) else (some false)) else (some false)) = some r := H
          have A13 := Aside0.mk A130
          clear A130
          by_cases c14 : t567 = 0
          · rw [if_pos c14] at H
            have c14b0 : (t567 == 0) = true := beq_iff_eq.mpr c14
            have c14b1 : (t567 != 0) = false := bne_eq_false_iff_eq.mpr c14
            clear c14
            by_cases c15 : t566.toList = a0.toList
            · rw [if_pos c15] at H
              have c15b0 : (t566.toList == a0.toList) = true := beq_iff_eq.mpr c15
              have c15b1 : (t566.toList != a0.toList) = false := bne_eq_false_iff_eq.mpr c15
              clear c15
              replace H := Option.bind_eq_some_iff.mp H
              obtain ⟨t568, A160, H⟩ := H
              replace H : (if t568 = true then (mailbaglaw18_WireReads.j0 k a0) else (some false)) = some r := H
              have A16 := Aside0.mk A160
              clear A160
              by_cases c17 : t568 = true
              · subst c17
                have H1 : (mailbaglaw18_WireReads.j0 k a0) = some r := by rw [if_pos rfl] at H; exact H
                clear H
                have H := H1
                clear H1
                have H' := Aside0.mk H
                clear H
                have hcz18_0 : w10.cell? ⟨gb565, 0, none⟩ = some (.int .i64 0) := (blk_cell BK565.out 0).trans rfl
                have hcz18_1 : w10.cell? ⟨gb565, 1, none⟩ = some (.string (⟨#[]⟩ : ByteArray)) := (blk_cell BK565.out 1).trans rfl
                have hcz18_2 : w10.cell? ⟨gb565, 2, none⟩ = some (.string (⟨#[]⟩ : ByteArray)) := (blk_cell BK565.out 2).trans rfl
                have hcz18_3 : w10.cell? ⟨gb565, 3, none⟩ = some (.string (⟨#[]⟩ : ByteArray)) := (blk_cell BK565.out 3).trans rfl
                have hcz18_4 : w10.cell? ⟨gb565, 4, none⟩ = some (.string (⟨#[]⟩ : ByteArray)) := (blk_cell BK565.out 4).trans rfl
                have hcz18_5 : w10.cell? ⟨gb565, 5, none⟩ = some (.int .i64 0) := (blk_cell BK565.out 5).trans rfl
                have hcz18_6 : w10.cell? ⟨gb565, 6, none⟩ = some (.int .i64 0) := (blk_cell BK565.out 6).trans rfl
                have hfz18_0 := blk_frozen BK565.out 0
                have hfz18_1 := blk_frozen BK565.out 1
                have hfz18_2 := blk_frozen BK565.out 2
                have hfz18_3 := blk_frozen BK565.out 3
                have hfz18_4 := blk_frozen BK565.out 4
                have hfz18_5 := blk_frozen BK565.out 5
                have hfz18_6 := blk_frozen BK565.out 6
                go_wp2_with (first | ((with_reducible refine gate_callee (f := 19) rfl ?_); refine goesL_ (some 23) rfl rfl Try.func19 (by kernel_rfl) rfl #[.agg #[.int .i64 t557, .string t558, .string t559, .string t560, .string t561, .int .i64 t562, .int .i64 t563]] rfl (by (try simp only [List.map_toArray, List.map_cons, List.map_nil]); first | done | rfl | (simp only [List.length_drop, List.length_take]; rfl)) ?_; (with_reducible refine (wire_Ask_Encode.calls k t557 t558 t559 t560 t561 t562 t563 t566 t567 _ A13.out).mono ?_); rintro e w19 ⟨rfl, hb⟩; refine ⟨_, rfl, ?_⟩; have n0_ := Aside0.mk (blk_below (g := gb565) (o := .cells #[.int .i64 t557, .string t558, .string t559, .string t560, .string t561, .int .i64 t562, .int .i64 t563] 30 (0, 0)) (by (with_reducible repeat (first | refine blk_drewN ?_ _ | refine blk_drew ?_ | refine blk_alloc ?_ _)); refine blk_put (cs := #[.int .i64 t557, .string t558, .string t559, .string t560, .string t561, .int .i64 t562, .int .i64 0]) ?_ 6 _ rfl; (with_reducible repeat (first | refine blk_drewN ?_ _ | refine blk_drew ?_ | refine blk_alloc ?_ _)); refine blk_put (cs := #[.int .i64 t557, .string t558, .string t559, .string t560, .string t561, .int .i64 0, .int .i64 0]) ?_ 5 _ rfl; (with_reducible repeat (first | refine blk_drewN ?_ _ | refine blk_drew ?_ | refine blk_alloc ?_ _)); refine blk_put (cs := #[.int .i64 t557, .string t558, .string t559, .string t560, .string (⟨#[]⟩ : ByteArray), .int .i64 0, .int .i64 0]) ?_ 4 _ rfl; (with_reducible repeat (first | refine blk_drewN ?_ _ | refine blk_drew ?_ | refine blk_alloc ?_ _)); refine blk_put (cs := #[.int .i64 t557, .string t558, .string t559, .string (⟨#[]⟩ : ByteArray), .string (⟨#[]⟩ : ByteArray), .int .i64 0, .int .i64 0]) ?_ 3 _ rfl; (with_reducible repeat (first | refine blk_drewN ?_ _ | refine blk_drew ?_ | refine blk_alloc ?_ _)); refine blk_put (cs := #[.int .i64 t557, .string t558, .string (⟨#[]⟩ : ByteArray), .string (⟨#[]⟩ : ByteArray), .string (⟨#[]⟩ : ByteArray), .int .i64 0, .int .i64 0]) ?_ 2 _ rfl; (with_reducible repeat (first | refine blk_drewN ?_ _ | refine blk_drew ?_ | refine blk_alloc ?_ _)); refine blk_put (cs := #[.int .i64 t557, .string (⟨#[]⟩ : ByteArray), .string (⟨#[]⟩ : ByteArray), .string (⟨#[]⟩ : ByteArray), .string (⟨#[]⟩ : ByteArray), .int .i64 0, .int .i64 0]) ?_ 1 _ rfl; (with_reducible repeat (first | refine blk_drewN ?_ _ | refine blk_drew ?_ | refine blk_alloc ?_ _)); refine blk_put (cs := #[.int .i64 0, .string (⟨#[]⟩ : ByteArray), .string (⟨#[]⟩ : ByteArray), .string (⟨#[]⟩ : ByteArray), .string (⟨#[]⟩ : ByteArray), .int .i64 0, .int .i64 0]) ?_ 0 _ rfl; (with_reducible repeat (first | refine blk_drewN ?_ _ | refine blk_drew ?_ | refine blk_alloc ?_ _)); exact BK565.out) hb); have n1_ := Aside0.mk (below_step (by repeat (first | (with_reducible first | exact HB.out | apply below_alloc | apply pw_below_drewN | apply below_drew1 | refine below_set ?_ GE565.out) | exact HB.out)) hb); clear BK565; clear HB; have BK565 := n0_; have HB := n1_; clear n0_ n1_; (try clear hb); (try clear hb2); (try clear hk); (try clear hi); have hcz20_0 : w19.cell? ⟨gb565, 0, none⟩ = some (.int .i64 t557) := (blk_cell BK565.out 0).trans rfl; have hcz20_1 : w19.cell? ⟨gb565, 1, none⟩ = some (.string t558) := (blk_cell BK565.out 1).trans rfl; have hcz20_2 : w19.cell? ⟨gb565, 2, none⟩ = some (.string t559) := (blk_cell BK565.out 2).trans rfl; have hcz20_3 : w19.cell? ⟨gb565, 3, none⟩ = some (.string t560) := (blk_cell BK565.out 3).trans rfl; have hcz20_4 : w19.cell? ⟨gb565, 4, none⟩ = some (.string t561) := (blk_cell BK565.out 4).trans rfl; have hcz20_5 : w19.cell? ⟨gb565, 5, none⟩ = some (.int .i64 t562) := (blk_cell BK565.out 5).trans rfl; have hcz20_6 : w19.cell? ⟨gb565, 6, none⟩ = some (.int .i64 t563) := (blk_cell BK565.out 6).trans rfl; have hfz20_0 := blk_frozen BK565.out 0; have hfz20_1 := blk_frozen BK565.out 1; have hfz20_2 := blk_frozen BK565.out 2; have hfz20_3 := blk_frozen BK565.out 3; have hfz20_4 := blk_frozen BK565.out 4; have hfz20_5 := blk_frozen BK565.out 5; have hfz20_6 := blk_frozen BK565.out 6) | (go_at_call 32; (with_reducible refine (wire_Ask_Right.calls t557 t558 t559 t560 t561 t562 t563 true _ A16.out).mono ?_); rintro e w21 ⟨rfl, hb⟩; have n0_ := Aside0.mk (blk_below (g := gb565) (o := .cells #[.int .i64 t557, .string t558, .string t559, .string t560, .string t561, .int .i64 t562, .int .i64 t563] 30 (0, 0)) (by (with_reducible repeat (first | refine blk_drewN ?_ _ | refine blk_drew ?_ | refine blk_alloc ?_ _)); exact BK565.out) hb); have n1_ := Aside0.mk (below_step (by repeat (first | (with_reducible first | exact HB.out | apply below_alloc | apply pw_below_drewN | apply below_drew1 | refine below_set ?_ GE565.out) | exact HB.out)) hb); clear BK565; clear HB; have BK565 := n0_; have HB := n1_; clear n0_ n1_; (try clear hb); (try clear hb2); (try clear hk); (try clear hi)))
                go_meet
                case rel => exact ⟨_, H', ⟨by first | omega | exact Nat.le_refl _⟩, ⟨by (with_reducible repeat (first | refine blk_drewN ?_ _ | refine blk_drew ?_ | refine blk_alloc ?_ _)); exact BK565.out⟩, ⟨by repeat (first | (with_reducible first | exact HB.out | apply below_alloc | apply pw_below_drewN | apply below_drew1 | refine below_set ?_ GE565.out) | exact HB.out)⟩⟩
              · replace c17 := Bool.eq_false_iff.mpr c17
                subst c17
                have H1 : (some false) = some r := by rw [if_neg (show ¬ (false = true) by decide)] at H; exact H
                clear H
                have H := H1
                clear H1
                obtain rfl := Option.some.inj H
                have hcz22_0 : w10.cell? ⟨gb565, 0, none⟩ = some (.int .i64 0) := (blk_cell BK565.out 0).trans rfl
                have hcz22_1 : w10.cell? ⟨gb565, 1, none⟩ = some (.string (⟨#[]⟩ : ByteArray)) := (blk_cell BK565.out 1).trans rfl
                have hcz22_2 : w10.cell? ⟨gb565, 2, none⟩ = some (.string (⟨#[]⟩ : ByteArray)) := (blk_cell BK565.out 2).trans rfl
                have hcz22_3 : w10.cell? ⟨gb565, 3, none⟩ = some (.string (⟨#[]⟩ : ByteArray)) := (blk_cell BK565.out 3).trans rfl
                have hcz22_4 : w10.cell? ⟨gb565, 4, none⟩ = some (.string (⟨#[]⟩ : ByteArray)) := (blk_cell BK565.out 4).trans rfl
                have hcz22_5 : w10.cell? ⟨gb565, 5, none⟩ = some (.int .i64 0) := (blk_cell BK565.out 5).trans rfl
                have hcz22_6 : w10.cell? ⟨gb565, 6, none⟩ = some (.int .i64 0) := (blk_cell BK565.out 6).trans rfl
                have hfz22_0 := blk_frozen BK565.out 0
                have hfz22_1 := blk_frozen BK565.out 1
                have hfz22_2 := blk_frozen BK565.out 2
                have hfz22_3 := blk_frozen BK565.out 3
                have hfz22_4 := blk_frozen BK565.out 4
                have hfz22_5 := blk_frozen BK565.out 5
                have hfz22_6 := blk_frozen BK565.out 6
                go_wp2_with (first | ((with_reducible refine gate_callee (f := 19) rfl ?_); refine goesL_ (some 23) rfl rfl Try.func19 (by kernel_rfl) rfl #[.agg #[.int .i64 t557, .string t558, .string t559, .string t560, .string t561, .int .i64 t562, .int .i64 t563]] rfl (by (try simp only [List.map_toArray, List.map_cons, List.map_nil]); first | done | rfl | (simp only [List.length_drop, List.length_take]; rfl)) ?_; (with_reducible refine (wire_Ask_Encode.calls k t557 t558 t559 t560 t561 t562 t563 t566 t567 _ A13.out).mono ?_); rintro e w23 ⟨rfl, hb⟩; refine ⟨_, rfl, ?_⟩; have n0_ := Aside0.mk (blk_below (g := gb565) (o := .cells #[.int .i64 t557, .string t558, .string t559, .string t560, .string t561, .int .i64 t562, .int .i64 t563] 30 (0, 0)) (by (with_reducible repeat (first | refine blk_drewN ?_ _ | refine blk_drew ?_ | refine blk_alloc ?_ _)); refine blk_put (cs := #[.int .i64 t557, .string t558, .string t559, .string t560, .string t561, .int .i64 t562, .int .i64 0]) ?_ 6 _ rfl; (with_reducible repeat (first | refine blk_drewN ?_ _ | refine blk_drew ?_ | refine blk_alloc ?_ _)); refine blk_put (cs := #[.int .i64 t557, .string t558, .string t559, .string t560, .string t561, .int .i64 0, .int .i64 0]) ?_ 5 _ rfl; (with_reducible repeat (first | refine blk_drewN ?_ _ | refine blk_drew ?_ | refine blk_alloc ?_ _)); refine blk_put (cs := #[.int .i64 t557, .string t558, .string t559, .string t560, .string (⟨#[]⟩ : ByteArray), .int .i64 0, .int .i64 0]) ?_ 4 _ rfl; (with_reducible repeat (first | refine blk_drewN ?_ _ | refine blk_drew ?_ | refine blk_alloc ?_ _)); refine blk_put (cs := #[.int .i64 t557, .string t558, .string t559, .string (⟨#[]⟩ : ByteArray), .string (⟨#[]⟩ : ByteArray), .int .i64 0, .int .i64 0]) ?_ 3 _ rfl; (with_reducible repeat (first | refine blk_drewN ?_ _ | refine blk_drew ?_ | refine blk_alloc ?_ _)); refine blk_put (cs := #[.int .i64 t557, .string t558, .string (⟨#[]⟩ : ByteArray), .string (⟨#[]⟩ : ByteArray), .string (⟨#[]⟩ : ByteArray), .int .i64 0, .int .i64 0]) ?_ 2 _ rfl; (with_reducible repeat (first | refine blk_drewN ?_ _ | refine blk_drew ?_ | refine blk_alloc ?_ _)); refine blk_put (cs := #[.int .i64 t557, .string (⟨#[]⟩ : ByteArray), .string (⟨#[]⟩ : ByteArray), .string (⟨#[]⟩ : ByteArray), .string (⟨#[]⟩ : ByteArray), .int .i64 0, .int .i64 0]) ?_ 1 _ rfl; (with_reducible repeat (first | refine blk_drewN ?_ _ | refine blk_drew ?_ | refine blk_alloc ?_ _)); refine blk_put (cs := #[.int .i64 0, .string (⟨#[]⟩ : ByteArray), .string (⟨#[]⟩ : ByteArray), .string (⟨#[]⟩ : ByteArray), .string (⟨#[]⟩ : ByteArray), .int .i64 0, .int .i64 0]) ?_ 0 _ rfl; (with_reducible repeat (first | refine blk_drewN ?_ _ | refine blk_drew ?_ | refine blk_alloc ?_ _)); exact BK565.out) hb); have n1_ := Aside0.mk (below_step (by repeat (first | (with_reducible first | exact HB.out | apply below_alloc | apply pw_below_drewN | apply below_drew1 | refine below_set ?_ GE565.out) | exact HB.out)) hb); clear BK565; clear HB; have BK565 := n0_; have HB := n1_; clear n0_ n1_; (try clear hb); (try clear hb2); (try clear hk); (try clear hi); have hcz24_0 : w23.cell? ⟨gb565, 0, none⟩ = some (.int .i64 t557) := (blk_cell BK565.out 0).trans rfl; have hcz24_1 : w23.cell? ⟨gb565, 1, none⟩ = some (.string t558) := (blk_cell BK565.out 1).trans rfl; have hcz24_2 : w23.cell? ⟨gb565, 2, none⟩ = some (.string t559) := (blk_cell BK565.out 2).trans rfl; have hcz24_3 : w23.cell? ⟨gb565, 3, none⟩ = some (.string t560) := (blk_cell BK565.out 3).trans rfl; have hcz24_4 : w23.cell? ⟨gb565, 4, none⟩ = some (.string t561) := (blk_cell BK565.out 4).trans rfl; have hcz24_5 : w23.cell? ⟨gb565, 5, none⟩ = some (.int .i64 t562) := (blk_cell BK565.out 5).trans rfl; have hcz24_6 : w23.cell? ⟨gb565, 6, none⟩ = some (.int .i64 t563) := (blk_cell BK565.out 6).trans rfl; have hfz24_0 := blk_frozen BK565.out 0; have hfz24_1 := blk_frozen BK565.out 1; have hfz24_2 := blk_frozen BK565.out 2; have hfz24_3 := blk_frozen BK565.out 3; have hfz24_4 := blk_frozen BK565.out 4; have hfz24_5 := blk_frozen BK565.out 5; have hfz24_6 := blk_frozen BK565.out 6) | (go_at_call 32; (with_reducible refine (wire_Ask_Right.calls t557 t558 t559 t560 t561 t562 t563 false _ A16.out).mono ?_); rintro e w25 ⟨rfl, hb⟩; have n0_ := Aside0.mk (blk_below (g := gb565) (o := .cells #[.int .i64 t557, .string t558, .string t559, .string t560, .string t561, .int .i64 t562, .int .i64 t563] 30 (0, 0)) (by (with_reducible repeat (first | refine blk_drewN ?_ _ | refine blk_drew ?_ | refine blk_alloc ?_ _)); exact BK565.out) hb); have n1_ := Aside0.mk (below_step (by repeat (first | (with_reducible first | exact HB.out | apply below_alloc | apply pw_below_drewN | apply below_drew1 | refine below_set ?_ GE565.out) | exact HB.out)) hb); clear BK565; clear HB; have BK565 := n0_; have HB := n1_; clear n0_ n1_; (try clear hb); (try clear hb2); (try clear hk); (try clear hi)))
                go_ret
                exact ⟨by first | rfl | (simp [errW_none, errW_some] <;> rfl) | (simp [*, errW_none, errW_some] <;> rfl), by repeat (first | (with_reducible first | exact HB.out | apply below_alloc | apply pw_below_drewN | apply below_drew1 | refine below_set ?_ GE565.out) | exact HB.out)⟩
            · rw [if_neg c15] at H
              have c15b0 : (t566.toList == a0.toList) = false := beq_eq_false_iff_ne.mpr c15
              have c15b1 : (t566.toList != a0.toList) = true := bne_iff_ne.mpr c15
              obtain rfl := Option.some.inj H
              have hcz26_0 : w10.cell? ⟨gb565, 0, none⟩ = some (.int .i64 0) := (blk_cell BK565.out 0).trans rfl
              have hcz26_1 : w10.cell? ⟨gb565, 1, none⟩ = some (.string (⟨#[]⟩ : ByteArray)) := (blk_cell BK565.out 1).trans rfl
              have hcz26_2 : w10.cell? ⟨gb565, 2, none⟩ = some (.string (⟨#[]⟩ : ByteArray)) := (blk_cell BK565.out 2).trans rfl
              have hcz26_3 : w10.cell? ⟨gb565, 3, none⟩ = some (.string (⟨#[]⟩ : ByteArray)) := (blk_cell BK565.out 3).trans rfl
              have hcz26_4 : w10.cell? ⟨gb565, 4, none⟩ = some (.string (⟨#[]⟩ : ByteArray)) := (blk_cell BK565.out 4).trans rfl
              have hcz26_5 : w10.cell? ⟨gb565, 5, none⟩ = some (.int .i64 0) := (blk_cell BK565.out 5).trans rfl
              have hcz26_6 : w10.cell? ⟨gb565, 6, none⟩ = some (.int .i64 0) := (blk_cell BK565.out 6).trans rfl
              have hfz26_0 := blk_frozen BK565.out 0
              have hfz26_1 := blk_frozen BK565.out 1
              have hfz26_2 := blk_frozen BK565.out 2
              have hfz26_3 := blk_frozen BK565.out 3
              have hfz26_4 := blk_frozen BK565.out 4
              have hfz26_5 := blk_frozen BK565.out 5
              have hfz26_6 := blk_frozen BK565.out 6
              go_wp2_with (first | ((with_reducible refine gate_callee (f := 19) rfl ?_); refine goesL_ (some 23) rfl rfl Try.func19 (by kernel_rfl) rfl #[.agg #[.int .i64 t557, .string t558, .string t559, .string t560, .string t561, .int .i64 t562, .int .i64 t563]] rfl (by (try simp only [List.map_toArray, List.map_cons, List.map_nil]); first | done | rfl | (simp only [List.length_drop, List.length_take]; rfl)) ?_; (with_reducible refine (wire_Ask_Encode.calls k t557 t558 t559 t560 t561 t562 t563 t566 t567 _ A13.out).mono ?_); rintro e w27 ⟨rfl, hb⟩; refine ⟨_, rfl, ?_⟩; have n0_ := Aside0.mk (blk_below (g := gb565) (o := .cells #[.int .i64 t557, .string t558, .string t559, .string t560, .string t561, .int .i64 t562, .int .i64 t563] 30 (0, 0)) (by (with_reducible repeat (first | refine blk_drewN ?_ _ | refine blk_drew ?_ | refine blk_alloc ?_ _)); refine blk_put (cs := #[.int .i64 t557, .string t558, .string t559, .string t560, .string t561, .int .i64 t562, .int .i64 0]) ?_ 6 _ rfl; (with_reducible repeat (first | refine blk_drewN ?_ _ | refine blk_drew ?_ | refine blk_alloc ?_ _)); refine blk_put (cs := #[.int .i64 t557, .string t558, .string t559, .string t560, .string t561, .int .i64 0, .int .i64 0]) ?_ 5 _ rfl; (with_reducible repeat (first | refine blk_drewN ?_ _ | refine blk_drew ?_ | refine blk_alloc ?_ _)); refine blk_put (cs := #[.int .i64 t557, .string t558, .string t559, .string t560, .string (⟨#[]⟩ : ByteArray), .int .i64 0, .int .i64 0]) ?_ 4 _ rfl; (with_reducible repeat (first | refine blk_drewN ?_ _ | refine blk_drew ?_ | refine blk_alloc ?_ _)); refine blk_put (cs := #[.int .i64 t557, .string t558, .string t559, .string (⟨#[]⟩ : ByteArray), .string (⟨#[]⟩ : ByteArray), .int .i64 0, .int .i64 0]) ?_ 3 _ rfl; (with_reducible repeat (first | refine blk_drewN ?_ _ | refine blk_drew ?_ | refine blk_alloc ?_ _)); refine blk_put (cs := #[.int .i64 t557, .string t558, .string (⟨#[]⟩ : ByteArray), .string (⟨#[]⟩ : ByteArray), .string (⟨#[]⟩ : ByteArray), .int .i64 0, .int .i64 0]) ?_ 2 _ rfl; (with_reducible repeat (first | refine blk_drewN ?_ _ | refine blk_drew ?_ | refine blk_alloc ?_ _)); refine blk_put (cs := #[.int .i64 t557, .string (⟨#[]⟩ : ByteArray), .string (⟨#[]⟩ : ByteArray), .string (⟨#[]⟩ : ByteArray), .string (⟨#[]⟩ : ByteArray), .int .i64 0, .int .i64 0]) ?_ 1 _ rfl; (with_reducible repeat (first | refine blk_drewN ?_ _ | refine blk_drew ?_ | refine blk_alloc ?_ _)); refine blk_put (cs := #[.int .i64 0, .string (⟨#[]⟩ : ByteArray), .string (⟨#[]⟩ : ByteArray), .string (⟨#[]⟩ : ByteArray), .string (⟨#[]⟩ : ByteArray), .int .i64 0, .int .i64 0]) ?_ 0 _ rfl; (with_reducible repeat (first | refine blk_drewN ?_ _ | refine blk_drew ?_ | refine blk_alloc ?_ _)); exact BK565.out) hb); have n1_ := Aside0.mk (below_step (by repeat (first | (with_reducible first | exact HB.out | apply below_alloc | apply pw_below_drewN | apply below_drew1 | refine below_set ?_ GE565.out) | exact HB.out)) hb); clear BK565; clear HB; have BK565 := n0_; have HB := n1_; clear n0_ n1_; (try clear hb); (try clear hb2); (try clear hk); (try clear hi)))
              go_ret
              exact ⟨by first | rfl | (simp [errW_none, errW_some] <;> rfl) | (simp [*, errW_none, errW_some] <;> rfl), by repeat (first | (with_reducible first | exact HB.out | apply below_alloc | apply pw_below_drewN | apply below_drew1 | refine below_set ?_ GE565.out) | exact HB.out)⟩
          · rw [if_neg c14] at H
            have c14b0 : (t567 == 0) = false := beq_eq_false_iff_ne.mpr c14
            have c14b1 : (t567 != 0) = true := bne_iff_ne.mpr c14
            obtain rfl := Option.some.inj H
            have hcz28_0 : w10.cell? ⟨gb565, 0, none⟩ = some (.int .i64 0) := (blk_cell BK565.out 0).trans rfl
            have hcz28_1 : w10.cell? ⟨gb565, 1, none⟩ = some (.string (⟨#[]⟩ : ByteArray)) := (blk_cell BK565.out 1).trans rfl
            have hcz28_2 : w10.cell? ⟨gb565, 2, none⟩ = some (.string (⟨#[]⟩ : ByteArray)) := (blk_cell BK565.out 2).trans rfl
            have hcz28_3 : w10.cell? ⟨gb565, 3, none⟩ = some (.string (⟨#[]⟩ : ByteArray)) := (blk_cell BK565.out 3).trans rfl
            have hcz28_4 : w10.cell? ⟨gb565, 4, none⟩ = some (.string (⟨#[]⟩ : ByteArray)) := (blk_cell BK565.out 4).trans rfl
            have hcz28_5 : w10.cell? ⟨gb565, 5, none⟩ = some (.int .i64 0) := (blk_cell BK565.out 5).trans rfl
            have hcz28_6 : w10.cell? ⟨gb565, 6, none⟩ = some (.int .i64 0) := (blk_cell BK565.out 6).trans rfl
            have hfz28_0 := blk_frozen BK565.out 0
            have hfz28_1 := blk_frozen BK565.out 1
            have hfz28_2 := blk_frozen BK565.out 2
            have hfz28_3 := blk_frozen BK565.out 3
            have hfz28_4 := blk_frozen BK565.out 4
            have hfz28_5 := blk_frozen BK565.out 5
            have hfz28_6 := blk_frozen BK565.out 6
            go_wp2_with (first | ((with_reducible refine gate_callee (f := 19) rfl ?_); refine goesL_ (some 23) rfl rfl Try.func19 (by kernel_rfl) rfl #[.agg #[.int .i64 t557, .string t558, .string t559, .string t560, .string t561, .int .i64 t562, .int .i64 t563]] rfl (by (try simp only [List.map_toArray, List.map_cons, List.map_nil]); first | done | rfl | (simp only [List.length_drop, List.length_take]; rfl)) ?_; (with_reducible refine (wire_Ask_Encode.calls k t557 t558 t559 t560 t561 t562 t563 t566 t567 _ A13.out).mono ?_); rintro e w29 ⟨rfl, hb⟩; refine ⟨_, rfl, ?_⟩; have n0_ := Aside0.mk (blk_below (g := gb565) (o := .cells #[.int .i64 t557, .string t558, .string t559, .string t560, .string t561, .int .i64 t562, .int .i64 t563] 30 (0, 0)) (by (with_reducible repeat (first | refine blk_drewN ?_ _ | refine blk_drew ?_ | refine blk_alloc ?_ _)); refine blk_put (cs := #[.int .i64 t557, .string t558, .string t559, .string t560, .string t561, .int .i64 t562, .int .i64 0]) ?_ 6 _ rfl; (with_reducible repeat (first | refine blk_drewN ?_ _ | refine blk_drew ?_ | refine blk_alloc ?_ _)); refine blk_put (cs := #[.int .i64 t557, .string t558, .string t559, .string t560, .string t561, .int .i64 0, .int .i64 0]) ?_ 5 _ rfl; (with_reducible repeat (first | refine blk_drewN ?_ _ | refine blk_drew ?_ | refine blk_alloc ?_ _)); refine blk_put (cs := #[.int .i64 t557, .string t558, .string t559, .string t560, .string (⟨#[]⟩ : ByteArray), .int .i64 0, .int .i64 0]) ?_ 4 _ rfl; (with_reducible repeat (first | refine blk_drewN ?_ _ | refine blk_drew ?_ | refine blk_alloc ?_ _)); refine blk_put (cs := #[.int .i64 t557, .string t558, .string t559, .string (⟨#[]⟩ : ByteArray), .string (⟨#[]⟩ : ByteArray), .int .i64 0, .int .i64 0]) ?_ 3 _ rfl; (with_reducible repeat (first | refine blk_drewN ?_ _ | refine blk_drew ?_ | refine blk_alloc ?_ _)); refine blk_put (cs := #[.int .i64 t557, .string t558, .string (⟨#[]⟩ : ByteArray), .string (⟨#[]⟩ : ByteArray), .string (⟨#[]⟩ : ByteArray), .int .i64 0, .int .i64 0]) ?_ 2 _ rfl; (with_reducible repeat (first | refine blk_drewN ?_ _ | refine blk_drew ?_ | refine blk_alloc ?_ _)); refine blk_put (cs := #[.int .i64 t557, .string (⟨#[]⟩ : ByteArray), .string (⟨#[]⟩ : ByteArray), .string (⟨#[]⟩ : ByteArray), .string (⟨#[]⟩ : ByteArray), .int .i64 0, .int .i64 0]) ?_ 1 _ rfl; (with_reducible repeat (first | refine blk_drewN ?_ _ | refine blk_drew ?_ | refine blk_alloc ?_ _)); refine blk_put (cs := #[.int .i64 0, .string (⟨#[]⟩ : ByteArray), .string (⟨#[]⟩ : ByteArray), .string (⟨#[]⟩ : ByteArray), .string (⟨#[]⟩ : ByteArray), .int .i64 0, .int .i64 0]) ?_ 0 _ rfl; (with_reducible repeat (first | refine blk_drewN ?_ _ | refine blk_drew ?_ | refine blk_alloc ?_ _)); exact BK565.out) hb); have n1_ := Aside0.mk (below_step (by repeat (first | (with_reducible first | exact HB.out | apply below_alloc | apply pw_below_drewN | apply below_drew1 | refine below_set ?_ GE565.out) | exact HB.out)) hb); clear BK565; clear HB; have BK565 := n0_; have HB := n1_; clear n0_ n1_; (try clear hb); (try clear hb2); (try clear hk); (try clear hi)))
            go_ret
            exact ⟨by first | rfl | (simp [errW_none, errW_some] <;> rfl) | (simp [*, errW_none, errW_some] <;> rfl), by repeat (first | (with_reducible first | exact HB.out | apply below_alloc | apply pw_below_drewN | apply below_drew1 | refine below_set ?_ GE565.out) | exact HB.out)⟩
        · rw [if_neg c12] at H
          have c12b0 : (t564 == 0) = false := beq_eq_false_iff_ne.mpr c12
          have c12b1 : (t564 != 0) = true := bne_iff_ne.mpr c12
          (first | rw [c12b0] | (simp only [i64_w, i32_w]; rw [c12b0]) | skip)
          by_cases c30 : t564 = 2
          · rw [if_pos c30] at H
            have c30b0 : (t564 == 2) = true := beq_iff_eq.mpr c30
            have c30b1 : (t564 != 2) = false := bne_eq_false_iff_eq.mpr c30
            clear c30
            by_cases c31 : ((t564 == 4) != (decide ((a0.size : Int) > 20000))) = true
            · rw [if_pos c31] at H
              have c31b0 : ((t564 == 4) != (decide ((a0.size : Int) > 20000))) = true := c31
              (try (have c31b1 : decide ((t564 == 4) = (decide ((a0.size : Int) > 20000))) = false := by simpa using c31))
              (try (have c31b2 : ((t564 == 4) == (decide ((a0.size : Int) > 20000))) = false := by simpa using c31))
              (try (have c31b3 : ¬ ((t564 == 4) = (decide ((a0.size : Int) > 20000))) := by simpa using c31))
              clear c31
              obtain rfl := Option.some.inj H
              go_wp2
              go_ret
              exact ⟨by first | rfl | (simp [errW_none, errW_some] <;> rfl) | (simp [*, errW_none, errW_some] <;> rfl), by repeat (first | (with_reducible first | exact HB.out | apply below_alloc | apply pw_below_drewN | apply below_drew1 | refine below_set ?_ GE565.out) | exact HB.out)⟩
            · rw [if_neg c31] at H
              have c31b0 : ((t564 == 4) != (decide ((a0.size : Int) > 20000))) = false := by simpa using c31
              (try (have c31b1 : decide ((t564 == 4) = (decide ((a0.size : Int) > 20000))) = true := by simpa using c31))
              (try (have c31b2 : ((t564 == 4) == (decide ((a0.size : Int) > 20000))) = true := by simpa using c31))
              clear c31
              by_cases c32 : (!(t557 == 0) || (!(t558.toList == ([] : List UInt8)) || (!(t559.toList == ([] : List UInt8)) || (!(t560.toList == ([] : List UInt8)) || (!(t561.toList == ([] : List UInt8)) || (!(t562 == 0) || (!(t563 == 0)))))))) = true
              · rw [if_pos c32] at H
                have c32b0 : (!(t557 == 0) || (!(t558.toList == ([] : List UInt8)) || (!(t559.toList == ([] : List UInt8)) || (!(t560.toList == ([] : List UInt8)) || (!(t561.toList == ([] : List UInt8)) || (!(t562 == 0) || (!(t563 == 0)))))))) = true := c32
                have c32b1 : (!(t557 == 0) || (!(t558.toList.isEmpty) || (!(t559.toList.isEmpty) || (!(t560.toList.isEmpty) || (!(t561.toList.isEmpty) || (!(t562 == 0) || (!(t563 == 0)))))))) = true := by simpa only [nil_beq] using c32b0
                clear c32
                obtain rfl := Option.some.inj H
                have hcz33_0 : w10.cell? ⟨gb565, 0, none⟩ = some (.int .i64 0) := (blk_cell BK565.out 0).trans rfl
                have hcz33_1 : w10.cell? ⟨gb565, 1, none⟩ = some (.string (⟨#[]⟩ : ByteArray)) := (blk_cell BK565.out 1).trans rfl
                have hcz33_2 : w10.cell? ⟨gb565, 2, none⟩ = some (.string (⟨#[]⟩ : ByteArray)) := (blk_cell BK565.out 2).trans rfl
                have hcz33_3 : w10.cell? ⟨gb565, 3, none⟩ = some (.string (⟨#[]⟩ : ByteArray)) := (blk_cell BK565.out 3).trans rfl
                have hcz33_4 : w10.cell? ⟨gb565, 4, none⟩ = some (.string (⟨#[]⟩ : ByteArray)) := (blk_cell BK565.out 4).trans rfl
                have hcz33_5 : w10.cell? ⟨gb565, 5, none⟩ = some (.int .i64 0) := (blk_cell BK565.out 5).trans rfl
                have hcz33_6 : w10.cell? ⟨gb565, 6, none⟩ = some (.int .i64 0) := (blk_cell BK565.out 6).trans rfl
                have hfz33_0 := blk_frozen BK565.out 0
                have hfz33_1 := blk_frozen BK565.out 1
                have hfz33_2 := blk_frozen BK565.out 2
                have hfz33_3 := blk_frozen BK565.out 3
                have hfz33_4 := blk_frozen BK565.out 4
                have hfz33_5 := blk_frozen BK565.out 5
                have hfz33_6 := blk_frozen BK565.out 6
                go_wp2
                go_ret
                exact ⟨by first | rfl | (simp [errW_none, errW_some] <;> rfl) | (simp [*, errW_none, errW_some] <;> rfl), by repeat (first | (with_reducible first | exact HB.out | apply below_alloc | apply pw_below_drewN | apply below_drew1 | refine below_set ?_ GE565.out) | exact HB.out)⟩
              · rw [if_neg c32] at H
                have c32b0 : (!(t557 == 0) || (!(t558.toList == ([] : List UInt8)) || (!(t559.toList == ([] : List UInt8)) || (!(t560.toList == ([] : List UInt8)) || (!(t561.toList == ([] : List UInt8)) || (!(t562 == 0) || (!(t563 == 0)))))))) = false := by simpa using c32
                have c32b1 : (!(t557 == 0) || (!(t558.toList.isEmpty) || (!(t559.toList.isEmpty) || (!(t560.toList.isEmpty) || (!(t561.toList.isEmpty) || (!(t562 == 0) || (!(t563 == 0)))))))) = false := by simpa only [nil_beq] using c32b0
                clear c32
                have H' := Aside0.mk H
                clear H
                have hcz34_0 : w10.cell? ⟨gb565, 0, none⟩ = some (.int .i64 0) := (blk_cell BK565.out 0).trans rfl
                have hcz34_1 : w10.cell? ⟨gb565, 1, none⟩ = some (.string (⟨#[]⟩ : ByteArray)) := (blk_cell BK565.out 1).trans rfl
                have hcz34_2 : w10.cell? ⟨gb565, 2, none⟩ = some (.string (⟨#[]⟩ : ByteArray)) := (blk_cell BK565.out 2).trans rfl
                have hcz34_3 : w10.cell? ⟨gb565, 3, none⟩ = some (.string (⟨#[]⟩ : ByteArray)) := (blk_cell BK565.out 3).trans rfl
                have hcz34_4 : w10.cell? ⟨gb565, 4, none⟩ = some (.string (⟨#[]⟩ : ByteArray)) := (blk_cell BK565.out 4).trans rfl
                have hcz34_5 : w10.cell? ⟨gb565, 5, none⟩ = some (.int .i64 0) := (blk_cell BK565.out 5).trans rfl
                have hcz34_6 : w10.cell? ⟨gb565, 6, none⟩ = some (.int .i64 0) := (blk_cell BK565.out 6).trans rfl
                have hfz34_0 := blk_frozen BK565.out 0
                have hfz34_1 := blk_frozen BK565.out 1
                have hfz34_2 := blk_frozen BK565.out 2
                have hfz34_3 := blk_frozen BK565.out 3
                have hfz34_4 := blk_frozen BK565.out 4
                have hfz34_5 := blk_frozen BK565.out 5
                have hfz34_6 := blk_frozen BK565.out 6
                go_wp2
                go_meet
                case rel => exact ⟨_, H', ⟨by first | omega | exact Nat.le_refl _⟩, ⟨by (with_reducible repeat (first | refine blk_drewN ?_ _ | refine blk_drew ?_ | refine blk_alloc ?_ _)); refine blk_put (cs := #[.int .i64 t557, .string t558, .string t559, .string t560, .string t561, .int .i64 t562, .int .i64 0]) ?_ 6 _ rfl; (with_reducible repeat (first | refine blk_drewN ?_ _ | refine blk_drew ?_ | refine blk_alloc ?_ _)); refine blk_put (cs := #[.int .i64 t557, .string t558, .string t559, .string t560, .string t561, .int .i64 0, .int .i64 0]) ?_ 5 _ rfl; (with_reducible repeat (first | refine blk_drewN ?_ _ | refine blk_drew ?_ | refine blk_alloc ?_ _)); refine blk_put (cs := #[.int .i64 t557, .string t558, .string t559, .string t560, .string (⟨#[]⟩ : ByteArray), .int .i64 0, .int .i64 0]) ?_ 4 _ rfl; (with_reducible repeat (first | refine blk_drewN ?_ _ | refine blk_drew ?_ | refine blk_alloc ?_ _)); refine blk_put (cs := #[.int .i64 t557, .string t558, .string t559, .string (⟨#[]⟩ : ByteArray), .string (⟨#[]⟩ : ByteArray), .int .i64 0, .int .i64 0]) ?_ 3 _ rfl; (with_reducible repeat (first | refine blk_drewN ?_ _ | refine blk_drew ?_ | refine blk_alloc ?_ _)); refine blk_put (cs := #[.int .i64 t557, .string t558, .string (⟨#[]⟩ : ByteArray), .string (⟨#[]⟩ : ByteArray), .string (⟨#[]⟩ : ByteArray), .int .i64 0, .int .i64 0]) ?_ 2 _ rfl; (with_reducible repeat (first | refine blk_drewN ?_ _ | refine blk_drew ?_ | refine blk_alloc ?_ _)); refine blk_put (cs := #[.int .i64 t557, .string (⟨#[]⟩ : ByteArray), .string (⟨#[]⟩ : ByteArray), .string (⟨#[]⟩ : ByteArray), .string (⟨#[]⟩ : ByteArray), .int .i64 0, .int .i64 0]) ?_ 1 _ rfl; (with_reducible repeat (first | refine blk_drewN ?_ _ | refine blk_drew ?_ | refine blk_alloc ?_ _)); refine blk_put (cs := #[.int .i64 0, .string (⟨#[]⟩ : ByteArray), .string (⟨#[]⟩ : ByteArray), .string (⟨#[]⟩ : ByteArray), .string (⟨#[]⟩ : ByteArray), .int .i64 0, .int .i64 0]) ?_ 0 _ rfl; (with_reducible repeat (first | refine blk_drewN ?_ _ | refine blk_drew ?_ | refine blk_alloc ?_ _)); exact BK565.out⟩, ⟨by repeat (first | (with_reducible first | exact HB.out | apply below_alloc | apply pw_below_drewN | apply below_drew1 | refine below_set ?_ GE565.out) | exact HB.out)⟩⟩
          · rw [if_neg c30] at H
            have c30b0 : (t564 == 2) = false := beq_eq_false_iff_ne.mpr c30
            have c30b1 : (t564 != 2) = true := bne_iff_ne.mpr c30
            by_cases c35 : t564 = 4
            · rw [if_pos c35] at H
              have c35b0 : (t564 == 4) = true := beq_iff_eq.mpr c35
              have c35b1 : (t564 != 4) = false := bne_eq_false_iff_eq.mpr c35
              clear c35
              by_cases c36 : ((t564 == 4) != (decide ((a0.size : Int) > 20000))) = true
              · rw [if_pos c36] at H
                have c36b0 : ((t564 == 4) != (decide ((a0.size : Int) > 20000))) = true := c36
                have c36b5 : decide ((a0.size : Int) > 20000) = false := by have h_ := c36b0; rw [c35b0] at h_; revert h_; cases decide ((a0.size : Int) > 20000) <;> simp
                have c36b6 : decide ((20000 : Int) < (a0.size : Int)) = false := c36b5
                have c36b7 : decide (20000 < a0.size) = false := by rw [← c36b5, decide_eq_decide]; omega
                have c36b8 : decide ((a0.size : Int) ≤ 20000) = true := decide_eq_true (by have := of_decide_eq_false c36b5; omega)
                (try (have c36b1 : decide ((t564 == 4) = (decide ((a0.size : Int) > 20000))) = false := by simpa using c36))
                (try (have c36b2 : ((t564 == 4) == (decide ((a0.size : Int) > 20000))) = false := by simpa using c36))
                (try (have c36b3 : ¬ ((t564 == 4) = (decide ((a0.size : Int) > 20000))) := by simpa using c36))
                clear c36
                obtain rfl := Option.some.inj H
                go_wp2
                go_ret
                exact ⟨by first | rfl | (simp [errW_none, errW_some] <;> rfl) | (simp [*, errW_none, errW_some] <;> rfl), by repeat (first | (with_reducible first | exact HB.out | apply below_alloc | apply pw_below_drewN | apply below_drew1 | refine below_set ?_ GE565.out) | exact HB.out)⟩
              · rw [if_neg c36] at H
                have c36b0 : ((t564 == 4) != (decide ((a0.size : Int) > 20000))) = false := by simpa using c36
                have c36b5 : decide ((a0.size : Int) > 20000) = true := by have h_ := c36b0; rw [c35b0] at h_; revert h_; cases decide ((a0.size : Int) > 20000) <;> simp
                have c36b6 : decide ((20000 : Int) < (a0.size : Int)) = true := c36b5
                have c36b7 : decide (20000 < a0.size) = true := by rw [← c36b5, decide_eq_decide]; omega
                have c36b8 : decide ((a0.size : Int) ≤ 20000) = false := decide_eq_false (by have := of_decide_eq_true c36b5; omega)
                (try (have c36b1 : decide ((t564 == 4) = (decide ((a0.size : Int) > 20000))) = true := by simpa using c36))
                (try (have c36b2 : ((t564 == 4) == (decide ((a0.size : Int) > 20000))) = true := by simpa using c36))
                clear c36
                by_cases c37 : (!(t557 == 0) || (!(t558.toList == ([] : List UInt8)) || (!(t559.toList == ([] : List UInt8)) || (!(t560.toList == ([] : List UInt8)) || (!(t561.toList == ([] : List UInt8)) || (!(t562 == 0) || (!(t563 == 0)))))))) = true
                · rw [if_pos c37] at H
                  have c37b0 : (!(t557 == 0) || (!(t558.toList == ([] : List UInt8)) || (!(t559.toList == ([] : List UInt8)) || (!(t560.toList == ([] : List UInt8)) || (!(t561.toList == ([] : List UInt8)) || (!(t562 == 0) || (!(t563 == 0)))))))) = true := c37
                  have c37b1 : (!(t557 == 0) || (!(t558.toList.isEmpty) || (!(t559.toList.isEmpty) || (!(t560.toList.isEmpty) || (!(t561.toList.isEmpty) || (!(t562 == 0) || (!(t563 == 0)))))))) = true := by simpa only [nil_beq] using c37b0
                  clear c37
                  obtain rfl := Option.some.inj H
                  have hcz38_0 : w10.cell? ⟨gb565, 0, none⟩ = some (.int .i64 0) := (blk_cell BK565.out 0).trans rfl
                  have hcz38_1 : w10.cell? ⟨gb565, 1, none⟩ = some (.string (⟨#[]⟩ : ByteArray)) := (blk_cell BK565.out 1).trans rfl
                  have hcz38_2 : w10.cell? ⟨gb565, 2, none⟩ = some (.string (⟨#[]⟩ : ByteArray)) := (blk_cell BK565.out 2).trans rfl
                  have hcz38_3 : w10.cell? ⟨gb565, 3, none⟩ = some (.string (⟨#[]⟩ : ByteArray)) := (blk_cell BK565.out 3).trans rfl
                  have hcz38_4 : w10.cell? ⟨gb565, 4, none⟩ = some (.string (⟨#[]⟩ : ByteArray)) := (blk_cell BK565.out 4).trans rfl
                  have hcz38_5 : w10.cell? ⟨gb565, 5, none⟩ = some (.int .i64 0) := (blk_cell BK565.out 5).trans rfl
                  have hcz38_6 : w10.cell? ⟨gb565, 6, none⟩ = some (.int .i64 0) := (blk_cell BK565.out 6).trans rfl
                  have hfz38_0 := blk_frozen BK565.out 0
                  have hfz38_1 := blk_frozen BK565.out 1
                  have hfz38_2 := blk_frozen BK565.out 2
                  have hfz38_3 := blk_frozen BK565.out 3
                  have hfz38_4 := blk_frozen BK565.out 4
                  have hfz38_5 := blk_frozen BK565.out 5
                  have hfz38_6 := blk_frozen BK565.out 6
                  go_wp2
                  go_ret
                  exact ⟨by first | rfl | (simp [errW_none, errW_some] <;> rfl) | (simp [*, errW_none, errW_some] <;> rfl), by repeat (first | (with_reducible first | exact HB.out | apply below_alloc | apply pw_below_drewN | apply below_drew1 | refine below_set ?_ GE565.out) | exact HB.out)⟩
                · rw [if_neg c37] at H
                  have c37b0 : (!(t557 == 0) || (!(t558.toList == ([] : List UInt8)) || (!(t559.toList == ([] : List UInt8)) || (!(t560.toList == ([] : List UInt8)) || (!(t561.toList == ([] : List UInt8)) || (!(t562 == 0) || (!(t563 == 0)))))))) = false := by simpa using c37
                  have c37b1 : (!(t557 == 0) || (!(t558.toList.isEmpty) || (!(t559.toList.isEmpty) || (!(t560.toList.isEmpty) || (!(t561.toList.isEmpty) || (!(t562 == 0) || (!(t563 == 0)))))))) = false := by simpa only [nil_beq] using c37b0
                  clear c37
                  have H' := Aside0.mk H
                  clear H
                  have hcz39_0 : w10.cell? ⟨gb565, 0, none⟩ = some (.int .i64 0) := (blk_cell BK565.out 0).trans rfl
                  have hcz39_1 : w10.cell? ⟨gb565, 1, none⟩ = some (.string (⟨#[]⟩ : ByteArray)) := (blk_cell BK565.out 1).trans rfl
                  have hcz39_2 : w10.cell? ⟨gb565, 2, none⟩ = some (.string (⟨#[]⟩ : ByteArray)) := (blk_cell BK565.out 2).trans rfl
                  have hcz39_3 : w10.cell? ⟨gb565, 3, none⟩ = some (.string (⟨#[]⟩ : ByteArray)) := (blk_cell BK565.out 3).trans rfl
                  have hcz39_4 : w10.cell? ⟨gb565, 4, none⟩ = some (.string (⟨#[]⟩ : ByteArray)) := (blk_cell BK565.out 4).trans rfl
                  have hcz39_5 : w10.cell? ⟨gb565, 5, none⟩ = some (.int .i64 0) := (blk_cell BK565.out 5).trans rfl
                  have hcz39_6 : w10.cell? ⟨gb565, 6, none⟩ = some (.int .i64 0) := (blk_cell BK565.out 6).trans rfl
                  have hfz39_0 := blk_frozen BK565.out 0
                  have hfz39_1 := blk_frozen BK565.out 1
                  have hfz39_2 := blk_frozen BK565.out 2
                  have hfz39_3 := blk_frozen BK565.out 3
                  have hfz39_4 := blk_frozen BK565.out 4
                  have hfz39_5 := blk_frozen BK565.out 5
                  have hfz39_6 := blk_frozen BK565.out 6
                  go_wp2
                  go_meet
                  case rel => exact ⟨_, H', ⟨by first | omega | exact Nat.le_refl _⟩, ⟨by (with_reducible repeat (first | refine blk_drewN ?_ _ | refine blk_drew ?_ | refine blk_alloc ?_ _)); refine blk_put (cs := #[.int .i64 t557, .string t558, .string t559, .string t560, .string t561, .int .i64 t562, .int .i64 0]) ?_ 6 _ rfl; (with_reducible repeat (first | refine blk_drewN ?_ _ | refine blk_drew ?_ | refine blk_alloc ?_ _)); refine blk_put (cs := #[.int .i64 t557, .string t558, .string t559, .string t560, .string t561, .int .i64 0, .int .i64 0]) ?_ 5 _ rfl; (with_reducible repeat (first | refine blk_drewN ?_ _ | refine blk_drew ?_ | refine blk_alloc ?_ _)); refine blk_put (cs := #[.int .i64 t557, .string t558, .string t559, .string t560, .string (⟨#[]⟩ : ByteArray), .int .i64 0, .int .i64 0]) ?_ 4 _ rfl; (with_reducible repeat (first | refine blk_drewN ?_ _ | refine blk_drew ?_ | refine blk_alloc ?_ _)); refine blk_put (cs := #[.int .i64 t557, .string t558, .string t559, .string (⟨#[]⟩ : ByteArray), .string (⟨#[]⟩ : ByteArray), .int .i64 0, .int .i64 0]) ?_ 3 _ rfl; (with_reducible repeat (first | refine blk_drewN ?_ _ | refine blk_drew ?_ | refine blk_alloc ?_ _)); refine blk_put (cs := #[.int .i64 t557, .string t558, .string (⟨#[]⟩ : ByteArray), .string (⟨#[]⟩ : ByteArray), .string (⟨#[]⟩ : ByteArray), .int .i64 0, .int .i64 0]) ?_ 2 _ rfl; (with_reducible repeat (first | refine blk_drewN ?_ _ | refine blk_drew ?_ | refine blk_alloc ?_ _)); refine blk_put (cs := #[.int .i64 t557, .string (⟨#[]⟩ : ByteArray), .string (⟨#[]⟩ : ByteArray), .string (⟨#[]⟩ : ByteArray), .string (⟨#[]⟩ : ByteArray), .int .i64 0, .int .i64 0]) ?_ 1 _ rfl; (with_reducible repeat (first | refine blk_drewN ?_ _ | refine blk_drew ?_ | refine blk_alloc ?_ _)); refine blk_put (cs := #[.int .i64 0, .string (⟨#[]⟩ : ByteArray), .string (⟨#[]⟩ : ByteArray), .string (⟨#[]⟩ : ByteArray), .string (⟨#[]⟩ : ByteArray), .int .i64 0, .int .i64 0]) ?_ 0 _ rfl; (with_reducible repeat (first | refine blk_drewN ?_ _ | refine blk_drew ?_ | refine blk_alloc ?_ _)); exact BK565.out⟩, ⟨by repeat (first | (with_reducible first | exact HB.out | apply below_alloc | apply pw_below_drewN | apply below_drew1 | refine below_set ?_ GE565.out) | exact HB.out)⟩⟩
            · rw [if_neg c35] at H
              have c35b0 : (t564 == 4) = false := beq_eq_false_iff_ne.mpr c35
              have c35b1 : (t564 != 4) = true := bne_iff_ne.mpr c35
              obtain rfl := Option.some.inj H
              go_wp2
              go_ret
              exact ⟨by first | rfl | (simp [errW_none, errW_some] <;> rfl) | (simp [*, errW_none, errW_some] <;> rfl), by repeat (first | (with_reducible first | exact HB.out | apply below_alloc | apply pw_below_drewN | apply below_drew1 | refine below_set ?_ GE565.out) | exact HB.out)⟩
      case rest =>
        clear HC7
        try clear c1
        try clear p2
        try clear c3
        try clear c4
        try clear c4b0
        try clear c4b1
        try clear c12
        try clear c12b0
        try clear c12b1
        try clear c14
        try clear c14b0
        try clear c14b1
        try clear c15
        try clear c15b0
        try clear c15b1
        try clear c17
        try clear c18
        try clear c19
        try clear c30
        try clear c30b0
        try clear c30b1
        try clear c31
        try clear c31b0
        try clear c31b1
        try clear c31b2
        try clear c32
        try clear c32b0
        try clear c34
        try clear c35
        try clear c35b0
        try clear c35b1
        try clear c36
        try clear c36b0
        try clear c36b1
        try clear c36b2
        try clear c37
        try clear c37b0
        try clear hcz11_0
        try clear hcz11_1
        try clear hcz11_2
        try clear hcz11_3
        try clear hcz11_4
        try clear hcz11_5
        try clear hcz11_6
        try clear hcz18_0
        try clear hcz18_1
        try clear hcz18_2
        try clear hcz18_3
        try clear hcz18_4
        try clear hcz18_5
        try clear hcz18_6
        try clear hcz20_0
        try clear hcz20_1
        try clear hcz20_2
        try clear hcz20_3
        try clear hcz20_4
        try clear hcz20_5
        try clear hcz20_6
        try clear hcz22_0
        try clear hcz22_1
        try clear hcz22_2
        try clear hcz22_3
        try clear hcz22_4
        try clear hcz22_5
        try clear hcz22_6
        try clear hcz24_0
        try clear hcz24_1
        try clear hcz24_2
        try clear hcz24_3
        try clear hcz24_4
        try clear hcz24_5
        try clear hcz24_6
        try clear hcz26_0
        try clear hcz26_1
        try clear hcz26_2
        try clear hcz26_3
        try clear hcz26_4
        try clear hcz26_5
        try clear hcz26_6
        try clear hcz28_0
        try clear hcz28_1
        try clear hcz28_2
        try clear hcz28_3
        try clear hcz28_4
        try clear hcz28_5
        try clear hcz28_6
        try clear hcz33_0
        try clear hcz33_1
        try clear hcz33_2
        try clear hcz33_3
        try clear hcz33_4
        try clear hcz33_5
        try clear hcz33_6
        try clear hcz34_0
        try clear hcz34_1
        try clear hcz34_2
        try clear hcz34_3
        try clear hcz34_4
        try clear hcz34_5
        try clear hcz34_6
        try clear hcz38_0
        try clear hcz38_1
        try clear hcz38_2
        try clear hcz38_3
        try clear hcz38_4
        try clear hcz38_5
        try clear hcz38_6
        try clear hcz39_0
        try clear hcz39_1
        try clear hcz39_2
        try clear hcz39_3
        try clear hcz39_4
        try clear hcz39_5
        try clear hcz39_6
        try clear hfz11_0
        try clear hfz11_1
        try clear hfz11_2
        try clear hfz11_3
        try clear hfz11_4
        try clear hfz11_5
        try clear hfz11_6
        try clear hfz18_0
        try clear hfz18_1
        try clear hfz18_2
        try clear hfz18_3
        try clear hfz18_4
        try clear hfz18_5
        try clear hfz18_6
        try clear hfz20_0
        try clear hfz20_1
        try clear hfz20_2
        try clear hfz20_3
        try clear hfz20_4
        try clear hfz20_5
        try clear hfz20_6
        try clear hfz22_0
        try clear hfz22_1
        try clear hfz22_2
        try clear hfz22_3
        try clear hfz22_4
        try clear hfz22_5
        try clear hfz22_6
        try clear hfz24_0
        try clear hfz24_1
        try clear hfz24_2
        try clear hfz24_3
        try clear hfz24_4
        try clear hfz24_5
        try clear hfz24_6
        try clear hfz26_0
        try clear hfz26_1
        try clear hfz26_2
        try clear hfz26_3
        try clear hfz26_4
        try clear hfz26_5
        try clear hfz26_6
        try clear hfz28_0
        try clear hfz28_1
        try clear hfz28_2
        try clear hfz28_3
        try clear hfz28_4
        try clear hfz28_5
        try clear hfz28_6
        try clear hfz33_0
        try clear hfz33_1
        try clear hfz33_2
        try clear hfz33_3
        try clear hfz33_4
        try clear hfz33_5
        try clear hfz33_6
        try clear hfz34_0
        try clear hfz34_1
        try clear hfz34_2
        try clear hfz34_3
        try clear hfz34_4
        try clear hfz34_5
        try clear hfz34_6
        try clear hfz38_0
        try clear hfz38_1
        try clear hfz38_2
        try clear hfz38_3
        try clear hfz38_4
        try clear hfz38_5
        try clear hfz38_6
        try clear hfz39_0
        try clear hfz39_1
        try clear hfz39_2
        try clear hfz39_3
        try clear hfz39_4
        try clear hfz39_5
        try clear hfz39_6
        obtain ⟨kq, HA, HJ6, BK565, HB⟩ := hcut
        cases kq with
        | zero => exact absurd HA.out (by simp [mailbaglaw18_WireReads.j0])
        | succ kj6 =>
          have H := HA.out
          clear HA
          simp only [mailbaglaw18_WireReads.j0] at H
          replace H := Option.bind_eq_some_iff.mp H
          obtain ⟨⟨t569, t570, t571, t574⟩, A400, H⟩ := H
          replace H : (if t574 = 0 then ((wire_Answer_Encode.f kj6 t569 t570 t571).bind fun t576 => (some (t576.toList == a0.toList))) else (if t574 = 2 then ((wire_Answer_Same.f kj6 t569 t570 t571 0 0 ([] : List ByteArray)).bind fun t577 => (some t577)) else (some false))) = some r := H
          have A40 := Aside0.mk A400
          clear A400
          by_cases c41 : t574 = 0
          · rw [if_pos c41] at H
            have c41b0 : (t574 == 0) = true := beq_iff_eq.mpr c41
            have c41b1 : (t574 != 0) = false := bne_eq_false_iff_eq.mpr c41
            clear c41
            replace H := Option.bind_eq_some_iff.mp H
            obtain ⟨t576, A420, H⟩ := H
            replace H : (some (t576.toList == a0.toList)) = some r := H
            have A42 := Aside0.mk A420
            clear A420
            obtain rfl := Option.some.inj H
            go_wp2_with (first | ((with_reducible refine gate_callee (f := 35) rfl ?_); refine goesL_ (some 59) rfl rfl Try.func35 (by kernel_rfl) rfl #[.string a0] rfl (by (try simp only [List.map_toArray, List.map_cons, List.map_nil]); first | done | rfl | (simp only [List.length_drop, List.length_take]; rfl)) ?_; (with_reducible refine (wire_ReadAnswer.calls kj6 a0 t569 t570 t571 t574 _ A40.out).mono ?_); rintro e w43 ⟨v572, rfl, ho0, hb⟩; refine ⟨_, rfl, ?_⟩; have n0_ := Aside0.mk (Kd.R_lower ho0 (below_size (by repeat (first | (with_reducible first | exact HB.out | apply below_alloc | apply pw_below_drewN | apply below_drew1 | refine below_set ?_ GE565.out) | exact HB.out)))); have n1_ := Aside0.mk (blk_below (g := gb565) (o := .cells #[.int .i64 t557, .string t558, .string t559, .string t560, .string t561, .int .i64 t562, .int .i64 t563] 30 (0, 0)) (by (with_reducible repeat (first | refine blk_drewN ?_ _ | refine blk_drew ?_ | refine blk_alloc ?_ _)); exact BK565.out) hb); have n2_ := Aside0.mk (below_step (by repeat (first | (with_reducible first | exact HB.out | apply below_alloc | apply pw_below_drewN | apply below_drew1 | refine below_set ?_ GE565.out) | exact HB.out)) hb); clear BK565; clear HB; have HO573 := n0_; have BK565 := n1_; have HB := n2_; clear n0_ n1_ n2_; (try clear hb); (try clear hb2); (try clear hk); (try clear hi); (try clear ho0)) | ((with_reducible refine gate_dst (N := 7) rfl ?_); (try (refine gate_guard (by rfl) ?_; dsimp only)); refine box_event ?hg (N := 7) ?hd (cs := #[.int .i64 0, .int .i64 0, .slice none 0 0]) (t := 59) ?hr ?_; (case hd => rfl); (case hg => rfl); (case hr => first | (go_simp; done) | (go_simp; rfl)); intro gb575 hg w44 hbox hb; have n0_ := Aside0.mk (Kd.R_below (by (with_reducible repeat (first | apply Kd.R_alloc | apply Kd.R_drewN | apply Kd.R_drew)); exact HO573.out) hb); have n1_ := Aside0.mk (blk_below (g := gb565) (o := .cells #[.int .i64 t557, .string t558, .string t559, .string t560, .string t561, .int .i64 t562, .int .i64 t563] 30 (0, 0)) (by (with_reducible repeat (first | refine blk_drewN ?_ _ | refine blk_drew ?_ | refine blk_alloc ?_ _)); exact BK565.out) hb); have n2_ := Aside0.mk (below_step (by repeat (first | (with_reducible first | exact HB.out | apply below_alloc | apply pw_below_drewN | apply below_drew1 | refine below_set ?_ GE565.out) | exact HB.out)) hb); have n3_ := Aside0.mk (hbox); have n4_ := Aside0.mk ((by rw [hg]; exact (below_size (by repeat (first | (with_reducible first | exact HB.out | apply below_alloc | apply pw_below_drewN | apply below_drew1 | refine below_set ?_ GE565.out) | exact HB.out))) : w.heap.size ≤ gb575)); have n5_ := Aside0.mk ((by rw [hg]; exact (below_size (by repeat (first | (with_reducible first | exact HB.out | apply below_alloc | apply pw_below_drewN | apply below_drew1 | refine below_set ?_ GE565.out) | exact HB.out))) : w.heap.size ≤ gb575)); have n6_ := Aside0.mk ((by rw [hg]; exact Nat.ne_of_lt (blk_lt (g := gb565) (o := .cells #[.int .i64 t557, .string t558, .string t559, .string t560, .string t561, .int .i64 t562, .int .i64 t563] 30 (0, 0)) (by (with_reducible repeat (first | refine blk_drewN ?_ _ | refine blk_drew ?_ | refine blk_alloc ?_ _)); exact BK565.out)) : gb565 ≠ gb575)); have n7_ := Aside0.mk ((by rw [hg]; exact Nat.ne_of_gt (blk_lt (g := gb565) (o := .cells #[.int .i64 t557, .string t558, .string t559, .string t560, .string t561, .int .i64 t562, .int .i64 t563] 30 (0, 0)) (by (with_reducible repeat (first | refine blk_drewN ?_ _ | refine blk_drew ?_ | refine blk_alloc ?_ _)); exact BK565.out)) : gb575 ≠ gb565)); clear HO573; clear BK565; clear HB; have HO573 := n0_; have BK565 := n1_; have HB := n2_; have BK575 := n3_; have GW575 := n4_; have GE575 := n5_; have NB565_575 := n6_; have NB575_565 := n7_; clear n0_ n1_ n2_ n3_ n4_ n5_ n6_ n7_; clear hb hbox hg; have hnb45 := NB575_565.out; have hnc45 := NB565_575.out; have hcz46_0 : w44.cell? ⟨gb575, 0, none⟩ = some (.int .i64 0) := (blk_cell BK575.out 0).trans rfl; have hcz46_1 : w44.cell? ⟨gb575, 1, none⟩ = some (.int .i64 0) := (blk_cell BK575.out 1).trans rfl; have hcz46_2 : w44.cell? ⟨gb575, 2, none⟩ = some (.slice none 0 0) := (blk_cell BK575.out 2).trans rfl; have hfz46_0 := blk_frozen BK575.out 0; have hfz46_1 := blk_frozen BK575.out 1; have hfz46_2 := blk_frozen BK575.out 2; obtain ⟨Ao47, co47, eo47⟩ := Kd.R_slice HO573.out; subst eo47) | ((with_reducible refine gate_callee (f := 36) rfl ?_); refine goesL_ (some 72) rfl rfl Try.func36 (by kernel_rfl) rfl #[.agg #[.int .i64 t569, .int .i64 t570, .slice Ao47 t571.length co47]] rfl (by (try simp only [List.map_toArray, List.map_cons, List.map_nil]); first | done | rfl | (simp only [List.length_drop, List.length_take]; rfl)) ?_; (with_reducible refine (wire_Answer_Encode.calls kj6 t569 t570 _ _ t571 t576 _ ?side1 ?side2 A42.out).mono ?_); (case side1 => refine (Kd.R_reads' (e := 9) (base := w.heap.size) (ok := fun k_ => True) (n := t571.length) (c := co47) ?_).2.2; exact (by (with_reducible repeat (first | apply Kd.R_alloc | apply Kd.R_drewN | apply Kd.R_drew)); exact (Kd.R_mono (Kd.R_far (p := ⟨gb575, 2, none⟩) (Kd.R_far (p := ⟨gb575, 1, none⟩) (Kd.R_far (p := ⟨gb575, 0, none⟩) (Kd.R_types HO573.out BK575.out (by decide)) (fun _ hk => hk.2) (.int .i64 t569)) (fun _ hk => hk.2) (.int .i64 t570)) (fun _ hk => hk.2) (.slice Ao47 t571.length co47)) (fun _ h_ => h_.1)))); (case side2 => exact (Kd.R_reads' HO573.out).2.1); rintro e w48 ⟨rfl, hb⟩; refine ⟨_, rfl, ?_⟩; have n0_ := Aside0.mk (Kd.R_below (by (with_reducible repeat (first | apply Kd.R_alloc | apply Kd.R_drewN | apply Kd.R_drew)); exact (Kd.R_mono (Kd.R_far (p := ⟨gb575, 2, none⟩) (Kd.R_far (p := ⟨gb575, 1, none⟩) (Kd.R_far (p := ⟨gb575, 0, none⟩) (Kd.R_types HO573.out BK575.out (by decide)) (fun _ hk => hk.2) (.int .i64 t569)) (fun _ hk => hk.2) (.int .i64 t570)) (fun _ hk => hk.2) (.slice Ao47 t571.length co47)) (fun _ h_ => h_.1))) hb); have n1_ := Aside0.mk (blk_below (g := gb565) (o := .cells #[.int .i64 t557, .string t558, .string t559, .string t560, .string t561, .int .i64 t562, .int .i64 t563] 30 (0, 0)) (by (with_reducible repeat (first | refine blk_drewN ?_ _ | refine blk_drew ?_ | refine blk_alloc ?_ _)); refine blk_far ?_ NB565_575.out _; (with_reducible repeat (first | refine blk_drewN ?_ _ | refine blk_drew ?_ | refine blk_alloc ?_ _)); refine blk_far ?_ NB565_575.out _; (with_reducible repeat (first | refine blk_drewN ?_ _ | refine blk_drew ?_ | refine blk_alloc ?_ _)); refine blk_far ?_ NB565_575.out _; (with_reducible repeat (first | refine blk_drewN ?_ _ | refine blk_drew ?_ | refine blk_alloc ?_ _)); exact BK565.out) hb); have n2_ := Aside0.mk (blk_below (g := gb575) (o := .cells #[.int .i64 t569, .int .i64 t570, .slice Ao47 t571.length co47] 59 (0, 0)) (by (with_reducible repeat (first | refine blk_drewN ?_ _ | refine blk_drew ?_ | refine blk_alloc ?_ _)); refine blk_put (cs := #[.int .i64 t569, .int .i64 t570, .slice none 0 0]) ?_ 2 _ rfl; (with_reducible repeat (first | refine blk_drewN ?_ _ | refine blk_drew ?_ | refine blk_alloc ?_ _)); refine blk_put (cs := #[.int .i64 t569, .int .i64 0, .slice none 0 0]) ?_ 1 _ rfl; (with_reducible repeat (first | refine blk_drewN ?_ _ | refine blk_drew ?_ | refine blk_alloc ?_ _)); refine blk_put (cs := #[.int .i64 0, .int .i64 0, .slice none 0 0]) ?_ 0 _ rfl; (with_reducible repeat (first | refine blk_drewN ?_ _ | refine blk_drew ?_ | refine blk_alloc ?_ _)); exact BK575.out) hb); have n3_ := Aside0.mk (below_step (by repeat (first | (with_reducible first | exact HB.out | apply below_alloc | apply pw_below_drewN | apply below_drew1 | refine below_set ?_ GE565.out | refine below_set ?_ GE575.out) | exact HB.out)) hb); clear HO573; clear BK565; clear BK575; clear HB; have HO573 := n0_; have BK565 := n1_; have BK575 := n2_; have HB := n3_; clear n0_ n1_ n2_ n3_; (try clear hb); (try clear hb2); (try clear hk); (try clear hi)))
            go_ret
            exact ⟨by first | rfl | (simp [errW_none, errW_some] <;> rfl) | (simp [*, errW_none, errW_some] <;> rfl), by repeat (first | (with_reducible first | exact HB.out | apply below_alloc | apply pw_below_drewN | apply below_drew1 | refine below_set ?_ GE565.out | refine below_set ?_ GE575.out) | exact HB.out)⟩
          · rw [if_neg c41] at H
            have c41b0 : (t574 == 0) = false := beq_eq_false_iff_ne.mpr c41
            have c41b1 : (t574 != 0) = true := bne_iff_ne.mpr c41
            by_cases c49 : t574 = 2
            · rw [if_pos c49] at H
              have c49b0 : (t574 == 2) = true := beq_iff_eq.mpr c49
              have c49b1 : (t574 != 2) = false := bne_eq_false_iff_eq.mpr c49
              clear c49
              replace H := Option.bind_eq_some_iff.mp H
              obtain ⟨t577, A500, H⟩ := H
              replace H : (some t577) = some r := H
              have A50 := Aside0.mk A500
              clear A500
              obtain rfl := Option.some.inj H
              go_wp2_with (first | ((with_reducible refine gate_callee (f := 35) rfl ?_); refine goesL_ (some 59) rfl rfl Try.func35 (by kernel_rfl) rfl #[.string a0] rfl (by (try simp only [List.map_toArray, List.map_cons, List.map_nil]); first | done | rfl | (simp only [List.length_drop, List.length_take]; rfl)) ?_; (with_reducible refine (wire_ReadAnswer.calls kj6 a0 t569 t570 t571 t574 _ A40.out).mono ?_); rintro e w51 ⟨v572, rfl, ho0, hb⟩; refine ⟨_, rfl, ?_⟩; have n0_ := Aside0.mk (Kd.R_lower ho0 (below_size (by repeat (first | (with_reducible first | exact HB.out | apply below_alloc | apply pw_below_drewN | apply below_drew1 | refine below_set ?_ GE565.out) | exact HB.out)))); have n1_ := Aside0.mk (blk_below (g := gb565) (o := .cells #[.int .i64 t557, .string t558, .string t559, .string t560, .string t561, .int .i64 t562, .int .i64 t563] 30 (0, 0)) (by (with_reducible repeat (first | refine blk_drewN ?_ _ | refine blk_drew ?_ | refine blk_alloc ?_ _)); exact BK565.out) hb); have n2_ := Aside0.mk (below_step (by repeat (first | (with_reducible first | exact HB.out | apply below_alloc | apply pw_below_drewN | apply below_drew1 | refine below_set ?_ GE565.out) | exact HB.out)) hb); clear BK565; clear HB; have HO573 := n0_; have BK565 := n1_; have HB := n2_; clear n0_ n1_ n2_; (try clear hb); (try clear hb2); (try clear hk); (try clear hi); (try clear ho0)) | ((with_reducible refine gate_dst (N := 7) rfl ?_); (try (refine gate_guard (by rfl) ?_; dsimp only)); refine box_event ?hg (N := 7) ?hd (cs := #[.int .i64 0, .int .i64 0, .slice none 0 0]) (t := 59) ?hr ?_; (case hd => rfl); (case hg => rfl); (case hr => first | (go_simp; done) | (go_simp; rfl)); intro gb575 hg w52 hbox hb; have n0_ := Aside0.mk (Kd.R_below (by (with_reducible repeat (first | apply Kd.R_alloc | apply Kd.R_drewN | apply Kd.R_drew)); exact HO573.out) hb); have n1_ := Aside0.mk (blk_below (g := gb565) (o := .cells #[.int .i64 t557, .string t558, .string t559, .string t560, .string t561, .int .i64 t562, .int .i64 t563] 30 (0, 0)) (by (with_reducible repeat (first | refine blk_drewN ?_ _ | refine blk_drew ?_ | refine blk_alloc ?_ _)); exact BK565.out) hb); have n2_ := Aside0.mk (below_step (by repeat (first | (with_reducible first | exact HB.out | apply below_alloc | apply pw_below_drewN | apply below_drew1 | refine below_set ?_ GE565.out) | exact HB.out)) hb); have n3_ := Aside0.mk (hbox); have n4_ := Aside0.mk ((by rw [hg]; exact (below_size (by repeat (first | (with_reducible first | exact HB.out | apply below_alloc | apply pw_below_drewN | apply below_drew1 | refine below_set ?_ GE565.out) | exact HB.out))) : w.heap.size ≤ gb575)); have n5_ := Aside0.mk ((by rw [hg]; exact (below_size (by repeat (first | (with_reducible first | exact HB.out | apply below_alloc | apply pw_below_drewN | apply below_drew1 | refine below_set ?_ GE565.out) | exact HB.out))) : w.heap.size ≤ gb575)); have n6_ := Aside0.mk ((by rw [hg]; exact Nat.ne_of_lt (blk_lt (g := gb565) (o := .cells #[.int .i64 t557, .string t558, .string t559, .string t560, .string t561, .int .i64 t562, .int .i64 t563] 30 (0, 0)) (by (with_reducible repeat (first | refine blk_drewN ?_ _ | refine blk_drew ?_ | refine blk_alloc ?_ _)); exact BK565.out)) : gb565 ≠ gb575)); have n7_ := Aside0.mk ((by rw [hg]; exact Nat.ne_of_gt (blk_lt (g := gb565) (o := .cells #[.int .i64 t557, .string t558, .string t559, .string t560, .string t561, .int .i64 t562, .int .i64 t563] 30 (0, 0)) (by (with_reducible repeat (first | refine blk_drewN ?_ _ | refine blk_drew ?_ | refine blk_alloc ?_ _)); exact BK565.out)) : gb575 ≠ gb565)); clear HO573; clear BK565; clear HB; have HO573 := n0_; have BK565 := n1_; have HB := n2_; have BK575 := n3_; have GW575 := n4_; have GE575 := n5_; have NB565_575 := n6_; have NB575_565 := n7_; clear n0_ n1_ n2_ n3_ n4_ n5_ n6_ n7_; clear hb hbox hg; have hnb53 := NB575_565.out; have hnc53 := NB565_575.out; have hcz54_0 : w52.cell? ⟨gb575, 0, none⟩ = some (.int .i64 0) := (blk_cell BK575.out 0).trans rfl; have hcz54_1 : w52.cell? ⟨gb575, 1, none⟩ = some (.int .i64 0) := (blk_cell BK575.out 1).trans rfl; have hcz54_2 : w52.cell? ⟨gb575, 2, none⟩ = some (.slice none 0 0) := (blk_cell BK575.out 2).trans rfl; have hfz54_0 := blk_frozen BK575.out 0; have hfz54_1 := blk_frozen BK575.out 1; have hfz54_2 := blk_frozen BK575.out 2; obtain ⟨Ao55, co55, eo55⟩ := Kd.R_slice HO573.out; subst eo55) | (go_at_call 38; (refine (wire_Answer_Same.calls kj6 t569 t570 _ _ t571 0 0 _ _ ([] : List ByteArray) t577 _ ?side1 ?side2 ?side3 ?side4 A50.out).mono ?_); (case side1 => refine (Kd.R_reads' (e := 9) (base := w.heap.size) (ok := fun k_ => True) (n := t571.length) (c := co55) ?_).2.2; exact (by (with_reducible repeat (first | apply Kd.R_alloc | apply Kd.R_drewN | apply Kd.R_drew)); exact (Kd.R_mono (Kd.R_far (p := ⟨gb575, 2, none⟩) (Kd.R_far (p := ⟨gb575, 1, none⟩) (Kd.R_far (p := ⟨gb575, 0, none⟩) (Kd.R_types HO573.out BK575.out (by decide)) (fun _ hk => hk.2) (.int .i64 t569)) (fun _ hk => hk.2) (.int .i64 t570)) (fun _ hk => hk.2) (.slice Ao55 t571.length co55)) (fun _ h_ => h_.1)))); (case side2 => exact (Kd.R_reads' HO573.out).2.1); (case side3 => exact Kd.C_nil _ _); (case side4 => exact Nat.le_refl _); rintro e w56 ⟨rfl, hb⟩; have n0_ := Aside0.mk (Kd.R_below (by (with_reducible repeat (first | apply Kd.R_alloc | apply Kd.R_drewN | apply Kd.R_drew)); exact (Kd.R_mono (Kd.R_far (p := ⟨gb575, 2, none⟩) (Kd.R_far (p := ⟨gb575, 1, none⟩) (Kd.R_far (p := ⟨gb575, 0, none⟩) (Kd.R_types HO573.out BK575.out (by decide)) (fun _ hk => hk.2) (.int .i64 t569)) (fun _ hk => hk.2) (.int .i64 t570)) (fun _ hk => hk.2) (.slice Ao55 t571.length co55)) (fun _ h_ => h_.1))) hb); have n1_ := Aside0.mk (blk_below (g := gb565) (o := .cells #[.int .i64 t557, .string t558, .string t559, .string t560, .string t561, .int .i64 t562, .int .i64 t563] 30 (0, 0)) (by (with_reducible repeat (first | refine blk_drewN ?_ _ | refine blk_drew ?_ | refine blk_alloc ?_ _)); refine blk_far ?_ NB565_575.out _; (with_reducible repeat (first | refine blk_drewN ?_ _ | refine blk_drew ?_ | refine blk_alloc ?_ _)); refine blk_far ?_ NB565_575.out _; (with_reducible repeat (first | refine blk_drewN ?_ _ | refine blk_drew ?_ | refine blk_alloc ?_ _)); refine blk_far ?_ NB565_575.out _; (with_reducible repeat (first | refine blk_drewN ?_ _ | refine blk_drew ?_ | refine blk_alloc ?_ _)); exact BK565.out) hb); have n2_ := Aside0.mk (blk_below (g := gb575) (o := .cells #[.int .i64 t569, .int .i64 t570, .slice Ao55 t571.length co55] 59 (0, 0)) (by (with_reducible repeat (first | refine blk_drewN ?_ _ | refine blk_drew ?_ | refine blk_alloc ?_ _)); refine blk_put (cs := #[.int .i64 t569, .int .i64 t570, .slice none 0 0]) ?_ 2 _ rfl; (with_reducible repeat (first | refine blk_drewN ?_ _ | refine blk_drew ?_ | refine blk_alloc ?_ _)); refine blk_put (cs := #[.int .i64 t569, .int .i64 0, .slice none 0 0]) ?_ 1 _ rfl; (with_reducible repeat (first | refine blk_drewN ?_ _ | refine blk_drew ?_ | refine blk_alloc ?_ _)); refine blk_put (cs := #[.int .i64 0, .int .i64 0, .slice none 0 0]) ?_ 0 _ rfl; (with_reducible repeat (first | refine blk_drewN ?_ _ | refine blk_drew ?_ | refine blk_alloc ?_ _)); exact BK575.out) hb); have n3_ := Aside0.mk (below_step (by repeat (first | (with_reducible first | exact HB.out | apply below_alloc | apply pw_below_drewN | apply below_drew1 | refine below_set ?_ GE565.out | refine below_set ?_ GE575.out) | exact HB.out)) hb); clear HO573; clear BK565; clear BK575; clear HB; have HO573 := n0_; have BK565 := n1_; have BK575 := n2_; have HB := n3_; clear n0_ n1_ n2_ n3_; (try clear hb); (try clear hb2); (try clear hk); (try clear hi)))
              go_ret
              exact ⟨by first | rfl | (simp [errW_none, errW_some] <;> rfl) | (simp [*, errW_none, errW_some] <;> rfl), by repeat (first | (with_reducible first | exact HB.out | apply below_alloc | apply pw_below_drewN | apply below_drew1 | refine below_set ?_ GE565.out | refine below_set ?_ GE575.out) | exact HB.out)⟩
            · rw [if_neg c49] at H
              have c49b0 : (t574 == 2) = false := beq_eq_false_iff_ne.mpr c49
              have c49b1 : (t574 != 2) = true := bne_iff_ne.mpr c49
              obtain rfl := Option.some.inj H
              go_wp2_with (first | ((with_reducible refine gate_callee (f := 35) rfl ?_); refine goesL_ (some 59) rfl rfl Try.func35 (by kernel_rfl) rfl #[.string a0] rfl (by (try simp only [List.map_toArray, List.map_cons, List.map_nil]); first | done | rfl | (simp only [List.length_drop, List.length_take]; rfl)) ?_; (with_reducible refine (wire_ReadAnswer.calls kj6 a0 t569 t570 t571 t574 _ A40.out).mono ?_); rintro e w57 ⟨v572, rfl, ho0, hb⟩; refine ⟨_, rfl, ?_⟩; have n0_ := Aside0.mk (Kd.R_lower ho0 (below_size (by repeat (first | (with_reducible first | exact HB.out | apply below_alloc | apply pw_below_drewN | apply below_drew1 | refine below_set ?_ GE565.out) | exact HB.out)))); have n1_ := Aside0.mk (blk_below (g := gb565) (o := .cells #[.int .i64 t557, .string t558, .string t559, .string t560, .string t561, .int .i64 t562, .int .i64 t563] 30 (0, 0)) (by (with_reducible repeat (first | refine blk_drewN ?_ _ | refine blk_drew ?_ | refine blk_alloc ?_ _)); exact BK565.out) hb); have n2_ := Aside0.mk (below_step (by repeat (first | (with_reducible first | exact HB.out | apply below_alloc | apply pw_below_drewN | apply below_drew1 | refine below_set ?_ GE565.out) | exact HB.out)) hb); clear BK565; clear HB; have HO573 := n0_; have BK565 := n1_; have HB := n2_; clear n0_ n1_ n2_; (try clear hb); (try clear hb2); (try clear hk); (try clear hi); (try clear ho0)) | ((with_reducible refine gate_dst (N := 7) rfl ?_); (try (refine gate_guard (by rfl) ?_; dsimp only)); refine box_event ?hg (N := 7) ?hd (cs := #[.int .i64 0, .int .i64 0, .slice none 0 0]) (t := 59) ?hr ?_; (case hd => rfl); (case hg => rfl); (case hr => first | (go_simp; done) | (go_simp; rfl)); intro gb575 hg w58 hbox hb; have n0_ := Aside0.mk (Kd.R_below (by (with_reducible repeat (first | apply Kd.R_alloc | apply Kd.R_drewN | apply Kd.R_drew)); exact HO573.out) hb); have n1_ := Aside0.mk (blk_below (g := gb565) (o := .cells #[.int .i64 t557, .string t558, .string t559, .string t560, .string t561, .int .i64 t562, .int .i64 t563] 30 (0, 0)) (by (with_reducible repeat (first | refine blk_drewN ?_ _ | refine blk_drew ?_ | refine blk_alloc ?_ _)); exact BK565.out) hb); have n2_ := Aside0.mk (below_step (by repeat (first | (with_reducible first | exact HB.out | apply below_alloc | apply pw_below_drewN | apply below_drew1 | refine below_set ?_ GE565.out) | exact HB.out)) hb); have n3_ := Aside0.mk (hbox); have n4_ := Aside0.mk ((by rw [hg]; exact (below_size (by repeat (first | (with_reducible first | exact HB.out | apply below_alloc | apply pw_below_drewN | apply below_drew1 | refine below_set ?_ GE565.out) | exact HB.out))) : w.heap.size ≤ gb575)); have n5_ := Aside0.mk ((by rw [hg]; exact (below_size (by repeat (first | (with_reducible first | exact HB.out | apply below_alloc | apply pw_below_drewN | apply below_drew1 | refine below_set ?_ GE565.out) | exact HB.out))) : w.heap.size ≤ gb575)); have n6_ := Aside0.mk ((by rw [hg]; exact Nat.ne_of_lt (blk_lt (g := gb565) (o := .cells #[.int .i64 t557, .string t558, .string t559, .string t560, .string t561, .int .i64 t562, .int .i64 t563] 30 (0, 0)) (by (with_reducible repeat (first | refine blk_drewN ?_ _ | refine blk_drew ?_ | refine blk_alloc ?_ _)); exact BK565.out)) : gb565 ≠ gb575)); have n7_ := Aside0.mk ((by rw [hg]; exact Nat.ne_of_gt (blk_lt (g := gb565) (o := .cells #[.int .i64 t557, .string t558, .string t559, .string t560, .string t561, .int .i64 t562, .int .i64 t563] 30 (0, 0)) (by (with_reducible repeat (first | refine blk_drewN ?_ _ | refine blk_drew ?_ | refine blk_alloc ?_ _)); exact BK565.out)) : gb575 ≠ gb565)); clear HO573; clear BK565; clear HB; have HO573 := n0_; have BK565 := n1_; have HB := n2_; have BK575 := n3_; have GW575 := n4_; have GE575 := n5_; have NB565_575 := n6_; have NB575_565 := n7_; clear n0_ n1_ n2_ n3_ n4_ n5_ n6_ n7_; clear hb hbox hg; have hnb59 := NB575_565.out; have hnc59 := NB565_575.out; have hcz60_0 : w58.cell? ⟨gb575, 0, none⟩ = some (.int .i64 0) := (blk_cell BK575.out 0).trans rfl; have hcz60_1 : w58.cell? ⟨gb575, 1, none⟩ = some (.int .i64 0) := (blk_cell BK575.out 1).trans rfl; have hcz60_2 : w58.cell? ⟨gb575, 2, none⟩ = some (.slice none 0 0) := (blk_cell BK575.out 2).trans rfl; have hfz60_0 := blk_frozen BK575.out 0; have hfz60_1 := blk_frozen BK575.out 1; have hfz60_2 := blk_frozen BK575.out 2; obtain ⟨Ao61, co61, eo61⟩ := Kd.R_slice HO573.out; subst eo61))
              go_ret
              exact ⟨by first | rfl | (simp [errW_none, errW_some] <;> rfl) | (simp [*, errW_none, errW_some] <;> rfl), by repeat (first | (with_reducible first | exact HB.out | apply below_alloc | apply pw_below_drewN | apply below_drew1 | refine below_set ?_ GE565.out | refine below_set ?_ GE575.out) | exact HB.out)⟩
  · replace c3 := Bool.eq_false_iff.mpr c3
    subst c3
    have H1 : (some false) = some r := by rw [if_neg (show ¬ (false = true) by decide)] at H; exact H
    clear H
    have H := H1
    clear H1
    obtain rfl := Option.some.inj H
    go_enter Try.func15, Try.ntmps15
    go_wp2_with (first | ((with_reducible refine gate_callee (f := 18) rfl ?_); refine goesL_ (some 9) rfl rfl Try.func18 (by kernel_rfl) rfl #[] rfl (by (try simp only [List.map_toArray, List.map_cons, List.map_nil]); first | done | rfl | (simp only [List.length_drop, List.length_take]; rfl)) ?_; (with_reducible refine (mailbaglaw18_head.calls k  false _ A2.out).mono ?_); rintro e w62 ⟨rfl, hb⟩; refine ⟨_, rfl, ?_⟩; have n0_ := Aside0.mk (below_step (by repeat (first | (with_reducible first | exact HB.out | apply below_alloc | apply pw_below_drewN | apply below_drew1) | exact HB.out)) hb); clear HB; have HB := n0_; clear n0_; (try clear hb); (try clear hb2); (try clear hk); (try clear hi)))
    go_ret
    exact ⟨by first | rfl | (simp [errW_none, errW_some] <;> rfl) | (simp [*, errW_none, errW_some] <;> rfl), by repeat (first | (with_reducible first | exact HB.out | apply below_alloc | apply pw_below_drewN | apply below_drew1) | exact HB.out)⟩

/-- THE ONE PURE STATEMENT of mailbaglaw18_WireReads: yours. -/
def mailbaglaw18_WireReads.Pure : Prop := ∀ (a0 : ByteArray), a0.size ≤ 140737488351232 → ∃ k, mailbaglaw18_WireReads.f k a0 = some true
theorem mailbaglaw18_WireReads.walk (P : mailbaglaw18_WireReads.Pure) (a0 : ByteArray) (w : World) (w0 : a0.size ≤ 140737488351232) :
    Calls Try.prog 15 #[.string a0] w fun e w' => e = .returned (.bool true) ∧ Below w.heap.size w w' := by
  obtain ⟨k, h⟩ := P a0 w0
  refine (mailbaglaw18_WireReads.calls k a0 true w h).mono ?_
  rintro e w' ⟨rfl, hd⟩
  exact ⟨rfl, hd⟩

end Go.Proofs.Ythpgpljpadlegaa.Q
