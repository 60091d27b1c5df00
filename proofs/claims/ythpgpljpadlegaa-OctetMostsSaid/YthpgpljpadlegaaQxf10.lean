/- By a program of this session, out of the translation as Lean prints it: what the Go code computes, and that it does. -/
import Derived.Test.YthpgpljpadlegaaQx0
import Derived.Test.YthpgpljpadlegaaQxf17
import Derived.Test.YthpgpljpadlegaaQxf16
import Derived.Test.YthpgpljpadlegaaQxf20
import Derived.Test.YthpgpljpadlegaaQxf22
import Derived.Test.YthpgpljpadlegaaQxf23
import Derived.Test.YthpgpljpadlegaaQxf24
import Derived.Test.YthpgpljpadlegaaQxf25
import Derived.Test.YthpgpljpadlegaaQxf26
import Derived.Test.YthpgpljpadlegaaQxf27
import Derived.Test.YthpgpljpadlegaaQxf30
import Derived.Test.YthpgpljpadlegaaQxf31
namespace Go.Proofs.Ythpgpljpadlegaa.Q
open Go.RowKit Go.Proofs.YthpgpljpadlegaaW.PrintWords Go.Proofs.YthpgpljpadlegaaW.PrintLast Go.Proofs.YthpgpljpadlegaaW.PrintMore
attribute [local go_sem] max2_int min2_int max_two min_two max_three min_three max_four min_four Aid.leq_str Aid.gtr_str Aid.geq_str   -- for this text's walks alone
set_option linter.unusedVariables false
set_option linter.unusedSimpArgs false

/-! ### mailbaglaw01_OctetMosts: function 10 -/
mutual
def mailbaglaw01_OctetMosts.j0 : Nat → Int → Int → ByteArray → Bool → List Int → Int → Option (Bool)
  | 0, _, _, _, _, _, _ => none
  | k + 1, x0, x1, x2, x3, x9, x10 => (octet_Flag.f x9 true).bind fun t316 => ((octet_Read.f (strOfNums t316)).bind fun bt319 => (if x3 = true then ((octet_Reader_Text.f k bt319.1 bt319.2 x1).bind fun bt322 => (if x10 ≤ (mx x1 0) then (if bt322.1.toList = x2.toList then (mailbaglaw01_OctetMosts.j1 k (decide (x10 ≤ (mx x1 0))) bt322.2.1 bt322.2.2) else (some false)) else (if bt322.1.toList = ([] : List UInt8) then (mailbaglaw01_OctetMosts.j1 k (decide (x10 ≤ (mx x1 0))) bt322.2.1 bt322.2.2) else (some false)))) else ((octet_Reader_Num.f k bt319.1 bt319.2 x1).bind fun bt325 => (if x10 ≤ (mx x1 0) then (if bt325.1 = x0 then (mailbaglaw01_OctetMosts.j1 k (decide (x10 ≤ (mx x1 0))) bt325.2.1 bt325.2.2) else (some false)) else (if bt325.1 = 0 then (mailbaglaw01_OctetMosts.j1 k (decide (x10 ≤ (mx x1 0))) bt325.2.1 bt325.2.2) else (some false))))))
def mailbaglaw01_OctetMosts.j1 : Nat → Bool → ByteArray → Bool → Option (Bool)
  | 0, _, _, _ => none
  | k + 1, x12, x322000, x322001 => if x12 = true then ((octet_Reader_Err.f x322000 x322001).bind fun bt346 => (if bt346.1 = 0 then ((octet_Reader_End.f bt346.2.1 bt346.2.2).bind fun bt349 => (if bt349.1 = 2 then ((octet_Reader_Left.f bt349.2.1 bt349.2.2).bind fun bt352 => (if bt352.1 = 1 then ((octet_Reader_Flag.f bt352.2.1 bt352.2.2).bind fun bt355 => (if bt355.1 = true then ((octet_Reader_End.f bt355.2.1 bt355.2.2).bind fun bt358 => (some (bt358.1 == 0))) else (some false))) else (some false))) else (some false))) else (some false))) else ((octet_Reader_Err.f x322000 x322001).bind fun bt328 => (if bt328.1 = 2 then ((octet_Reader_End.f bt328.2.1 bt328.2.2).bind fun bt331 => (if bt331.1 = 2 then ((octet_Reader_Left.f bt331.2.1 bt331.2.2).bind fun bt334 => (if bt334.1 = 0 then ((octet_Reader_Flag.f bt334.2.1 bt334.2.2).bind fun bt337 => (if bt337.1 = true then (some false) else ((octet_Reader_Num.f k bt337.2.1 bt337.2.2 9).bind fun bt340 => (if bt340.1 = 0 then ((octet_Reader_Text.f k bt340.2.1 bt340.2.2 9).bind fun bt343 => (some (bt343.1.toList == ([] : List UInt8)))) else (some false))))) else (some false))) else (some false))) else (some false)))
end
def mailbaglaw01_OctetMosts.f (k : Nat) (a0 : Int) (a1 : Int) (a2 : ByteArray) (a3 : Bool) : Option (Bool) := (mailbaglaw01_head.f k).bind fun t309 => (if t309 = true then (if (a2.size : Int) > 200 then (some true) else ((octet_Num.f k ([] : List Int) (Go.bits .and .i64 a0 16777215)).bind fun t310 => (if a3 = true then ((octet_Text.f k ([] : List Int) a2).bind fun t313 => (mailbaglaw01_OctetMosts.j0 k (Go.bits .and .i64 a0 16777215) a1 a2 a3 t313 (a2.size : Int))) else (mailbaglaw01_OctetMosts.j0 k (Go.bits .and .i64 a0 16777215) a1 a2 a3 t310 (Go.bits .and .i64 a0 16777215))))) else (some false))
theorem mailbaglaw01_OctetMosts.mono_l : ∀ k, (∀ y0 y1 y2 y3 y4 y5, LeO (mailbaglaw01_OctetMosts.j0 k y0 y1 y2 y3 y4 y5) (mailbaglaw01_OctetMosts.j0 (k + 1) y0 y1 y2 y3 y4 y5)) ∧ (∀ y0 y1 y2, LeO (mailbaglaw01_OctetMosts.j1 k y0 y1 y2) (mailbaglaw01_OctetMosts.j1 (k + 1) y0 y1 y2))
  | 0 => ⟨fun _ _ _ _ _ _ r h => by simp [mailbaglaw01_OctetMosts.j0] at h, fun _ _ _ r h => by simp [mailbaglaw01_OctetMosts.j1] at h⟩
  | k + 1 => by
    obtain ⟨ih0, ih1⟩ := mailbaglaw01_OctetMosts.mono_l k
    refine ⟨?_, ?_⟩
    · intro y0 y1 y2 y3 y4 y5
      unfold mailbaglaw01_OctetMosts.j0
      repeat' first
      | (with_reducible exact ih0 _ _ _ _ _ _)
      | (with_reducible exact ih1 _ _ _)
      | (with_reducible exact mailbaglaw01_head.mono _)
      | (with_reducible exact octet_Num.mono _ _ _)
      | (with_reducible exact octet_Reader_Num.mono _ _ _ _)
      | (with_reducible exact octet_Reader_Text.mono _ _ _ _)
      | (with_reducible exact octet_Text.mono _ _ _)
      | (with_reducible exact LeO.refl _)
      | (with_reducible exact LeO.none _)
      | (with_reducible refine LeO.ite ?_ ?_)
      | (with_reducible refine LeO.bind ?_ (fun _ => ?_))
      | exact ih0 _ _ _ _ _ _
      | exact ih1 _ _ _
      | exact mailbaglaw01_head.mono _
      | exact octet_Num.mono _ _ _
      | exact octet_Reader_Num.mono _ _ _ _
      | exact octet_Reader_Text.mono _ _ _ _
      | exact octet_Text.mono _ _ _
      | exact LeO.none _
      | refine LeO.ite ?_ ?_
      | refine LeO.bind ?_ (fun _ => ?_)
    · intro y0 y1 y2
      unfold mailbaglaw01_OctetMosts.j1
      repeat' first
      | (with_reducible exact ih0 _ _ _ _ _ _)
      | (with_reducible exact ih1 _ _ _)
      | (with_reducible exact mailbaglaw01_head.mono _)
      | (with_reducible exact octet_Num.mono _ _ _)
      | (with_reducible exact octet_Reader_Num.mono _ _ _ _)
      | (with_reducible exact octet_Reader_Text.mono _ _ _ _)
      | (with_reducible exact octet_Text.mono _ _ _)
      | (with_reducible exact LeO.refl _)
      | (with_reducible exact LeO.none _)
      | (with_reducible refine LeO.ite ?_ ?_)
      | (with_reducible refine LeO.bind ?_ (fun _ => ?_))
      | exact ih0 _ _ _ _ _ _
      | exact ih1 _ _ _
      | exact mailbaglaw01_head.mono _
      | exact octet_Num.mono _ _ _
      | exact octet_Reader_Num.mono _ _ _ _
      | exact octet_Reader_Text.mono _ _ _ _
      | exact octet_Text.mono _ _ _
      | exact LeO.none _
      | refine LeO.ite ?_ ?_
      | refine LeO.bind ?_ (fun _ => ?_)
theorem mailbaglaw01_OctetMosts.mono : ∀ a0 a1 a2 a3 k, LeO (mailbaglaw01_OctetMosts.f k a0 a1 a2 a3) (mailbaglaw01_OctetMosts.f (k + 1) a0 a1 a2 a3) := by
  intro a0 a1 a2 a3 k
  obtain ⟨ih0, ih1⟩ := mailbaglaw01_OctetMosts.mono_l k
  unfold mailbaglaw01_OctetMosts.f
  repeat' first
      | (with_reducible exact ih0 _ _ _ _ _ _)
      | (with_reducible exact ih1 _ _ _)
      | (with_reducible exact mailbaglaw01_head.mono _)
      | (with_reducible exact octet_Num.mono _ _ _)
      | (with_reducible exact octet_Reader_Num.mono _ _ _ _)
      | (with_reducible exact octet_Reader_Text.mono _ _ _ _)
      | (with_reducible exact octet_Text.mono _ _ _)
      | (with_reducible exact LeO.refl _)
      | (with_reducible exact LeO.none _)
      | (with_reducible refine LeO.ite ?_ ?_)
      | (with_reducible refine LeO.bind ?_ (fun _ => ?_))
      | exact ih0 _ _ _ _ _ _
      | exact ih1 _ _ _
      | exact mailbaglaw01_head.mono _
      | exact octet_Num.mono _ _ _
      | exact octet_Reader_Num.mono _ _ _ _
      | exact octet_Reader_Text.mono _ _ _ _
      | exact octet_Text.mono _ _ _
      | exact LeO.none _
      | refine LeO.ite ?_ ?_
      | refine LeO.bind ?_ (fun _ => ?_)
set_option maxHeartbeats 8000000 in
set_option maxRecDepth 100000 in
theorem mailbaglaw01_OctetMosts.calls (k : Nat) (a0 : Int) (a1 : Int) (a2 : ByteArray) (a3 : Bool) (r : Bool) (w : World) (h : mailbaglaw01_OctetMosts.f k a0 a1 a2 a3 = some r) :
    Calls Try.prog 10 #[.int .i64 a0, .int .i64 a1, .string a2, .bool a3] w fun e w' => e = .returned (.bool r) ∧ Below w.heap.size w w' := by
  have HB := Aside0.mk (Below.refl w.heap.size w)
  have H : ((mailbaglaw01_head.f k).bind fun t309 => (if t309 = true then (if (a2.size : Int) > 200 then (some true) else ((octet_Num.f k ([] : List Int) (Go.bits .and .i64 a0 16777215)).bind fun t310 => (if a3 = true then ((octet_Text.f k ([] : List Int) a2).bind fun t313 => (mailbaglaw01_OctetMosts.j0 k (Go.bits .and .i64 a0 16777215) a1 a2 a3 t313 (a2.size : Int))) else (mailbaglaw01_OctetMosts.j0 k (Go.bits .and .i64 a0 16777215) a1 a2 a3 t310 (Go.bits .and .i64 a0 16777215))))) else (some false))) = some r := h
  clear h
  replace H := Option.bind_eq_some_iff.mp H
  obtain ⟨t309, A50, H⟩ := H
  replace H : (if t309 = true then (if (a2.size : Int) > 200 then (some true) else ((octet_Num.f k ([] : List Int) (Go.bits .and .i64 a0 16777215)).bind fun t310 => (if a3 = true then ((octet_Text.f k ([] : List Int) a2).bind fun t313 => (mailbaglaw01_OctetMosts.j0 k (Go.bits .and .i64 a0 16777215) a1 a2 a3 t313 (a2.size : Int))) else (mailbaglaw01_OctetMosts.j0 k (Go.bits .and .i64 a0 16777215) a1 a2 a3 t310 (Go.bits .and .i64 a0 16777215))))) else (some false)) = some r := H
  have A5 := Aside0.mk A50
  clear A50
  by_cases c6 : t309 = true
  · subst c6
    have H1 : (if (a2.size : Int) > 200 then (some true) else ((octet_Num.f k ([] : List Int) (Go.bits .and .i64 a0 16777215)).bind fun t310 => (if a3 = true then ((octet_Text.f k ([] : List Int) a2).bind fun t313 => (mailbaglaw01_OctetMosts.j0 k (Go.bits .and .i64 a0 16777215) a1 a2 a3 t313 (a2.size : Int))) else (mailbaglaw01_OctetMosts.j0 k (Go.bits .and .i64 a0 16777215) a1 a2 a3 t310 (Go.bits .and .i64 a0 16777215))))) = some r := by rw [if_pos rfl] at H; exact H
    clear H
    have H := H1
    clear H1
    by_cases c7 : (a2.size : Int) > 200
    · rw [if_pos c7] at H
      have c7b0 : decide (200 < (a2.size : Int)) = true := decide_eq_true c7
      have c7b1 : decide (200 < a2.size) = true := decide_eq_true (by omega)
      clear c7
      obtain rfl := Option.some.inj H
      go_enter Try.func10, Try.ntmps10
      go_wp2_with (first | ((with_reducible refine gate_callee (f := 16) rfl ?_); refine goesL_ (some 15) rfl rfl Try.func16 (by kernel_rfl) rfl #[] rfl (by (try simp only [List.map_toArray, List.map_cons, List.map_nil]); first | done | rfl | (simp only [List.length_drop, List.length_take]; rfl)) ?_; (with_reducible refine (mailbaglaw01_head.calls k  true _ A5.out).mono ?_); rintro e w8 ⟨rfl, hb⟩; refine ⟨_, rfl, ?_⟩; have n0_ := Aside0.mk (below_step (by repeat (first | (with_reducible first | exact HB.out | apply below_alloc | apply pw_below_drewN | apply below_drew1) | exact HB.out)) hb); clear HB; have HB := n0_; clear n0_; (try clear hb); (try clear hb2); (try clear hk); (try clear hi)))
      go_ret
      exact ⟨by first | rfl | (simp [errW_none, errW_some] <;> rfl) | (simp [*, errW_none, errW_some] <;> rfl), by repeat (first | (with_reducible first | exact HB.out | apply below_alloc | apply pw_below_drewN | apply below_drew1) | exact HB.out)⟩
    · rw [if_neg c7] at H
      have c7b0 : decide (200 < (a2.size : Int)) = false := decide_eq_false c7
      have c7b1 : decide (200 < a2.size) = false := decide_eq_false (by omega)
      clear c7
      replace H := Option.bind_eq_some_iff.mp H
      obtain ⟨t310, A90, H⟩ := H
      replace H : (if a3 = true then ((octet_Text.f k ([] : List Int) a2).bind fun t313 => (mailbaglaw01_OctetMosts.j0 k (Go.bits .and .i64 a0 16777215) a1 a2 a3 t313 (a2.size : Int))) else (mailbaglaw01_OctetMosts.j0 k (Go.bits .and .i64 a0 16777215) a1 a2 a3 t310 (Go.bits .and .i64 a0 16777215))) = some r := H
      have A9 := Aside0.mk A90
      clear A90
      have HC10 := Aside0.mk H
      clear H
      go_enter Try.func10, Try.ntmps10
      go_upto_if 25 with (first | ((with_reducible refine gate_callee (f := 16) rfl ?_); refine goesL_ (some 15) rfl rfl Try.func16 (by kernel_rfl) rfl #[] rfl (by (try simp only [List.map_toArray, List.map_cons, List.map_nil]); first | done | rfl | (simp only [List.length_drop, List.length_take]; rfl)) ?_; (with_reducible refine (mailbaglaw01_head.calls k  true _ A5.out).mono ?_); rintro e w11 ⟨rfl, hb⟩; refine ⟨_, rfl, ?_⟩; have n0_ := Aside0.mk (below_step (by repeat (first | (with_reducible first | exact HB.out | apply below_alloc | apply pw_below_drewN | apply below_drew1) | exact HB.out)) hb); clear HB; have HB := n0_; clear n0_; (try clear hb); (try clear hb2); (try clear hk); (try clear hi)) | ((with_reducible refine gate_callee (f := 17) rfl ?_); refine goesL_ (some 23) rfl rfl Try.func17 (by kernel_rfl) rfl #[.slice none 0 0, .int .i64 (Go.bits .and .i64 a0 16777215)] rfl (by (try simp only [List.map_toArray, List.map_cons, List.map_nil]); first | done | rfl | (simp only [List.length_drop, List.length_take]; rfl)) ?_; (refine (octet_Num.calls k (fun k_ => some k_ = (.slice none 0 0 : Value).ownBlock) (.slice none 0 0) ([] : List Int) (Go.bits .and .i64 a0 16777215) t310 w _ ?side1 ?side2 A9.out).mono ?_); (case side1 => repeat (first | (with_reducible first | exact HB.out | apply below_alloc | apply pw_below_drewN | apply below_drew1) | exact HB.out)); (case side2 => exact Kd.R_nil _ _ _ _ _); rintro e w12 ⟨v311, rfl, ho0, hb, hkp⟩; refine ⟨_, rfl, ?_⟩; have n0_ := Aside0.mk (Kd.R_mono (ok' := fun k_ => True) ho0 (fun k_ hk_ => trivial)); have n1_ := Aside0.mk (hb); clear HB; have HO312 := n0_; have HB := n1_; clear n0_ n1_; (try clear hb); (try clear hkp); (try clear ho0)))
      (try simp only [Act.put, List.setIfInBounds_toArray, List.set_cons_zero, List.set_cons_succ])
      go_cut [9, 10] (fun v9 v10 wc => ∃ (kq : Nat) (x9_9 : List Int) (x10_9 : Int), v10 = .int .i64 x10_9 ∧ Aside0 (mailbaglaw01_OctetMosts.j0 kq (Go.bits .and .i64 a0 16777215) a1 a2 a3 x9_9 x10_9 = some r) ∧ Aside0 (kq ≤ k) ∧ Aside0 (Kd.R (Kd.int .u8) 5 wc w.heap.size (fun _ => True) v9 x9_9) ∧ Aside0 (Below w.heap.size w wc))
      case first =>
        have H := HC10.out
        clear HC10
        by_cases c13 : a3 = true
        · subst c13
          have H1 : ((octet_Text.f k ([] : List Int) a2).bind fun t313 => (mailbaglaw01_OctetMosts.j0 k (Go.bits .and .i64 a0 16777215) a1 a2 true t313 (a2.size : Int))) = some r := by rw [if_pos rfl] at H; exact H
          clear H
          have H := H1
          clear H1
          replace H := Option.bind_eq_some_iff.mp H
          obtain ⟨t313, A140, H⟩ := H
          replace H : (mailbaglaw01_OctetMosts.j0 k (Go.bits .and .i64 a0 16777215) a1 a2 true t313 (a2.size : Int)) = some r := H
          have A14 := Aside0.mk A140
          clear A140
          have H' := Aside0.mk H
          clear H
          go_wp2_with (first | ((with_reducible refine gate_callee (f := 30) rfl ?_); refine goesL_ (some 27) rfl rfl Try.func30 (by kernel_rfl) rfl #[.slice none 0 0, .string a2] rfl (by (try simp only [List.map_toArray, List.map_cons, List.map_nil]); first | done | rfl | (simp only [List.length_drop, List.length_take]; rfl)) ?_; (refine (octet_Text.calls k (fun k_ => some k_ = (.slice none 0 0 : Value).ownBlock) (.slice none 0 0) ([] : List Int) a2 t313 w _ ?side1 ?side2 A14.out).mono ?_); (case side1 => repeat (first | (with_reducible first | exact HB.out | apply below_alloc | apply pw_below_drewN | apply below_drew1) | exact HB.out)); (case side2 => exact Kd.R_nil _ _ _ _ _); rintro e w15 ⟨v314, rfl, ho0, hb, hkp⟩; refine ⟨_, rfl, ?_⟩; have n0_ := Aside0.mk (Kd.R_mono (ok' := fun k_ => some k_ ≠ (v314 : Value).ownBlock) (Kd.R_keptB (HO312.out) hkp (fun k_ hk_ hs_ => (fun e_ => by simp [Value.ownBlock] at e_) hs_)) (fun k_ hk_ => fun e_ => Or.elim (ho0.1 k_ e_.symm) (fun hs_ => hk_.2.1 hs_) (fun hn_ => Nat.not_le.2 hk_.2.2 hn_))); have n1_ := Aside0.mk (Kd.R_mono (ok' := fun k_ => some k_ ≠ (v311 : Value).ownBlock) ho0 (fun k_ hk_ => Or.elim hk_ (fun hs_ => absurd hs_ (by simp [Value.ownBlock])) (fun hn_ => (Kd.fresh' (Kd.R_lt (by (with_reducible repeat (first | apply Kd.R_alloc | apply Kd.R_drewN | apply Kd.R_drew)); exact HO312.out)) k_ hn_)))); have n2_ := Aside0.mk (hb); clear HO312; clear HB; have HO312 := n0_; have HO315 := n1_; have HB := n2_; clear n0_ n1_ n2_; (try clear hb); (try clear hkp); (try clear ho0)))
          (refine Met.intro ?_; go_step; (repeat apply Exists.intro); refine ⟨?rel, ?fr_⟩; (case fr_ => first | rfl | (simp only [show decide (x10_9 ≤ ji18) = true from by assumption]; rfl) | (simp only [show decide (x10_9 ≤ ji18) = false from by assumption]; rfl)))
          case rel => exact ⟨_, (t313), ((a2.size : Int)), (by first | rfl | (simp; done) | (simp [*]; done)), H', ⟨by first | omega | exact Nat.le_refl _⟩, ⟨by (with_reducible repeat (first | apply Kd.R_alloc | apply Kd.R_drewN | apply Kd.R_drew)); exact Kd.R_mono HO315.out (fun _ hk => trivial)⟩, ⟨by repeat (first | (with_reducible first | exact HB.out | apply below_alloc | apply pw_below_drewN | apply below_drew1) | exact HB.out)⟩⟩
        · replace c13 := Bool.eq_false_iff.mpr c13
          subst c13
          have H1 : (mailbaglaw01_OctetMosts.j0 k (Go.bits .and .i64 a0 16777215) a1 a2 false t310 (Go.bits .and .i64 a0 16777215)) = some r := by rw [if_neg (show ¬ (false = true) by decide)] at H; exact H
          clear H
          have H := H1
          clear H1
          have H' := Aside0.mk H
          clear H
          go_wp2
          (refine Met.intro ?_; go_step; (repeat apply Exists.intro); refine ⟨?rel, ?fr_⟩; (case fr_ => first | rfl | (simp only [show decide (x10_9 ≤ ji18) = true from by assumption]; rfl) | (simp only [show decide (x10_9 ≤ ji18) = false from by assumption]; rfl)))
          case rel => exact ⟨_, (t310), (Go.bits .and .i64 a0 16777215), (by first | rfl | (simp; done) | (simp [*]; done)), H', ⟨by first | omega | exact Nat.le_refl _⟩, ⟨by (with_reducible repeat (first | apply Kd.R_alloc | apply Kd.R_drewN | apply Kd.R_drew)); exact HO312.out⟩, ⟨by repeat (first | (with_reducible first | exact HB.out | apply below_alloc | apply pw_below_drewN | apply below_drew1) | exact HB.out)⟩⟩
      case rest =>
        clear HC10
        try clear c1
        try clear p2
        try clear c3
        try clear c6
        try clear c7
        try clear c7b0
        try clear c7b1
        try clear c10
        try clear c13
        obtain ⟨kq, x9_9, x10_9, rfl, HA, HJ9, HO_9, HB⟩ := hcut
        cases kq with
        | zero => exact absurd HA.out (by simp [mailbaglaw01_OctetMosts.j0])
        | succ kj9 =>
          have H := HA.out
          clear HA
          simp only [mailbaglaw01_OctetMosts.j0] at H
          replace H := Option.bind_eq_some_iff.mp H
          obtain ⟨t316, A160, H⟩ := H
          replace H : ((octet_Read.f (strOfNums t316)).bind fun bt319 => (if a3 = true then ((octet_Reader_Text.f kj9 bt319.1 bt319.2 a1).bind fun bt322 => (if x10_9 ≤ (mx a1 0) then (if bt322.1.toList = a2.toList then (mailbaglaw01_OctetMosts.j1 kj9 (decide (x10_9 ≤ (mx a1 0))) bt322.2.1 bt322.2.2) else (some false)) else (if bt322.1.toList = ([] : List UInt8) then (mailbaglaw01_OctetMosts.j1 kj9 (decide (x10_9 ≤ (mx a1 0))) bt322.2.1 bt322.2.2) else (some false)))) else ((octet_Reader_Num.f kj9 bt319.1 bt319.2 a1).bind fun bt325 => (if x10_9 ≤ (mx a1 0) then (if bt325.1 = (Go.bits .and .i64 a0 16777215) then (mailbaglaw01_OctetMosts.j1 kj9 (decide (x10_9 ≤ (mx a1 0))) bt325.2.1 bt325.2.2) else (some false)) else (if bt325.1 = 0 then (mailbaglaw01_OctetMosts.j1 kj9 (decide (x10_9 ≤ (mx a1 0))) bt325.2.1 bt325.2.2) else (some false)))))) = some r := H
          have A16 := Aside0.mk A160
          clear A160
          replace H := Option.bind_eq_some_iff.mp H
          obtain ⟨⟨t319, t320⟩, A170, H⟩ := H
          replace H : (if a3 = true then ((octet_Reader_Text.f kj9 t319 t320 a1).bind fun bt322 => (if x10_9 ≤ (mx a1 0) then (if bt322.1.toList = a2.toList then (mailbaglaw01_OctetMosts.j1 kj9 (decide (x10_9 ≤ (mx a1 0))) bt322.2.1 bt322.2.2) else (some false)) else (if bt322.1.toList = ([] : List UInt8) then (mailbaglaw01_OctetMosts.j1 kj9 (decide (x10_9 ≤ (mx a1 0))) bt322.2.1 bt322.2.2) else (some false)))) else ((octet_Reader_Num.f kj9 t319 t320 a1).bind fun bt325 => (if x10_9 ≤ (mx a1 0) then (if bt325.1 = (Go.bits .and .i64 a0 16777215) then (mailbaglaw01_OctetMosts.j1 kj9 (decide (x10_9 ≤ (mx a1 0))) bt325.2.1 bt325.2.2) else (some false)) else (if bt325.1 = 0 then (mailbaglaw01_OctetMosts.j1 kj9 (decide (x10_9 ≤ (mx a1 0))) bt325.2.1 bt325.2.2) else (some false))))) = some r := H
          have A17 := Aside0.mk A170
          clear A170
          obtain ⟨ji18, hji18⟩ : ∃ j_ : Int, (mx a1 0) = j_ := ⟨_, rfl⟩
          replace H : (if a3 = true then ((octet_Reader_Text.f kj9 t319 t320 a1).bind fun bt322 => (if x10_9 ≤ (ji18) then (if bt322.1.toList = a2.toList then (mailbaglaw01_OctetMosts.j1 kj9 (decide (x10_9 ≤ (ji18))) bt322.2.1 bt322.2.2) else (some false)) else (if bt322.1.toList = ([] : List UInt8) then (mailbaglaw01_OctetMosts.j1 kj9 (decide (x10_9 ≤ (ji18))) bt322.2.1 bt322.2.2) else (some false)))) else ((octet_Reader_Num.f kj9 t319 t320 a1).bind fun bt325 => (if x10_9 ≤ (ji18) then (if bt325.1 = (Go.bits .and .i64 a0 16777215) then (mailbaglaw01_OctetMosts.j1 kj9 (decide (x10_9 ≤ (ji18))) bt325.2.1 bt325.2.2) else (some false)) else (if bt325.1 = 0 then (mailbaglaw01_OctetMosts.j1 kj9 (decide (x10_9 ≤ (ji18))) bt325.2.1 bt325.2.2) else (some false))))) = some r := by first | (rw [hji18] at H; exact H) | (simp only [hji18] at H ⊢; exact H)
          (try rw [hji18] at A16)
          (try rw [hji18] at A17)
          (try (have hji18l : 0 ≤ ji18 := by (rw [← hji18]; unfold mx; (repeat' split) <;> omega)))
          (try (have hji18m : 0 ≤ ji18 := by omega))
          have hji18_ : (if a1 < 0 then 0 else a1) = ji18 := hji18
          have HC19 := Aside0.mk H
          clear H
          obtain ⟨Ao20, co20, eo20⟩ := Kd.R_slice HO_9.out
          subst eo20
          go_upto_if 39 with (first | ((with_reducible refine gate_callee (f := 31) rfl ?_); refine goesL_ (some 31) rfl rfl Try.func31 (by kernel_rfl) rfl #[.slice Ao20 x9_9.length co20, .bool true] rfl (by (try simp only [List.map_toArray, List.map_cons, List.map_nil]); first | done | rfl | (simp only [List.length_drop, List.length_take]; rfl)) ?_; (with_reducible refine (octet_Flag.calls (fun k_ => some k_ = (.slice Ao20 x9_9.length co20 : Value).ownBlock) (.slice Ao20 x9_9.length co20) x9_9 true t316 w _ ?side1 ?side2 A16.out).mono ?_); (case side1 => repeat (first | (with_reducible first | exact HB.out | apply below_alloc | apply pw_below_drewN | apply below_drew1) | exact HB.out)); (case side2 => exact Kd.R_tight rfl HO_9.out); rintro e w21 ⟨v317, rfl, ho0, hb, hkp⟩; refine ⟨_, rfl, ?_⟩; have n0_ := Aside0.mk (Kd.R_mono (ok' := fun k_ => True) ho0 (fun k_ hk_ => trivial)); have n1_ := Aside0.mk (hb); clear HB; clear HO_9; have HO318 := n0_; have HB := n1_; clear n0_ n1_; (try clear hb); (try clear hkp); (try clear ho0); have hcv22 := own_string (P := Try.prog) Try.underlying23 Try.underlying5 Try.underlying9 (Kd.own_of_R HO318.out); have hcv23 := fun nd_ : Nat => own_string (P := Try.prog) Try.underlying23 Try.underlying5 Try.underlying9 (Kd.own_of_R (Kd.R_drewN HO318.out nd_))) | ((with_reducible refine gate_callee (f := 20) rfl ?_); refine goesL_ (some 34) rfl rfl Try.func20 (by kernel_rfl) rfl #[.string (strOfNums t316)] rfl (by (try simp only [List.map_toArray, List.map_cons, List.map_nil]); first | done | rfl | (simp only [List.length_drop, List.length_take]; rfl)) ?_; (with_reducible refine (octet_Read.calls (strOfNums t316) t319 t320 w _ ?side1 A17.out).mono ?_); (case side1 => repeat (first | (with_reducible first | exact HB.out | apply below_alloc | apply pw_below_drewN | apply below_drew1) | exact HB.out)); rintro e w24 ⟨g321, rfl, hi, hb, hb2⟩; refine ⟨_, rfl, ?_⟩; have n0_ := Aside0.mk (Kd.R_below (by (with_reducible repeat (first | apply Kd.R_alloc | apply Kd.R_drewN | apply Kd.R_drew)); exact HO318.out) hb2); have n1_ := Aside0.mk (hb); have n2_ := Aside0.mk (hi); clear HO318; clear HB; have HO318 := n0_; have HB := n1_; have HI321 := n2_; clear n0_ n1_ n2_; (try clear hb); (try clear hb2); (try clear hk); (try clear hi)))
          (try simp only [Act.put, List.setIfInBounds_toArray, List.set_cons_zero, List.set_cons_succ])
          go_cut [] (fun wc => ∃ (kq : Nat) (x322000_18 : ByteArray) (x322001_18 : Bool), Aside0 (mailbaglaw01_OctetMosts.j1 kq (decide (x10_9 ≤ (ji18))) x322000_18 x322001_18 = some r) ∧ Aside0 (kq ≤ kj9) ∧ Aside0 (IsS70 w wc g321 x322000_18 x322001_18) ∧ Aside0 (Below w.heap.size w wc))
          case first =>
            have H := HC19.out
            clear HC19
            by_cases c25 : a3 = true
            · subst c25
              have H1 : ((octet_Reader_Text.f kj9 t319 t320 a1).bind fun bt322 => (if x10_9 ≤ (ji18) then (if bt322.1.toList = a2.toList then (mailbaglaw01_OctetMosts.j1 kj9 (decide (x10_9 ≤ (ji18))) bt322.2.1 bt322.2.2) else (some false)) else (if bt322.1.toList = ([] : List UInt8) then (mailbaglaw01_OctetMosts.j1 kj9 (decide (x10_9 ≤ (ji18))) bt322.2.1 bt322.2.2) else (some false)))) = some r := by rw [if_pos rfl] at H; exact H
              clear H
              have H := H1
              clear H1
              replace H := Option.bind_eq_some_iff.mp H
              obtain ⟨⟨t322, t323, t324⟩, A260, H⟩ := H
              replace H : (if x10_9 ≤ (ji18) then (if t322.toList = a2.toList then (mailbaglaw01_OctetMosts.j1 kj9 (decide (x10_9 ≤ (ji18))) t323 t324) else (some false)) else (if t322.toList = ([] : List UInt8) then (mailbaglaw01_OctetMosts.j1 kj9 (decide (x10_9 ≤ (ji18))) t323 t324) else (some false))) = some r := H
              have A26 := Aside0.mk A260
              clear A260
              by_cases c27 : x10_9 ≤ (ji18)
              · rw [if_pos c27] at H
                have c27b0 : decide (x10_9 ≤ (ji18)) = true := decide_eq_true c27
                clear c27
                (first | rw [c27b0] | (simp only [i64_w, i32_w]; rw [c27b0]) | skip)
                by_cases c28 : t322.toList = a2.toList
                · rw [if_pos c28] at H
                  have c28b0 : (t322.toList == a2.toList) = true := beq_iff_eq.mpr c28
                  have c28b1 : (t322.toList != a2.toList) = false := bne_eq_false_iff_eq.mpr c28
                  clear c28
                  have H' := Aside0.mk H
                  clear H
                  go_wp2_with (first | ((with_reducible refine gate_callee (f := 26) rfl ?_); refine goesL_ (some 42) rfl rfl Try.func26 (by kernel_rfl) rfl #[.pointer (some ⟨g321, 0, none⟩), .int .i64 a1] rfl (by (try simp only [List.map_toArray, List.map_cons, List.map_nil]); first | done | rfl | (simp only [List.length_drop, List.length_take]; rfl)) ?_; (with_reducible refine (octet_Reader_Text.calls kj9 g321 t319 t320 a1 t322 t323 t324 w _ ?side1 ?side2 A26.out).mono ?_); (case side1 => repeat (first | (with_reducible first | exact HI321.out | apply IsS70.alloc | apply IsS70.drewN | apply IsS70.drew | apply IsS70.set_0 | apply IsS70.set_1) | exact HI321.out)); (case side2 => repeat (first | (with_reducible first | exact HB.out | apply below_alloc | apply pw_below_drewN | apply below_drew1 | refine below_set ?_ (IsS70.ge HI321.out)) | exact HB.out)); rintro e w29 ⟨rfl, hi, hb, hk⟩; refine ⟨_, rfl, ?_⟩; have n0_ := Aside0.mk (Kd.R_mono (Kd.R_keep (IsS70.apart (show IsS70 w _ g321 t319 t320 from by repeat (first | (with_reducible first | exact HI321.out | apply IsS70.alloc | apply IsS70.drewN | apply IsS70.drew | apply IsS70.set_0 | apply IsS70.set_1) | exact HI321.out)) (by (with_reducible repeat (first | apply Kd.R_alloc | apply Kd.R_drewN | apply Kd.R_drew)); exact HO318.out) (by decide)) hk (fun _ h => h.2)) (fun _ h => h.1)); have n1_ := Aside0.mk (hb); have n2_ := Aside0.mk (hi); clear HO318; clear HB; clear HI321; have HO318 := n0_; have HB := n1_; have HI321 := n2_; clear n0_ n1_ n2_; (try clear hb); (try clear hb2); (try clear hk); (try clear hi)))
                  (refine Met.intro ?_; go_step; (repeat apply Exists.intro); refine ⟨?rel, ?fr_⟩; (case fr_ => first | rfl | (simp only [show decide (x10_9 ≤ ji18) = true from by assumption]; rfl) | (simp only [show decide (x10_9 ≤ ji18) = false from by assumption]; rfl)))
                  case rel => exact ⟨_, (t323), (t324), H', ⟨by have := HJ9.out; first | omega | exact Nat.le_refl _⟩, ⟨by repeat (first | (with_reducible first | exact HI321.out | apply IsS70.alloc | apply IsS70.drewN | apply IsS70.drew | apply IsS70.set_0 | apply IsS70.set_1) | exact HI321.out)⟩, ⟨by repeat (first | (with_reducible first | exact HB.out | apply below_alloc | apply pw_below_drewN | apply below_drew1 | refine below_set ?_ (IsS70.ge HI321.out)) | exact HB.out)⟩⟩
                · rw [if_neg c28] at H
                  have c28b0 : (t322.toList == a2.toList) = false := beq_eq_false_iff_ne.mpr c28
                  have c28b1 : (t322.toList != a2.toList) = true := bne_iff_ne.mpr c28
                  obtain rfl := Option.some.inj H
                  go_wp2_with (first | ((with_reducible refine gate_callee (f := 26) rfl ?_); refine goesL_ (some 42) rfl rfl Try.func26 (by kernel_rfl) rfl #[.pointer (some ⟨g321, 0, none⟩), .int .i64 a1] rfl (by (try simp only [List.map_toArray, List.map_cons, List.map_nil]); first | done | rfl | (simp only [List.length_drop, List.length_take]; rfl)) ?_; (with_reducible refine (octet_Reader_Text.calls kj9 g321 t319 t320 a1 t322 t323 t324 w _ ?side1 ?side2 A26.out).mono ?_); (case side1 => repeat (first | (with_reducible first | exact HI321.out | apply IsS70.alloc | apply IsS70.drewN | apply IsS70.drew | apply IsS70.set_0 | apply IsS70.set_1) | exact HI321.out)); (case side2 => repeat (first | (with_reducible first | exact HB.out | apply below_alloc | apply pw_below_drewN | apply below_drew1 | refine below_set ?_ (IsS70.ge HI321.out)) | exact HB.out)); rintro e w30 ⟨rfl, hi, hb, hk⟩; refine ⟨_, rfl, ?_⟩; have n0_ := Aside0.mk (Kd.R_mono (Kd.R_keep (IsS70.apart (show IsS70 w _ g321 t319 t320 from by repeat (first | (with_reducible first | exact HI321.out | apply IsS70.alloc | apply IsS70.drewN | apply IsS70.drew | apply IsS70.set_0 | apply IsS70.set_1) | exact HI321.out)) (by (with_reducible repeat (first | apply Kd.R_alloc | apply Kd.R_drewN | apply Kd.R_drew)); exact HO318.out) (by decide)) hk (fun _ h => h.2)) (fun _ h => h.1)); have n1_ := Aside0.mk (hb); have n2_ := Aside0.mk (hi); clear HO318; clear HB; clear HI321; have HO318 := n0_; have HB := n1_; have HI321 := n2_; clear n0_ n1_ n2_; (try clear hb); (try clear hb2); (try clear hk); (try clear hi)))
                  go_ret
                  exact ⟨by first | rfl | (simp [errW_none, errW_some] <;> rfl) | (simp only [← hji18]; first | rfl | (simp [errW_none, errW_some] <;> rfl)) | (simp [*, errW_none, errW_some] <;> rfl), by repeat (first | (with_reducible first | exact HB.out | apply below_alloc | apply pw_below_drewN | apply below_drew1 | refine below_set ?_ (IsS70.ge HI321.out)) | exact HB.out)⟩
              · rw [if_neg c27] at H
                have c27b0 : decide (x10_9 ≤ (ji18)) = false := decide_eq_false c27
                clear c27
                (first | rw [c27b0] | (simp only [i64_w, i32_w]; rw [c27b0]) | skip)
                by_cases c31 : t322.toList = ([] : List UInt8)
                · rw [if_pos c31] at H
                  have c31b0 : (t322.toList == ([] : List UInt8)) = true := beq_iff_eq.mpr c31
                  have c31b1 : (t322.toList != ([] : List UInt8)) = false := bne_eq_false_iff_eq.mpr c31
                  clear c31
                  have H' := Aside0.mk H
                  clear H
                  go_wp2_with (first | ((with_reducible refine gate_callee (f := 26) rfl ?_); refine goesL_ (some 42) rfl rfl Try.func26 (by kernel_rfl) rfl #[.pointer (some ⟨g321, 0, none⟩), .int .i64 a1] rfl (by (try simp only [List.map_toArray, List.map_cons, List.map_nil]); first | done | rfl | (simp only [List.length_drop, List.length_take]; rfl)) ?_; (with_reducible refine (octet_Reader_Text.calls kj9 g321 t319 t320 a1 t322 t323 t324 w _ ?side1 ?side2 A26.out).mono ?_); (case side1 => repeat (first | (with_reducible first | exact HI321.out | apply IsS70.alloc | apply IsS70.drewN | apply IsS70.drew | apply IsS70.set_0 | apply IsS70.set_1) | exact HI321.out)); (case side2 => repeat (first | (with_reducible first | exact HB.out | apply below_alloc | apply pw_below_drewN | apply below_drew1 | refine below_set ?_ (IsS70.ge HI321.out)) | exact HB.out)); rintro e w32 ⟨rfl, hi, hb, hk⟩; refine ⟨_, rfl, ?_⟩; have n0_ := Aside0.mk (Kd.R_mono (Kd.R_keep (IsS70.apart (show IsS70 w _ g321 t319 t320 from by repeat (first | (with_reducible first | exact HI321.out | apply IsS70.alloc | apply IsS70.drewN | apply IsS70.drew | apply IsS70.set_0 | apply IsS70.set_1) | exact HI321.out)) (by (with_reducible repeat (first | apply Kd.R_alloc | apply Kd.R_drewN | apply Kd.R_drew)); exact HO318.out) (by decide)) hk (fun _ h => h.2)) (fun _ h => h.1)); have n1_ := Aside0.mk (hb); have n2_ := Aside0.mk (hi); clear HO318; clear HB; clear HI321; have HO318 := n0_; have HB := n1_; have HI321 := n2_; clear n0_ n1_ n2_; (try clear hb); (try clear hb2); (try clear hk); (try clear hi)))
                  (refine Met.intro ?_; go_step; (repeat apply Exists.intro); refine ⟨?rel, ?fr_⟩; (case fr_ => first | rfl | (simp only [show decide (x10_9 ≤ ji18) = true from by assumption]; rfl) | (simp only [show decide (x10_9 ≤ ji18) = false from by assumption]; rfl)))
                  case rel => exact ⟨_, (t323), (t324), H', ⟨by have := HJ9.out; first | omega | exact Nat.le_refl _⟩, ⟨by repeat (first | (with_reducible first | exact HI321.out | apply IsS70.alloc | apply IsS70.drewN | apply IsS70.drew | apply IsS70.set_0 | apply IsS70.set_1) | exact HI321.out)⟩, ⟨by repeat (first | (with_reducible first | exact HB.out | apply below_alloc | apply pw_below_drewN | apply below_drew1 | refine below_set ?_ (IsS70.ge HI321.out)) | exact HB.out)⟩⟩
                · rw [if_neg c31] at H
                  have c31b0 : (t322.toList == ([] : List UInt8)) = false := beq_eq_false_iff_ne.mpr c31
                  have c31b1 : (t322.toList != ([] : List UInt8)) = true := bne_iff_ne.mpr c31
                  obtain rfl := Option.some.inj H
                  go_wp2_with (first | ((with_reducible refine gate_callee (f := 26) rfl ?_); refine goesL_ (some 42) rfl rfl Try.func26 (by kernel_rfl) rfl #[.pointer (some ⟨g321, 0, none⟩), .int .i64 a1] rfl (by (try simp only [List.map_toArray, List.map_cons, List.map_nil]); first | done | rfl | (simp only [List.length_drop, List.length_take]; rfl)) ?_; (with_reducible refine (octet_Reader_Text.calls kj9 g321 t319 t320 a1 t322 t323 t324 w _ ?side1 ?side2 A26.out).mono ?_); (case side1 => repeat (first | (with_reducible first | exact HI321.out | apply IsS70.alloc | apply IsS70.drewN | apply IsS70.drew | apply IsS70.set_0 | apply IsS70.set_1) | exact HI321.out)); (case side2 => repeat (first | (with_reducible first | exact HB.out | apply below_alloc | apply pw_below_drewN | apply below_drew1 | refine below_set ?_ (IsS70.ge HI321.out)) | exact HB.out)); rintro e w33 ⟨rfl, hi, hb, hk⟩; refine ⟨_, rfl, ?_⟩; have n0_ := Aside0.mk (Kd.R_mono (Kd.R_keep (IsS70.apart (show IsS70 w _ g321 t319 t320 from by repeat (first | (with_reducible first | exact HI321.out | apply IsS70.alloc | apply IsS70.drewN | apply IsS70.drew | apply IsS70.set_0 | apply IsS70.set_1) | exact HI321.out)) (by (with_reducible repeat (first | apply Kd.R_alloc | apply Kd.R_drewN | apply Kd.R_drew)); exact HO318.out) (by decide)) hk (fun _ h => h.2)) (fun _ h => h.1)); have n1_ := Aside0.mk (hb); have n2_ := Aside0.mk (hi); clear HO318; clear HB; clear HI321; have HO318 := n0_; have HB := n1_; have HI321 := n2_; clear n0_ n1_ n2_; (try clear hb); (try clear hb2); (try clear hk); (try clear hi)))
                  go_ret
                  exact ⟨by first | rfl | (simp [errW_none, errW_some] <;> rfl) | (simp only [← hji18]; first | rfl | (simp [errW_none, errW_some] <;> rfl)) | (simp [*, errW_none, errW_some] <;> rfl), by repeat (first | (with_reducible first | exact HB.out | apply below_alloc | apply pw_below_drewN | apply below_drew1 | refine below_set ?_ (IsS70.ge HI321.out)) | exact HB.out)⟩
            · replace c25 := Bool.eq_false_iff.mpr c25
              subst c25
              have H1 : ((octet_Reader_Num.f kj9 t319 t320 a1).bind fun bt325 => (if x10_9 ≤ (ji18) then (if bt325.1 = (Go.bits .and .i64 a0 16777215) then (mailbaglaw01_OctetMosts.j1 kj9 (decide (x10_9 ≤ (ji18))) bt325.2.1 bt325.2.2) else (some false)) else (if bt325.1 = 0 then (mailbaglaw01_OctetMosts.j1 kj9 (decide (x10_9 ≤ (ji18))) bt325.2.1 bt325.2.2) else (some false)))) = some r := by rw [if_neg (show ¬ (false = true) by decide)] at H; exact H
              clear H
              have H := H1
              clear H1
              replace H := Option.bind_eq_some_iff.mp H
              obtain ⟨⟨t325, t326, t327⟩, A340, H⟩ := H
              replace H : (if x10_9 ≤ (ji18) then (if t325 = (Go.bits .and .i64 a0 16777215) then (mailbaglaw01_OctetMosts.j1 kj9 (decide (x10_9 ≤ (ji18))) t326 t327) else (some false)) else (if t325 = 0 then (mailbaglaw01_OctetMosts.j1 kj9 (decide (x10_9 ≤ (ji18))) t326 t327) else (some false))) = some r := H
              have A34 := Aside0.mk A340
              clear A340
              by_cases c35 : x10_9 ≤ (ji18)
              · rw [if_pos c35] at H
                have c35b0 : decide (x10_9 ≤ (ji18)) = true := decide_eq_true c35
                clear c35
                by_cases c36 : t325 = (Go.bits .and .i64 a0 16777215)
                · rw [if_pos c36] at H
                  have c36b0 : (t325 == (Go.bits .and .i64 a0 16777215)) = true := beq_iff_eq.mpr c36
                  have c36b1 : (t325 != (Go.bits .and .i64 a0 16777215)) = false := bne_eq_false_iff_eq.mpr c36
                  clear c36
                  have H' := Aside0.mk H
                  clear H
                  go_wp2_with (first | ((with_reducible refine gate_callee (f := 25) rfl ?_); refine goesL_ (some 59) rfl rfl Try.func25 (by kernel_rfl) rfl #[.pointer (some ⟨g321, 0, none⟩), .int .i64 a1] rfl (by (try simp only [List.map_toArray, List.map_cons, List.map_nil]); first | done | rfl | (simp only [List.length_drop, List.length_take]; rfl)) ?_; (with_reducible refine (octet_Reader_Num.calls kj9 g321 t319 t320 a1 t325 t326 t327 w _ ?side1 ?side2 A34.out).mono ?_); (case side1 => repeat (first | (with_reducible first | exact HI321.out | apply IsS70.alloc | apply IsS70.drewN | apply IsS70.drew | apply IsS70.set_0 | apply IsS70.set_1) | exact HI321.out)); (case side2 => repeat (first | (with_reducible first | exact HB.out | apply below_alloc | apply pw_below_drewN | apply below_drew1 | refine below_set ?_ (IsS70.ge HI321.out)) | exact HB.out)); rintro e w37 ⟨rfl, hi, hb, hk⟩; refine ⟨_, rfl, ?_⟩; have n0_ := Aside0.mk (Kd.R_mono (Kd.R_keep (IsS70.apart (show IsS70 w _ g321 t319 t320 from by repeat (first | (with_reducible first | exact HI321.out | apply IsS70.alloc | apply IsS70.drewN | apply IsS70.drew | apply IsS70.set_0 | apply IsS70.set_1) | exact HI321.out)) (by (with_reducible repeat (first | apply Kd.R_alloc | apply Kd.R_drewN | apply Kd.R_drew)); exact HO318.out) (by decide)) hk (fun _ h => h.2)) (fun _ h => h.1)); have n1_ := Aside0.mk (hb); have n2_ := Aside0.mk (hi); clear HO318; clear HB; clear HI321; have HO318 := n0_; have HB := n1_; have HI321 := n2_; clear n0_ n1_ n2_; (try clear hb); (try clear hb2); (try clear hk); (try clear hi)))
                  (refine Met.intro ?_; go_step; (repeat apply Exists.intro); refine ⟨?rel, ?fr_⟩; (case fr_ => first | rfl | (simp only [show decide (x10_9 ≤ ji18) = true from by assumption]; rfl) | (simp only [show decide (x10_9 ≤ ji18) = false from by assumption]; rfl)))
                  case rel => exact ⟨_, (t326), (t327), H', ⟨by have := HJ9.out; first | omega | exact Nat.le_refl _⟩, ⟨by repeat (first | (with_reducible first | exact HI321.out | apply IsS70.alloc | apply IsS70.drewN | apply IsS70.drew | apply IsS70.set_0 | apply IsS70.set_1) | exact HI321.out)⟩, ⟨by repeat (first | (with_reducible first | exact HB.out | apply below_alloc | apply pw_below_drewN | apply below_drew1 | refine below_set ?_ (IsS70.ge HI321.out)) | exact HB.out)⟩⟩
                · rw [if_neg c36] at H
                  have c36b0 : (t325 == (Go.bits .and .i64 a0 16777215)) = false := beq_eq_false_iff_ne.mpr c36
                  have c36b1 : (t325 != (Go.bits .and .i64 a0 16777215)) = true := bne_iff_ne.mpr c36
                  obtain rfl := Option.some.inj H
                  go_wp2_with (first | ((with_reducible refine gate_callee (f := 25) rfl ?_); refine goesL_ (some 59) rfl rfl Try.func25 (by kernel_rfl) rfl #[.pointer (some ⟨g321, 0, none⟩), .int .i64 a1] rfl (by (try simp only [List.map_toArray, List.map_cons, List.map_nil]); first | done | rfl | (simp only [List.length_drop, List.length_take]; rfl)) ?_; (with_reducible refine (octet_Reader_Num.calls kj9 g321 t319 t320 a1 t325 t326 t327 w _ ?side1 ?side2 A34.out).mono ?_); (case side1 => repeat (first | (with_reducible first | exact HI321.out | apply IsS70.alloc | apply IsS70.drewN | apply IsS70.drew | apply IsS70.set_0 | apply IsS70.set_1) | exact HI321.out)); (case side2 => repeat (first | (with_reducible first | exact HB.out | apply below_alloc | apply pw_below_drewN | apply below_drew1 | refine below_set ?_ (IsS70.ge HI321.out)) | exact HB.out)); rintro e w38 ⟨rfl, hi, hb, hk⟩; refine ⟨_, rfl, ?_⟩; have n0_ := Aside0.mk (Kd.R_mono (Kd.R_keep (IsS70.apart (show IsS70 w _ g321 t319 t320 from by repeat (first | (with_reducible first | exact HI321.out | apply IsS70.alloc | apply IsS70.drewN | apply IsS70.drew | apply IsS70.set_0 | apply IsS70.set_1) | exact HI321.out)) (by (with_reducible repeat (first | apply Kd.R_alloc | apply Kd.R_drewN | apply Kd.R_drew)); exact HO318.out) (by decide)) hk (fun _ h => h.2)) (fun _ h => h.1)); have n1_ := Aside0.mk (hb); have n2_ := Aside0.mk (hi); clear HO318; clear HB; clear HI321; have HO318 := n0_; have HB := n1_; have HI321 := n2_; clear n0_ n1_ n2_; (try clear hb); (try clear hb2); (try clear hk); (try clear hi)))
                  go_ret
                  exact ⟨by first | rfl | (simp [errW_none, errW_some] <;> rfl) | (simp only [← hji18]; first | rfl | (simp [errW_none, errW_some] <;> rfl)) | (simp [*, errW_none, errW_some] <;> rfl), by repeat (first | (with_reducible first | exact HB.out | apply below_alloc | apply pw_below_drewN | apply below_drew1 | refine below_set ?_ (IsS70.ge HI321.out)) | exact HB.out)⟩
              · rw [if_neg c35] at H
                have c35b0 : decide (x10_9 ≤ (ji18)) = false := decide_eq_false c35
                clear c35
                by_cases c39 : t325 = 0
                · rw [if_pos c39] at H
                  have c39b0 : (t325 == 0) = true := beq_iff_eq.mpr c39
                  have c39b1 : (t325 != 0) = false := bne_eq_false_iff_eq.mpr c39
                  clear c39
                  have H' := Aside0.mk H
                  clear H
                  go_wp2_with (first | ((with_reducible refine gate_callee (f := 25) rfl ?_); refine goesL_ (some 59) rfl rfl Try.func25 (by kernel_rfl) rfl #[.pointer (some ⟨g321, 0, none⟩), .int .i64 a1] rfl (by (try simp only [List.map_toArray, List.map_cons, List.map_nil]); first | done | rfl | (simp only [List.length_drop, List.length_take]; rfl)) ?_; (with_reducible refine (octet_Reader_Num.calls kj9 g321 t319 t320 a1 t325 t326 t327 w _ ?side1 ?side2 A34.out).mono ?_); (case side1 => repeat (first | (with_reducible first | exact HI321.out | apply IsS70.alloc | apply IsS70.drewN | apply IsS70.drew | apply IsS70.set_0 | apply IsS70.set_1) | exact HI321.out)); (case side2 => repeat (first | (with_reducible first | exact HB.out | apply below_alloc | apply pw_below_drewN | apply below_drew1 | refine below_set ?_ (IsS70.ge HI321.out)) | exact HB.out)); rintro e w40 ⟨rfl, hi, hb, hk⟩; refine ⟨_, rfl, ?_⟩; have n0_ := Aside0.mk (Kd.R_mono (Kd.R_keep (IsS70.apart (show IsS70 w _ g321 t319 t320 from by repeat (first | (with_reducible first | exact HI321.out | apply IsS70.alloc | apply IsS70.drewN | apply IsS70.drew | apply IsS70.set_0 | apply IsS70.set_1) | exact HI321.out)) (by (with_reducible repeat (first | apply Kd.R_alloc | apply Kd.R_drewN | apply Kd.R_drew)); exact HO318.out) (by decide)) hk (fun _ h => h.2)) (fun _ h => h.1)); have n1_ := Aside0.mk (hb); have n2_ := Aside0.mk (hi); clear HO318; clear HB; clear HI321; have HO318 := n0_; have HB := n1_; have HI321 := n2_; clear n0_ n1_ n2_; (try clear hb); (try clear hb2); (try clear hk); (try clear hi)))
                  (refine Met.intro ?_; go_step; (repeat apply Exists.intro); refine ⟨?rel, ?fr_⟩; (case fr_ => first | rfl | (simp only [show decide (x10_9 ≤ ji18) = true from by assumption]; rfl) | (simp only [show decide (x10_9 ≤ ji18) = false from by assumption]; rfl)))
                  case rel => exact ⟨_, (t326), (t327), H', ⟨by have := HJ9.out; first | omega | exact Nat.le_refl _⟩, ⟨by repeat (first | (with_reducible first | exact HI321.out | apply IsS70.alloc | apply IsS70.drewN | apply IsS70.drew | apply IsS70.set_0 | apply IsS70.set_1) | exact HI321.out)⟩, ⟨by repeat (first | (with_reducible first | exact HB.out | apply below_alloc | apply pw_below_drewN | apply below_drew1 | refine below_set ?_ (IsS70.ge HI321.out)) | exact HB.out)⟩⟩
                · rw [if_neg c39] at H
                  have c39b0 : (t325 == 0) = false := beq_eq_false_iff_ne.mpr c39
                  have c39b1 : (t325 != 0) = true := bne_iff_ne.mpr c39
                  obtain rfl := Option.some.inj H
                  go_wp2_with (first | ((with_reducible refine gate_callee (f := 25) rfl ?_); refine goesL_ (some 59) rfl rfl Try.func25 (by kernel_rfl) rfl #[.pointer (some ⟨g321, 0, none⟩), .int .i64 a1] rfl (by (try simp only [List.map_toArray, List.map_cons, List.map_nil]); first | done | rfl | (simp only [List.length_drop, List.length_take]; rfl)) ?_; (with_reducible refine (octet_Reader_Num.calls kj9 g321 t319 t320 a1 t325 t326 t327 w _ ?side1 ?side2 A34.out).mono ?_); (case side1 => repeat (first | (with_reducible first | exact HI321.out | apply IsS70.alloc | apply IsS70.drewN | apply IsS70.drew | apply IsS70.set_0 | apply IsS70.set_1) | exact HI321.out)); (case side2 => repeat (first | (with_reducible first | exact HB.out | apply below_alloc | apply pw_below_drewN | apply below_drew1 | refine below_set ?_ (IsS70.ge HI321.out)) | exact HB.out)); rintro e w41 ⟨rfl, hi, hb, hk⟩; refine ⟨_, rfl, ?_⟩; have n0_ := Aside0.mk (Kd.R_mono (Kd.R_keep (IsS70.apart (show IsS70 w _ g321 t319 t320 from by repeat (first | (with_reducible first | exact HI321.out | apply IsS70.alloc | apply IsS70.drewN | apply IsS70.drew | apply IsS70.set_0 | apply IsS70.set_1) | exact HI321.out)) (by (with_reducible repeat (first | apply Kd.R_alloc | apply Kd.R_drewN | apply Kd.R_drew)); exact HO318.out) (by decide)) hk (fun _ h => h.2)) (fun _ h => h.1)); have n1_ := Aside0.mk (hb); have n2_ := Aside0.mk (hi); clear HO318; clear HB; clear HI321; have HO318 := n0_; have HB := n1_; have HI321 := n2_; clear n0_ n1_ n2_; (try clear hb); (try clear hb2); (try clear hk); (try clear hi)))
                  go_ret
                  exact ⟨by first | rfl | (simp [errW_none, errW_some] <;> rfl) | (simp only [← hji18]; first | rfl | (simp [errW_none, errW_some] <;> rfl)) | (simp [*, errW_none, errW_some] <;> rfl), by repeat (first | (with_reducible first | exact HB.out | apply below_alloc | apply pw_below_drewN | apply below_drew1 | refine below_set ?_ (IsS70.ge HI321.out)) | exact HB.out)⟩
          case rest =>
            clear HC19
            try clear c1
            try clear c2
            try clear p2
            try clear hcv2
            try clear c3
            try clear c6
            try clear c7
            try clear c7b0
            try clear c7b1
            try clear c10
            try clear c13
            try clear c16
            try clear c17
            try clear c20
            try clear hcv22
            try clear hcv23
            try clear c25
            try clear c26
            try clear c27
            try clear c27b0
            try clear c28
            try clear c28b0
            try clear c28b1
            try clear c30
            try clear c31
            try clear c31b0
            try clear c31b1
            try clear c35
            try clear c35b0
            try clear c36
            try clear c36b0
            try clear c36b1
            try clear c39
            try clear c39b0
            try clear c39b1
            try clear p2
            obtain ⟨kq, x322000_18, x322001_18, HA, HJ18, HI321, HB⟩ := hcut
            cases kq with
            | zero => exact absurd HA.out (by simp [mailbaglaw01_OctetMosts.j1])
            | succ kj18 =>
              have H := HA.out
              clear HA
              simp only [mailbaglaw01_OctetMosts.j1] at H
              by_cases c42 : (decide (x10_9 ≤ (ji18))) = true
              · rw [if_pos c42] at H
                have c42b0 : (decide (x10_9 ≤ (ji18))) = true := c42
                clear c42
                replace H := Option.bind_eq_some_iff.mp H
                obtain ⟨⟨t346, t347, t348⟩, A430, H⟩ := H
                replace H : (if t346 = 0 then ((octet_Reader_End.f t347 t348).bind fun bt349 => (if bt349.1 = 2 then ((octet_Reader_Left.f bt349.2.1 bt349.2.2).bind fun bt352 => (if bt352.1 = 1 then ((octet_Reader_Flag.f bt352.2.1 bt352.2.2).bind fun bt355 => (if bt355.1 = true then ((octet_Reader_End.f bt355.2.1 bt355.2.2).bind fun bt358 => (some (bt358.1 == 0))) else (some false))) else (some false))) else (some false))) else (some false)) = some r := H
                have A43 := Aside0.mk A430
                clear A430
                by_cases c44 : t346 = 0
                · rw [if_pos c44] at H
                  have c44b0 : (t346 == 0) = true := beq_iff_eq.mpr c44
                  have c44b1 : (t346 != 0) = false := bne_eq_false_iff_eq.mpr c44
                  clear c44
                  replace H := Option.bind_eq_some_iff.mp H
                  obtain ⟨⟨t349, t350, t351⟩, A450, H⟩ := H
                  replace H : (if t349 = 2 then ((octet_Reader_Left.f t350 t351).bind fun bt352 => (if bt352.1 = 1 then ((octet_Reader_Flag.f bt352.2.1 bt352.2.2).bind fun bt355 => (if bt355.1 = true then ((octet_Reader_End.f bt355.2.1 bt355.2.2).bind fun bt358 => (some (bt358.1 == 0))) else (some false))) else (some false))) else (some false)) = some r := H
                  have A45 := Aside0.mk A450
                  clear A450
                  by_cases c46 : t349 = 2
                  · rw [if_pos c46] at H
                    have c46b0 : (t349 == 2) = true := beq_iff_eq.mpr c46
                    have c46b1 : (t349 != 2) = false := bne_eq_false_iff_eq.mpr c46
                    clear c46
                    replace H := Option.bind_eq_some_iff.mp H
                    obtain ⟨⟨t352, t353, t354⟩, A470, H⟩ := H
                    replace H : (if t352 = 1 then ((octet_Reader_Flag.f t353 t354).bind fun bt355 => (if bt355.1 = true then ((octet_Reader_End.f bt355.2.1 bt355.2.2).bind fun bt358 => (some (bt358.1 == 0))) else (some false))) else (some false)) = some r := H
                    have A47 := Aside0.mk A470
                    clear A470
                    by_cases c48 : t352 = 1
                    · rw [if_pos c48] at H
                      have c48b0 : (t352 == 1) = true := beq_iff_eq.mpr c48
                      have c48b1 : (t352 != 1) = false := bne_eq_false_iff_eq.mpr c48
                      clear c48
                      replace H := Option.bind_eq_some_iff.mp H
                      obtain ⟨⟨t355, t356, t357⟩, A490, H⟩ := H
                      replace H : (if t355 = true then ((octet_Reader_End.f t356 t357).bind fun bt358 => (some (bt358.1 == 0))) else (some false)) = some r := H
                      have A49 := Aside0.mk A490
                      clear A490
                      by_cases c50 : t355 = true
                      · subst c50
                        have H1 : ((octet_Reader_End.f t356 t357).bind fun bt358 => (some (bt358.1 == 0))) = some r := by rw [if_pos rfl] at H; exact H
                        clear H
                        have H := H1
                        clear H1
                        replace H := Option.bind_eq_some_iff.mp H
                        obtain ⟨⟨t358, t359, t360⟩, A510, H⟩ := H
                        replace H : (some (t358 == 0)) = some r := H
                        have A51 := Aside0.mk A510
                        clear A510
                        obtain rfl := Option.some.inj H
                        go_wp2_with (first | ((with_reducible refine gate_callee (f := 22) rfl ?_); refine goesL_ (some 105) rfl rfl Try.func22 (by kernel_rfl) rfl #[.pointer (some ⟨g321, 0, none⟩)] rfl (by (try simp only [List.map_toArray, List.map_cons, List.map_nil]); first | done | rfl | (simp only [List.length_drop, List.length_take]; rfl)) ?_; (with_reducible refine (octet_Reader_Err.calls g321 x322000_18 x322001_18 t346 t347 t348 w _ ?side1 ?side2 A43.out).mono ?_); (case side1 => repeat (first | (with_reducible first | exact HI321.out | apply IsS70.alloc | apply IsS70.drewN | apply IsS70.drew | apply IsS70.set_0 | apply IsS70.set_1) | exact HI321.out)); (case side2 => repeat (first | (with_reducible first | exact HB.out | apply below_alloc | apply pw_below_drewN | apply below_drew1 | refine below_set ?_ (IsS70.ge HI321.out)) | exact HB.out)); rintro e w52 ⟨rfl, hi, hb, hk⟩; refine ⟨_, rfl, ?_⟩; have n0_ := Aside0.mk (hb); have n1_ := Aside0.mk (hi); clear HB; clear HI321; have HB := n0_; have HI321 := n1_; clear n0_ n1_; (try clear hb); (try clear hb2); (try clear hk); (try clear hi)) | (go_at_call 24; (with_reducible refine (octet_Reader_End.calls g321 t347 t348 t349 t350 t351 w _ ?side1 ?side2 A45.out).mono ?_); (case side1 => repeat (first | (with_reducible first | exact HI321.out | apply IsS70.alloc | apply IsS70.drewN | apply IsS70.drew | apply IsS70.set_0 | apply IsS70.set_1) | exact HI321.out)); (case side2 => repeat (first | (with_reducible first | exact HB.out | apply below_alloc | apply pw_below_drewN | apply below_drew1 | refine below_set ?_ (IsS70.ge HI321.out)) | exact HB.out)); rintro e w53 ⟨rfl, hi, hb, hk⟩; have n0_ := Aside0.mk (hb); have n1_ := Aside0.mk (hi); clear HB; clear HI321; have HB := n0_; have HI321 := n1_; clear n0_ n1_; (try clear hb); (try clear hb2); (try clear hk); (try clear hi)) | (go_at_call 23; (with_reducible refine (octet_Reader_Left.calls g321 t350 t351 t352 t353 t354 w _ ?side1 ?side2 A47.out).mono ?_); (case side1 => repeat (first | (with_reducible first | exact HI321.out | apply IsS70.alloc | apply IsS70.drewN | apply IsS70.drew | apply IsS70.set_0 | apply IsS70.set_1) | exact HI321.out)); (case side2 => repeat (first | (with_reducible first | exact HB.out | apply below_alloc | apply pw_below_drewN | apply below_drew1 | refine below_set ?_ (IsS70.ge HI321.out)) | exact HB.out)); rintro e w54 ⟨rfl, hi, hb, hk⟩; have n0_ := Aside0.mk (hb); have n1_ := Aside0.mk (hi); clear HB; clear HI321; have HB := n0_; have HI321 := n1_; clear n0_ n1_; (try clear hb); (try clear hb2); (try clear hk); (try clear hi)) | (go_at_call 27; (with_reducible refine (octet_Reader_Flag.calls g321 t353 t354 true t356 t357 w _ ?side1 ?side2 A49.out).mono ?_); (case side1 => repeat (first | (with_reducible first | exact HI321.out | apply IsS70.alloc | apply IsS70.drewN | apply IsS70.drew | apply IsS70.set_0 | apply IsS70.set_1) | exact HI321.out)); (case side2 => repeat (first | (with_reducible first | exact HB.out | apply below_alloc | apply pw_below_drewN | apply below_drew1 | refine below_set ?_ (IsS70.ge HI321.out)) | exact HB.out)); rintro e w55 ⟨rfl, hi, hb, hk⟩; have n0_ := Aside0.mk (hb); have n1_ := Aside0.mk (hi); clear HB; clear HI321; have HB := n0_; have HI321 := n1_; clear n0_ n1_; (try clear hb); (try clear hb2); (try clear hk); (try clear hi)) | (go_at_call 24; (with_reducible refine (octet_Reader_End.calls g321 t356 t357 t358 t359 t360 w _ ?side1 ?side2 A51.out).mono ?_); (case side1 => repeat (first | (with_reducible first | exact HI321.out | apply IsS70.alloc | apply IsS70.drewN | apply IsS70.drew | apply IsS70.set_0 | apply IsS70.set_1) | exact HI321.out)); (case side2 => repeat (first | (with_reducible first | exact HB.out | apply below_alloc | apply pw_below_drewN | apply below_drew1 | refine below_set ?_ (IsS70.ge HI321.out)) | exact HB.out)); rintro e w56 ⟨rfl, hi, hb, hk⟩; have n0_ := Aside0.mk (hb); have n1_ := Aside0.mk (hi); clear HB; clear HI321; have HB := n0_; have HI321 := n1_; clear n0_ n1_; (try clear hb); (try clear hb2); (try clear hk); (try clear hi)))
                        go_ret
                        exact ⟨by first | rfl | (simp [errW_none, errW_some] <;> rfl) | (simp only [← hji18]; first | rfl | (simp [errW_none, errW_some] <;> rfl)) | (simp [*, errW_none, errW_some] <;> rfl), by repeat (first | (with_reducible first | exact HB.out | apply below_alloc | apply pw_below_drewN | apply below_drew1 | refine below_set ?_ (IsS70.ge HI321.out)) | exact HB.out)⟩
                      · replace c50 := Bool.eq_false_iff.mpr c50
                        subst c50
                        have H1 : (some false) = some r := by rw [if_neg (show ¬ (false = true) by decide)] at H; exact H
                        clear H
                        have H := H1
                        clear H1
                        obtain rfl := Option.some.inj H
                        go_wp2_with (first | ((with_reducible refine gate_callee (f := 22) rfl ?_); refine goesL_ (some 105) rfl rfl Try.func22 (by kernel_rfl) rfl #[.pointer (some ⟨g321, 0, none⟩)] rfl (by (try simp only [List.map_toArray, List.map_cons, List.map_nil]); first | done | rfl | (simp only [List.length_drop, List.length_take]; rfl)) ?_; (with_reducible refine (octet_Reader_Err.calls g321 x322000_18 x322001_18 t346 t347 t348 w _ ?side1 ?side2 A43.out).mono ?_); (case side1 => repeat (first | (with_reducible first | exact HI321.out | apply IsS70.alloc | apply IsS70.drewN | apply IsS70.drew | apply IsS70.set_0 | apply IsS70.set_1) | exact HI321.out)); (case side2 => repeat (first | (with_reducible first | exact HB.out | apply below_alloc | apply pw_below_drewN | apply below_drew1 | refine below_set ?_ (IsS70.ge HI321.out)) | exact HB.out)); rintro e w57 ⟨rfl, hi, hb, hk⟩; refine ⟨_, rfl, ?_⟩; have n0_ := Aside0.mk (hb); have n1_ := Aside0.mk (hi); clear HB; clear HI321; have HB := n0_; have HI321 := n1_; clear n0_ n1_; (try clear hb); (try clear hb2); (try clear hk); (try clear hi)) | (go_at_call 24; (with_reducible refine (octet_Reader_End.calls g321 t347 t348 t349 t350 t351 w _ ?side1 ?side2 A45.out).mono ?_); (case side1 => repeat (first | (with_reducible first | exact HI321.out | apply IsS70.alloc | apply IsS70.drewN | apply IsS70.drew | apply IsS70.set_0 | apply IsS70.set_1) | exact HI321.out)); (case side2 => repeat (first | (with_reducible first | exact HB.out | apply below_alloc | apply pw_below_drewN | apply below_drew1 | refine below_set ?_ (IsS70.ge HI321.out)) | exact HB.out)); rintro e w58 ⟨rfl, hi, hb, hk⟩; have n0_ := Aside0.mk (hb); have n1_ := Aside0.mk (hi); clear HB; clear HI321; have HB := n0_; have HI321 := n1_; clear n0_ n1_; (try clear hb); (try clear hb2); (try clear hk); (try clear hi)) | (go_at_call 23; (with_reducible refine (octet_Reader_Left.calls g321 t350 t351 t352 t353 t354 w _ ?side1 ?side2 A47.out).mono ?_); (case side1 => repeat (first | (with_reducible first | exact HI321.out | apply IsS70.alloc | apply IsS70.drewN | apply IsS70.drew | apply IsS70.set_0 | apply IsS70.set_1) | exact HI321.out)); (case side2 => repeat (first | (with_reducible first | exact HB.out | apply below_alloc | apply pw_below_drewN | apply below_drew1 | refine below_set ?_ (IsS70.ge HI321.out)) | exact HB.out)); rintro e w59 ⟨rfl, hi, hb, hk⟩; have n0_ := Aside0.mk (hb); have n1_ := Aside0.mk (hi); clear HB; clear HI321; have HB := n0_; have HI321 := n1_; clear n0_ n1_; (try clear hb); (try clear hb2); (try clear hk); (try clear hi)) | (go_at_call 27; (with_reducible refine (octet_Reader_Flag.calls g321 t353 t354 false t356 t357 w _ ?side1 ?side2 A49.out).mono ?_); (case side1 => repeat (first | (with_reducible first | exact HI321.out | apply IsS70.alloc | apply IsS70.drewN | apply IsS70.drew | apply IsS70.set_0 | apply IsS70.set_1) | exact HI321.out)); (case side2 => repeat (first | (with_reducible first | exact HB.out | apply below_alloc | apply pw_below_drewN | apply below_drew1 | refine below_set ?_ (IsS70.ge HI321.out)) | exact HB.out)); rintro e w60 ⟨rfl, hi, hb, hk⟩; have n0_ := Aside0.mk (hb); have n1_ := Aside0.mk (hi); clear HB; clear HI321; have HB := n0_; have HI321 := n1_; clear n0_ n1_; (try clear hb); (try clear hb2); (try clear hk); (try clear hi)))
                        go_ret
                        exact ⟨by first | rfl | (simp [errW_none, errW_some] <;> rfl) | (simp only [← hji18]; first | rfl | (simp [errW_none, errW_some] <;> rfl)) | (simp [*, errW_none, errW_some] <;> rfl), by repeat (first | (with_reducible first | exact HB.out | apply below_alloc | apply pw_below_drewN | apply below_drew1 | refine below_set ?_ (IsS70.ge HI321.out)) | exact HB.out)⟩
                    · rw [if_neg c48] at H
                      have c48b0 : (t352 == 1) = false := beq_eq_false_iff_ne.mpr c48
                      have c48b1 : (t352 != 1) = true := bne_iff_ne.mpr c48
                      obtain rfl := Option.some.inj H
                      go_wp2_with (first | ((with_reducible refine gate_callee (f := 22) rfl ?_); refine goesL_ (some 105) rfl rfl Try.func22 (by kernel_rfl) rfl #[.pointer (some ⟨g321, 0, none⟩)] rfl (by (try simp only [List.map_toArray, List.map_cons, List.map_nil]); first | done | rfl | (simp only [List.length_drop, List.length_take]; rfl)) ?_; (with_reducible refine (octet_Reader_Err.calls g321 x322000_18 x322001_18 t346 t347 t348 w _ ?side1 ?side2 A43.out).mono ?_); (case side1 => repeat (first | (with_reducible first | exact HI321.out | apply IsS70.alloc | apply IsS70.drewN | apply IsS70.drew | apply IsS70.set_0 | apply IsS70.set_1) | exact HI321.out)); (case side2 => repeat (first | (with_reducible first | exact HB.out | apply below_alloc | apply pw_below_drewN | apply below_drew1 | refine below_set ?_ (IsS70.ge HI321.out)) | exact HB.out)); rintro e w61 ⟨rfl, hi, hb, hk⟩; refine ⟨_, rfl, ?_⟩; have n0_ := Aside0.mk (hb); have n1_ := Aside0.mk (hi); clear HB; clear HI321; have HB := n0_; have HI321 := n1_; clear n0_ n1_; (try clear hb); (try clear hb2); (try clear hk); (try clear hi)) | (go_at_call 24; (with_reducible refine (octet_Reader_End.calls g321 t347 t348 t349 t350 t351 w _ ?side1 ?side2 A45.out).mono ?_); (case side1 => repeat (first | (with_reducible first | exact HI321.out | apply IsS70.alloc | apply IsS70.drewN | apply IsS70.drew | apply IsS70.set_0 | apply IsS70.set_1) | exact HI321.out)); (case side2 => repeat (first | (with_reducible first | exact HB.out | apply below_alloc | apply pw_below_drewN | apply below_drew1 | refine below_set ?_ (IsS70.ge HI321.out)) | exact HB.out)); rintro e w62 ⟨rfl, hi, hb, hk⟩; have n0_ := Aside0.mk (hb); have n1_ := Aside0.mk (hi); clear HB; clear HI321; have HB := n0_; have HI321 := n1_; clear n0_ n1_; (try clear hb); (try clear hb2); (try clear hk); (try clear hi)) | (go_at_call 23; (with_reducible refine (octet_Reader_Left.calls g321 t350 t351 t352 t353 t354 w _ ?side1 ?side2 A47.out).mono ?_); (case side1 => repeat (first | (with_reducible first | exact HI321.out | apply IsS70.alloc | apply IsS70.drewN | apply IsS70.drew | apply IsS70.set_0 | apply IsS70.set_1) | exact HI321.out)); (case side2 => repeat (first | (with_reducible first | exact HB.out | apply below_alloc | apply pw_below_drewN | apply below_drew1 | refine below_set ?_ (IsS70.ge HI321.out)) | exact HB.out)); rintro e w63 ⟨rfl, hi, hb, hk⟩; have n0_ := Aside0.mk (hb); have n1_ := Aside0.mk (hi); clear HB; clear HI321; have HB := n0_; have HI321 := n1_; clear n0_ n1_; (try clear hb); (try clear hb2); (try clear hk); (try clear hi)))
                      go_ret
                      exact ⟨by first | rfl | (simp [errW_none, errW_some] <;> rfl) | (simp only [← hji18]; first | rfl | (simp [errW_none, errW_some] <;> rfl)) | (simp [*, errW_none, errW_some] <;> rfl), by repeat (first | (with_reducible first | exact HB.out | apply below_alloc | apply pw_below_drewN | apply below_drew1 | refine below_set ?_ (IsS70.ge HI321.out)) | exact HB.out)⟩
                  · rw [if_neg c46] at H
                    have c46b0 : (t349 == 2) = false := beq_eq_false_iff_ne.mpr c46
                    have c46b1 : (t349 != 2) = true := bne_iff_ne.mpr c46
                    obtain rfl := Option.some.inj H
                    go_wp2_with (first | ((with_reducible refine gate_callee (f := 22) rfl ?_); refine goesL_ (some 105) rfl rfl Try.func22 (by kernel_rfl) rfl #[.pointer (some ⟨g321, 0, none⟩)] rfl (by (try simp only [List.map_toArray, List.map_cons, List.map_nil]); first | done | rfl | (simp only [List.length_drop, List.length_take]; rfl)) ?_; (with_reducible refine (octet_Reader_Err.calls g321 x322000_18 x322001_18 t346 t347 t348 w _ ?side1 ?side2 A43.out).mono ?_); (case side1 => repeat (first | (with_reducible first | exact HI321.out | apply IsS70.alloc | apply IsS70.drewN | apply IsS70.drew | apply IsS70.set_0 | apply IsS70.set_1) | exact HI321.out)); (case side2 => repeat (first | (with_reducible first | exact HB.out | apply below_alloc | apply pw_below_drewN | apply below_drew1 | refine below_set ?_ (IsS70.ge HI321.out)) | exact HB.out)); rintro e w64 ⟨rfl, hi, hb, hk⟩; refine ⟨_, rfl, ?_⟩; have n0_ := Aside0.mk (hb); have n1_ := Aside0.mk (hi); clear HB; clear HI321; have HB := n0_; have HI321 := n1_; clear n0_ n1_; (try clear hb); (try clear hb2); (try clear hk); (try clear hi)) | (go_at_call 24; (with_reducible refine (octet_Reader_End.calls g321 t347 t348 t349 t350 t351 w _ ?side1 ?side2 A45.out).mono ?_); (case side1 => repeat (first | (with_reducible first | exact HI321.out | apply IsS70.alloc | apply IsS70.drewN | apply IsS70.drew | apply IsS70.set_0 | apply IsS70.set_1) | exact HI321.out)); (case side2 => repeat (first | (with_reducible first | exact HB.out | apply below_alloc | apply pw_below_drewN | apply below_drew1 | refine below_set ?_ (IsS70.ge HI321.out)) | exact HB.out)); rintro e w65 ⟨rfl, hi, hb, hk⟩; have n0_ := Aside0.mk (hb); have n1_ := Aside0.mk (hi); clear HB; clear HI321; have HB := n0_; have HI321 := n1_; clear n0_ n1_; (try clear hb); (try clear hb2); (try clear hk); (try clear hi)))
                    go_ret
                    exact ⟨by first | rfl | (simp [errW_none, errW_some] <;> rfl) | (simp only [← hji18]; first | rfl | (simp [errW_none, errW_some] <;> rfl)) | (simp [*, errW_none, errW_some] <;> rfl), by repeat (first | (with_reducible first | exact HB.out | apply below_alloc | apply pw_below_drewN | apply below_drew1 | refine below_set ?_ (IsS70.ge HI321.out)) | exact HB.out)⟩
                · rw [if_neg c44] at H
                  have c44b0 : (t346 == 0) = false := beq_eq_false_iff_ne.mpr c44
                  have c44b1 : (t346 != 0) = true := bne_iff_ne.mpr c44
                  obtain rfl := Option.some.inj H
                  go_wp2_with (first | ((with_reducible refine gate_callee (f := 22) rfl ?_); refine goesL_ (some 105) rfl rfl Try.func22 (by kernel_rfl) rfl #[.pointer (some ⟨g321, 0, none⟩)] rfl (by (try simp only [List.map_toArray, List.map_cons, List.map_nil]); first | done | rfl | (simp only [List.length_drop, List.length_take]; rfl)) ?_; (with_reducible refine (octet_Reader_Err.calls g321 x322000_18 x322001_18 t346 t347 t348 w _ ?side1 ?side2 A43.out).mono ?_); (case side1 => repeat (first | (with_reducible first | exact HI321.out | apply IsS70.alloc | apply IsS70.drewN | apply IsS70.drew | apply IsS70.set_0 | apply IsS70.set_1) | exact HI321.out)); (case side2 => repeat (first | (with_reducible first | exact HB.out | apply below_alloc | apply pw_below_drewN | apply below_drew1 | refine below_set ?_ (IsS70.ge HI321.out)) | exact HB.out)); rintro e w66 ⟨rfl, hi, hb, hk⟩; refine ⟨_, rfl, ?_⟩; have n0_ := Aside0.mk (hb); have n1_ := Aside0.mk (hi); clear HB; clear HI321; have HB := n0_; have HI321 := n1_; clear n0_ n1_; (try clear hb); (try clear hb2); (try clear hk); (try clear hi)))
                  go_ret
                  exact ⟨by first | rfl | (simp [errW_none, errW_some] <;> rfl) | (simp only [← hji18]; first | rfl | (simp [errW_none, errW_some] <;> rfl)) | (simp [*, errW_none, errW_some] <;> rfl), by repeat (first | (with_reducible first | exact HB.out | apply below_alloc | apply pw_below_drewN | apply below_drew1 | refine below_set ?_ (IsS70.ge HI321.out)) | exact HB.out)⟩
              · rw [if_neg c42] at H
                have c42b0 : (decide (x10_9 ≤ (ji18))) = false := by simpa using c42
                clear c42
                replace H := Option.bind_eq_some_iff.mp H
                obtain ⟨⟨t328, t329, t330⟩, A670, H⟩ := H
                replace H : (if t328 = 2 then ((octet_Reader_End.f t329 t330).bind fun bt331 => (if bt331.1 = 2 then ((octet_Reader_Left.f bt331.2.1 bt331.2.2).bind fun bt334 => (if bt334.1 = 0 then ((octet_Reader_Flag.f bt334.2.1 bt334.2.2).bind fun bt337 => (if bt337.1 = true then (some false) else ((octet_Reader_Num.f kj18 bt337.2.1 bt337.2.2 9).bind fun bt340 => (if bt340.1 = 0 then ((octet_Reader_Text.f kj18 bt340.2.1 bt340.2.2 9).bind fun bt343 => (some (bt343.1.toList == ([] : List UInt8)))) else (some false))))) else (some false))) else (some false))) else (some false)) = some r := H
                have A67 := Aside0.mk A670
                clear A670
                by_cases c68 : t328 = 2
                · rw [if_pos c68] at H
                  have c68b0 : (t328 == 2) = true := beq_iff_eq.mpr c68
                  have c68b1 : (t328 != 2) = false := bne_eq_false_iff_eq.mpr c68
                  clear c68
                  replace H := Option.bind_eq_some_iff.mp H
                  obtain ⟨⟨t331, t332, t333⟩, A690, H⟩ := H
                  replace H : (if t331 = 2 then ((octet_Reader_Left.f t332 t333).bind fun bt334 => (if bt334.1 = 0 then ((octet_Reader_Flag.f bt334.2.1 bt334.2.2).bind fun bt337 => (if bt337.1 = true then (some false) else ((octet_Reader_Num.f kj18 bt337.2.1 bt337.2.2 9).bind fun bt340 => (if bt340.1 = 0 then ((octet_Reader_Text.f kj18 bt340.2.1 bt340.2.2 9).bind fun bt343 => (some (bt343.1.toList == ([] : List UInt8)))) else (some false))))) else (some false))) else (some false)) = some r := H
                  have A69 := Aside0.mk A690
                  clear A690
                  by_cases c70 : t331 = 2
                  · rw [if_pos c70] at H
                    have c70b0 : (t331 == 2) = true := beq_iff_eq.mpr c70
                    have c70b1 : (t331 != 2) = false := bne_eq_false_iff_eq.mpr c70
                    clear c70
                    replace H := Option.bind_eq_some_iff.mp H
                    obtain ⟨⟨t334, t335, t336⟩, A710, H⟩ := H
                    replace H : (if t334 = 0 then ((octet_Reader_Flag.f t335 t336).bind fun bt337 => (if bt337.1 = true then (some false) else ((octet_Reader_Num.f kj18 bt337.2.1 bt337.2.2 9).bind fun bt340 => (if bt340.1 = 0 then ((octet_Reader_Text.f kj18 bt340.2.1 bt340.2.2 9).bind fun bt343 => (some (bt343.1.toList == ([] : List UInt8)))) else (some false))))) else (some false)) = some r := H
                    have A71 := Aside0.mk A710
                    clear A710
                    by_cases c72 : t334 = 0
                    · rw [if_pos c72] at H
                      have c72b0 : (t334 == 0) = true := beq_iff_eq.mpr c72
                      have c72b1 : (t334 != 0) = false := bne_eq_false_iff_eq.mpr c72
                      clear c72
                      replace H := Option.bind_eq_some_iff.mp H
                      obtain ⟨⟨t337, t338, t339⟩, A730, H⟩ := H
                      replace H : (if t337 = true then (some false) else ((octet_Reader_Num.f kj18 t338 t339 9).bind fun bt340 => (if bt340.1 = 0 then ((octet_Reader_Text.f kj18 bt340.2.1 bt340.2.2 9).bind fun bt343 => (some (bt343.1.toList == ([] : List UInt8)))) else (some false)))) = some r := H
                      have A73 := Aside0.mk A730
                      clear A730
                      by_cases c74 : t337 = true
                      · subst c74
                        have H1 : (some false) = some r := by rw [if_pos rfl] at H; exact H
                        clear H
                        have H := H1
                        clear H1
                        obtain rfl := Option.some.inj H
                        go_wp2_with (first | ((with_reducible refine gate_callee (f := 22) rfl ?_); refine goesL_ (some 77) rfl rfl Try.func22 (by kernel_rfl) rfl #[.pointer (some ⟨g321, 0, none⟩)] rfl (by (try simp only [List.map_toArray, List.map_cons, List.map_nil]); first | done | rfl | (simp only [List.length_drop, List.length_take]; rfl)) ?_; (with_reducible refine (octet_Reader_Err.calls g321 x322000_18 x322001_18 t328 t329 t330 w _ ?side1 ?side2 A67.out).mono ?_); (case side1 => repeat (first | (with_reducible first | exact HI321.out | apply IsS70.alloc | apply IsS70.drewN | apply IsS70.drew | apply IsS70.set_0 | apply IsS70.set_1) | exact HI321.out)); (case side2 => repeat (first | (with_reducible first | exact HB.out | apply below_alloc | apply pw_below_drewN | apply below_drew1 | refine below_set ?_ (IsS70.ge HI321.out)) | exact HB.out)); rintro e w75 ⟨rfl, hi, hb, hk⟩; refine ⟨_, rfl, ?_⟩; have n0_ := Aside0.mk (hb); have n1_ := Aside0.mk (hi); clear HB; clear HI321; have HB := n0_; have HI321 := n1_; clear n0_ n1_; (try clear hb); (try clear hb2); (try clear hk); (try clear hi)) | (go_at_call 24; (with_reducible refine (octet_Reader_End.calls g321 t329 t330 t331 t332 t333 w _ ?side1 ?side2 A69.out).mono ?_); (case side1 => repeat (first | (with_reducible first | exact HI321.out | apply IsS70.alloc | apply IsS70.drewN | apply IsS70.drew | apply IsS70.set_0 | apply IsS70.set_1) | exact HI321.out)); (case side2 => repeat (first | (with_reducible first | exact HB.out | apply below_alloc | apply pw_below_drewN | apply below_drew1 | refine below_set ?_ (IsS70.ge HI321.out)) | exact HB.out)); rintro e w76 ⟨rfl, hi, hb, hk⟩; have n0_ := Aside0.mk (hb); have n1_ := Aside0.mk (hi); clear HB; clear HI321; have HB := n0_; have HI321 := n1_; clear n0_ n1_; (try clear hb); (try clear hb2); (try clear hk); (try clear hi)) | (go_at_call 23; (with_reducible refine (octet_Reader_Left.calls g321 t332 t333 t334 t335 t336 w _ ?side1 ?side2 A71.out).mono ?_); (case side1 => repeat (first | (with_reducible first | exact HI321.out | apply IsS70.alloc | apply IsS70.drewN | apply IsS70.drew | apply IsS70.set_0 | apply IsS70.set_1) | exact HI321.out)); (case side2 => repeat (first | (with_reducible first | exact HB.out | apply below_alloc | apply pw_below_drewN | apply below_drew1 | refine below_set ?_ (IsS70.ge HI321.out)) | exact HB.out)); rintro e w77 ⟨rfl, hi, hb, hk⟩; have n0_ := Aside0.mk (hb); have n1_ := Aside0.mk (hi); clear HB; clear HI321; have HB := n0_; have HI321 := n1_; clear n0_ n1_; (try clear hb); (try clear hb2); (try clear hk); (try clear hi)) | (go_at_call 27; (with_reducible refine (octet_Reader_Flag.calls g321 t335 t336 true t338 t339 w _ ?side1 ?side2 A73.out).mono ?_); (case side1 => repeat (first | (with_reducible first | exact HI321.out | apply IsS70.alloc | apply IsS70.drewN | apply IsS70.drew | apply IsS70.set_0 | apply IsS70.set_1) | exact HI321.out)); (case side2 => repeat (first | (with_reducible first | exact HB.out | apply below_alloc | apply pw_below_drewN | apply below_drew1 | refine below_set ?_ (IsS70.ge HI321.out)) | exact HB.out)); rintro e w78 ⟨rfl, hi, hb, hk⟩; have n0_ := Aside0.mk (hb); have n1_ := Aside0.mk (hi); clear HB; clear HI321; have HB := n0_; have HI321 := n1_; clear n0_ n1_; (try clear hb); (try clear hb2); (try clear hk); (try clear hi)))
                        go_ret
                        exact ⟨by first | rfl | (simp [errW_none, errW_some] <;> rfl) | (simp only [← hji18]; first | rfl | (simp [errW_none, errW_some] <;> rfl)) | (simp [*, errW_none, errW_some] <;> rfl), by repeat (first | (with_reducible first | exact HB.out | apply below_alloc | apply pw_below_drewN | apply below_drew1 | refine below_set ?_ (IsS70.ge HI321.out)) | exact HB.out)⟩
                      · replace c74 := Bool.eq_false_iff.mpr c74
                        subst c74
                        have H1 : ((octet_Reader_Num.f kj18 t338 t339 9).bind fun bt340 => (if bt340.1 = 0 then ((octet_Reader_Text.f kj18 bt340.2.1 bt340.2.2 9).bind fun bt343 => (some (bt343.1.toList == ([] : List UInt8)))) else (some false))) = some r := by rw [if_neg (show ¬ (false = true) by decide)] at H; exact H
                        clear H
                        have H := H1
                        clear H1
                        replace H := Option.bind_eq_some_iff.mp H
                        obtain ⟨⟨t340, t341, t342⟩, A790, H⟩ := H
                        replace H : (if t340 = 0 then ((octet_Reader_Text.f kj18 t341 t342 9).bind fun bt343 => (some (bt343.1.toList == ([] : List UInt8)))) else (some false)) = some r := H
                        have A79 := Aside0.mk A790
                        clear A790
                        by_cases c80 : t340 = 0
                        · rw [if_pos c80] at H
                          have c80b0 : (t340 == 0) = true := beq_iff_eq.mpr c80
                          have c80b1 : (t340 != 0) = false := bne_eq_false_iff_eq.mpr c80
                          clear c80
                          replace H := Option.bind_eq_some_iff.mp H
                          obtain ⟨⟨t343, t344, t345⟩, A810, H⟩ := H
                          replace H : (some (t343.toList == ([] : List UInt8))) = some r := H
                          have A81 := Aside0.mk A810
                          clear A810
                          obtain rfl := Option.some.inj H
                          go_wp2_with (first | ((with_reducible refine gate_callee (f := 22) rfl ?_); refine goesL_ (some 77) rfl rfl Try.func22 (by kernel_rfl) rfl #[.pointer (some ⟨g321, 0, none⟩)] rfl (by (try simp only [List.map_toArray, List.map_cons, List.map_nil]); first | done | rfl | (simp only [List.length_drop, List.length_take]; rfl)) ?_; (with_reducible refine (octet_Reader_Err.calls g321 x322000_18 x322001_18 t328 t329 t330 w _ ?side1 ?side2 A67.out).mono ?_); (case side1 => repeat (first | (with_reducible first | exact HI321.out | apply IsS70.alloc | apply IsS70.drewN | apply IsS70.drew | apply IsS70.set_0 | apply IsS70.set_1) | exact HI321.out)); (case side2 => repeat (first | (with_reducible first | exact HB.out | apply below_alloc | apply pw_below_drewN | apply below_drew1 | refine below_set ?_ (IsS70.ge HI321.out)) | exact HB.out)); rintro e w82 ⟨rfl, hi, hb, hk⟩; refine ⟨_, rfl, ?_⟩; have n0_ := Aside0.mk (hb); have n1_ := Aside0.mk (hi); clear HB; clear HI321; have HB := n0_; have HI321 := n1_; clear n0_ n1_; (try clear hb); (try clear hb2); (try clear hk); (try clear hi)) | (go_at_call 24; (with_reducible refine (octet_Reader_End.calls g321 t329 t330 t331 t332 t333 w _ ?side1 ?side2 A69.out).mono ?_); (case side1 => repeat (first | (with_reducible first | exact HI321.out | apply IsS70.alloc | apply IsS70.drewN | apply IsS70.drew | apply IsS70.set_0 | apply IsS70.set_1) | exact HI321.out)); (case side2 => repeat (first | (with_reducible first | exact HB.out | apply below_alloc | apply pw_below_drewN | apply below_drew1 | refine below_set ?_ (IsS70.ge HI321.out)) | exact HB.out)); rintro e w83 ⟨rfl, hi, hb, hk⟩; have n0_ := Aside0.mk (hb); have n1_ := Aside0.mk (hi); clear HB; clear HI321; have HB := n0_; have HI321 := n1_; clear n0_ n1_; (try clear hb); (try clear hb2); (try clear hk); (try clear hi)) | (go_at_call 23; (with_reducible refine (octet_Reader_Left.calls g321 t332 t333 t334 t335 t336 w _ ?side1 ?side2 A71.out).mono ?_); (case side1 => repeat (first | (with_reducible first | exact HI321.out | apply IsS70.alloc | apply IsS70.drewN | apply IsS70.drew | apply IsS70.set_0 | apply IsS70.set_1) | exact HI321.out)); (case side2 => repeat (first | (with_reducible first | exact HB.out | apply below_alloc | apply pw_below_drewN | apply below_drew1 | refine below_set ?_ (IsS70.ge HI321.out)) | exact HB.out)); rintro e w84 ⟨rfl, hi, hb, hk⟩; have n0_ := Aside0.mk (hb); have n1_ := Aside0.mk (hi); clear HB; clear HI321; have HB := n0_; have HI321 := n1_; clear n0_ n1_; (try clear hb); (try clear hb2); (try clear hk); (try clear hi)) | (go_at_call 27; (with_reducible refine (octet_Reader_Flag.calls g321 t335 t336 false t338 t339 w _ ?side1 ?side2 A73.out).mono ?_); (case side1 => repeat (first | (with_reducible first | exact HI321.out | apply IsS70.alloc | apply IsS70.drewN | apply IsS70.drew | apply IsS70.set_0 | apply IsS70.set_1) | exact HI321.out)); (case side2 => repeat (first | (with_reducible first | exact HB.out | apply below_alloc | apply pw_below_drewN | apply below_drew1 | refine below_set ?_ (IsS70.ge HI321.out)) | exact HB.out)); rintro e w85 ⟨rfl, hi, hb, hk⟩; have n0_ := Aside0.mk (hb); have n1_ := Aside0.mk (hi); clear HB; clear HI321; have HB := n0_; have HI321 := n1_; clear n0_ n1_; (try clear hb); (try clear hb2); (try clear hk); (try clear hi)) | (go_at_call 25; (with_reducible refine (octet_Reader_Num.calls kj18 g321 t338 t339 9 t340 t341 t342 w _ ?side1 ?side2 A79.out).mono ?_); (case side1 => repeat (first | (with_reducible first | exact HI321.out | apply IsS70.alloc | apply IsS70.drewN | apply IsS70.drew | apply IsS70.set_0 | apply IsS70.set_1) | exact HI321.out)); (case side2 => repeat (first | (with_reducible first | exact HB.out | apply below_alloc | apply pw_below_drewN | apply below_drew1 | refine below_set ?_ (IsS70.ge HI321.out)) | exact HB.out)); rintro e w86 ⟨rfl, hi, hb, hk⟩; have n0_ := Aside0.mk (hb); have n1_ := Aside0.mk (hi); clear HB; clear HI321; have HB := n0_; have HI321 := n1_; clear n0_ n1_; (try clear hb); (try clear hb2); (try clear hk); (try clear hi)) | (go_at_call 26; (with_reducible refine (octet_Reader_Text.calls kj18 g321 t341 t342 9 t343 t344 t345 w _ ?side1 ?side2 A81.out).mono ?_); (case side1 => repeat (first | (with_reducible first | exact HI321.out | apply IsS70.alloc | apply IsS70.drewN | apply IsS70.drew | apply IsS70.set_0 | apply IsS70.set_1) | exact HI321.out)); (case side2 => repeat (first | (with_reducible first | exact HB.out | apply below_alloc | apply pw_below_drewN | apply below_drew1 | refine below_set ?_ (IsS70.ge HI321.out)) | exact HB.out)); rintro e w87 ⟨rfl, hi, hb, hk⟩; have n0_ := Aside0.mk (hb); have n1_ := Aside0.mk (hi); clear HB; clear HI321; have HB := n0_; have HI321 := n1_; clear n0_ n1_; (try clear hb); (try clear hb2); (try clear hk); (try clear hi)))
                          go_ret
                          exact ⟨by first | rfl | (simp [errW_none, errW_some] <;> rfl) | (simp only [← hji18]; first | rfl | (simp [errW_none, errW_some] <;> rfl)) | (simp [*, errW_none, errW_some] <;> rfl), by repeat (first | (with_reducible first | exact HB.out | apply below_alloc | apply pw_below_drewN | apply below_drew1 | refine below_set ?_ (IsS70.ge HI321.out)) | exact HB.out)⟩
                        · rw [if_neg c80] at H
                          have c80b0 : (t340 == 0) = false := beq_eq_false_iff_ne.mpr c80
                          have c80b1 : (t340 != 0) = true := bne_iff_ne.mpr c80
                          obtain rfl := Option.some.inj H
                          go_wp2_with (first | ((with_reducible refine gate_callee (f := 22) rfl ?_); refine goesL_ (some 77) rfl rfl Try.func22 (by kernel_rfl) rfl #[.pointer (some ⟨g321, 0, none⟩)] rfl (by (try simp only [List.map_toArray, List.map_cons, List.map_nil]); first | done | rfl | (simp only [List.length_drop, List.length_take]; rfl)) ?_; (with_reducible refine (octet_Reader_Err.calls g321 x322000_18 x322001_18 t328 t329 t330 w _ ?side1 ?side2 A67.out).mono ?_); (case side1 => repeat (first | (with_reducible first | exact HI321.out | apply IsS70.alloc | apply IsS70.drewN | apply IsS70.drew | apply IsS70.set_0 | apply IsS70.set_1) | exact HI321.out)); (case side2 => repeat (first | (with_reducible first | exact HB.out | apply below_alloc | apply pw_below_drewN | apply below_drew1 | refine below_set ?_ (IsS70.ge HI321.out)) | exact HB.out)); rintro e w88 ⟨rfl, hi, hb, hk⟩; refine ⟨_, rfl, ?_⟩; have n0_ := Aside0.mk (hb); have n1_ := Aside0.mk (hi); clear HB; clear HI321; have HB := n0_; have HI321 := n1_; clear n0_ n1_; (try clear hb); (try clear hb2); (try clear hk); (try clear hi)) | (go_at_call 24; (with_reducible refine (octet_Reader_End.calls g321 t329 t330 t331 t332 t333 w _ ?side1 ?side2 A69.out).mono ?_); (case side1 => repeat (first | (with_reducible first | exact HI321.out | apply IsS70.alloc | apply IsS70.drewN | apply IsS70.drew | apply IsS70.set_0 | apply IsS70.set_1) | exact HI321.out)); (case side2 => repeat (first | (with_reducible first | exact HB.out | apply below_alloc | apply pw_below_drewN | apply below_drew1 | refine below_set ?_ (IsS70.ge HI321.out)) | exact HB.out)); rintro e w89 ⟨rfl, hi, hb, hk⟩; have n0_ := Aside0.mk (hb); have n1_ := Aside0.mk (hi); clear HB; clear HI321; have HB := n0_; have HI321 := n1_; clear n0_ n1_; (try clear hb); (try clear hb2); (try clear hk); (try clear hi)) | (go_at_call 23; (with_reducible refine (octet_Reader_Left.calls g321 t332 t333 t334 t335 t336 w _ ?side1 ?side2 A71.out).mono ?_); (case side1 => repeat (first | (with_reducible first | exact HI321.out | apply IsS70.alloc | apply IsS70.drewN | apply IsS70.drew | apply IsS70.set_0 | apply IsS70.set_1) | exact HI321.out)); (case side2 => repeat (first | (with_reducible first | exact HB.out | apply below_alloc | apply pw_below_drewN | apply below_drew1 | refine below_set ?_ (IsS70.ge HI321.out)) | exact HB.out)); rintro e w90 ⟨rfl, hi, hb, hk⟩; have n0_ := Aside0.mk (hb); have n1_ := Aside0.mk (hi); clear HB; clear HI321; have HB := n0_; have HI321 := n1_; clear n0_ n1_; (try clear hb); (try clear hb2); (try clear hk); (try clear hi)) | (go_at_call 27; (with_reducible refine (octet_Reader_Flag.calls g321 t335 t336 false t338 t339 w _ ?side1 ?side2 A73.out).mono ?_); (case side1 => repeat (first | (with_reducible first | exact HI321.out | apply IsS70.alloc | apply IsS70.drewN | apply IsS70.drew | apply IsS70.set_0 | apply IsS70.set_1) | exact HI321.out)); (case side2 => repeat (first | (with_reducible first | exact HB.out | apply below_alloc | apply pw_below_drewN | apply below_drew1 | refine below_set ?_ (IsS70.ge HI321.out)) | exact HB.out)); rintro e w91 ⟨rfl, hi, hb, hk⟩; have n0_ := Aside0.mk (hb); have n1_ := Aside0.mk (hi); clear HB; clear HI321; have HB := n0_; have HI321 := n1_; clear n0_ n1_; (try clear hb); (try clear hb2); (try clear hk); (try clear hi)) | (go_at_call 25; (with_reducible refine (octet_Reader_Num.calls kj18 g321 t338 t339 9 t340 t341 t342 w _ ?side1 ?side2 A79.out).mono ?_); (case side1 => repeat (first | (with_reducible first | exact HI321.out | apply IsS70.alloc | apply IsS70.drewN | apply IsS70.drew | apply IsS70.set_0 | apply IsS70.set_1) | exact HI321.out)); (case side2 => repeat (first | (with_reducible first | exact HB.out | apply below_alloc | apply pw_below_drewN | apply below_drew1 | refine below_set ?_ (IsS70.ge HI321.out)) | exact HB.out)); rintro e w92 ⟨rfl, hi, hb, hk⟩; have n0_ := Aside0.mk (hb); have n1_ := Aside0.mk (hi); clear HB; clear HI321; have HB := n0_; have HI321 := n1_; clear n0_ n1_; (try clear hb); (try clear hb2); (try clear hk); (try clear hi)))
                          go_ret
                          exact ⟨by first | rfl | (simp [errW_none, errW_some] <;> rfl) | (simp only [← hji18]; first | rfl | (simp [errW_none, errW_some] <;> rfl)) | (simp [*, errW_none, errW_some] <;> rfl), by repeat (first | (with_reducible first | exact HB.out | apply below_alloc | apply pw_below_drewN | apply below_drew1 | refine below_set ?_ (IsS70.ge HI321.out)) | exact HB.out)⟩
                    · rw [if_neg c72] at H
                      have c72b0 : (t334 == 0) = false := beq_eq_false_iff_ne.mpr c72
                      have c72b1 : (t334 != 0) = true := bne_iff_ne.mpr c72
                      obtain rfl := Option.some.inj H
                      go_wp2_with (first | ((with_reducible refine gate_callee (f := 22) rfl ?_); refine goesL_ (some 77) rfl rfl Try.func22 (by kernel_rfl) rfl #[.pointer (some ⟨g321, 0, none⟩)] rfl (by (try simp only [List.map_toArray, List.map_cons, List.map_nil]); first | done | rfl | (simp only [List.length_drop, List.length_take]; rfl)) ?_; (with_reducible refine (octet_Reader_Err.calls g321 x322000_18 x322001_18 t328 t329 t330 w _ ?side1 ?side2 A67.out).mono ?_); (case side1 => repeat (first | (with_reducible first | exact HI321.out | apply IsS70.alloc | apply IsS70.drewN | apply IsS70.drew | apply IsS70.set_0 | apply IsS70.set_1) | exact HI321.out)); (case side2 => repeat (first | (with_reducible first | exact HB.out | apply below_alloc | apply pw_below_drewN | apply below_drew1 | refine below_set ?_ (IsS70.ge HI321.out)) | exact HB.out)); rintro e w93 ⟨rfl, hi, hb, hk⟩; refine ⟨_, rfl, ?_⟩; have n0_ := Aside0.mk (hb); have n1_ := Aside0.mk (hi); clear HB; clear HI321; have HB := n0_; have HI321 := n1_; clear n0_ n1_; (try clear hb); (try clear hb2); (try clear hk); (try clear hi)) | (go_at_call 24; (with_reducible refine (octet_Reader_End.calls g321 t329 t330 t331 t332 t333 w _ ?side1 ?side2 A69.out).mono ?_); (case side1 => repeat (first | (with_reducible first | exact HI321.out | apply IsS70.alloc | apply IsS70.drewN | apply IsS70.drew | apply IsS70.set_0 | apply IsS70.set_1) | exact HI321.out)); (case side2 => repeat (first | (with_reducible first | exact HB.out | apply below_alloc | apply pw_below_drewN | apply below_drew1 | refine below_set ?_ (IsS70.ge HI321.out)) | exact HB.out)); rintro e w94 ⟨rfl, hi, hb, hk⟩; have n0_ := Aside0.mk (hb); have n1_ := Aside0.mk (hi); clear HB; clear HI321; have HB := n0_; have HI321 := n1_; clear n0_ n1_; (try clear hb); (try clear hb2); (try clear hk); (try clear hi)) | (go_at_call 23; (with_reducible refine (octet_Reader_Left.calls g321 t332 t333 t334 t335 t336 w _ ?side1 ?side2 A71.out).mono ?_); (case side1 => repeat (first | (with_reducible first | exact HI321.out | apply IsS70.alloc | apply IsS70.drewN | apply IsS70.drew | apply IsS70.set_0 | apply IsS70.set_1) | exact HI321.out)); (case side2 => repeat (first | (with_reducible first | exact HB.out | apply below_alloc | apply pw_below_drewN | apply below_drew1 | refine below_set ?_ (IsS70.ge HI321.out)) | exact HB.out)); rintro e w95 ⟨rfl, hi, hb, hk⟩; have n0_ := Aside0.mk (hb); have n1_ := Aside0.mk (hi); clear HB; clear HI321; have HB := n0_; have HI321 := n1_; clear n0_ n1_; (try clear hb); (try clear hb2); (try clear hk); (try clear hi)))
                      go_ret
                      exact ⟨by first | rfl | (simp [errW_none, errW_some] <;> rfl) | (simp only [← hji18]; first | rfl | (simp [errW_none, errW_some] <;> rfl)) | (simp [*, errW_none, errW_some] <;> rfl), by repeat (first | (with_reducible first | exact HB.out | apply below_alloc | apply pw_below_drewN | apply below_drew1 | refine below_set ?_ (IsS70.ge HI321.out)) | exact HB.out)⟩
                  · rw [if_neg c70] at H
                    have c70b0 : (t331 == 2) = false := beq_eq_false_iff_ne.mpr c70
                    have c70b1 : (t331 != 2) = true := bne_iff_ne.mpr c70
                    obtain rfl := Option.some.inj H
                    go_wp2_with (first | ((with_reducible refine gate_callee (f := 22) rfl ?_); refine goesL_ (some 77) rfl rfl Try.func22 (by kernel_rfl) rfl #[.pointer (some ⟨g321, 0, none⟩)] rfl (by (try simp only [List.map_toArray, List.map_cons, List.map_nil]); first | done | rfl | (simp only [List.length_drop, List.length_take]; rfl)) ?_; (with_reducible refine (octet_Reader_Err.calls g321 x322000_18 x322001_18 t328 t329 t330 w _ ?side1 ?side2 A67.out).mono ?_); (case side1 => repeat (first | (with_reducible first | exact HI321.out | apply IsS70.alloc | apply IsS70.drewN | apply IsS70.drew | apply IsS70.set_0 | apply IsS70.set_1) | exact HI321.out)); (case side2 => repeat (first | (with_reducible first | exact HB.out | apply below_alloc | apply pw_below_drewN | apply below_drew1 | refine below_set ?_ (IsS70.ge HI321.out)) | exact HB.out)); rintro e w96 ⟨rfl, hi, hb, hk⟩; refine ⟨_, rfl, ?_⟩; have n0_ := Aside0.mk (hb); have n1_ := Aside0.mk (hi); clear HB; clear HI321; have HB := n0_; have HI321 := n1_; clear n0_ n1_; (try clear hb); (try clear hb2); (try clear hk); (try clear hi)) | (go_at_call 24; (with_reducible refine (octet_Reader_End.calls g321 t329 t330 t331 t332 t333 w _ ?side1 ?side2 A69.out).mono ?_); (case side1 => repeat (first | (with_reducible first | exact HI321.out | apply IsS70.alloc | apply IsS70.drewN | apply IsS70.drew | apply IsS70.set_0 | apply IsS70.set_1) | exact HI321.out)); (case side2 => repeat (first | (with_reducible first | exact HB.out | apply below_alloc | apply pw_below_drewN | apply below_drew1 | refine below_set ?_ (IsS70.ge HI321.out)) | exact HB.out)); rintro e w97 ⟨rfl, hi, hb, hk⟩; have n0_ := Aside0.mk (hb); have n1_ := Aside0.mk (hi); clear HB; clear HI321; have HB := n0_; have HI321 := n1_; clear n0_ n1_; (try clear hb); (try clear hb2); (try clear hk); (try clear hi)))
                    go_ret
                    exact ⟨by first | rfl | (simp [errW_none, errW_some] <;> rfl) | (simp only [← hji18]; first | rfl | (simp [errW_none, errW_some] <;> rfl)) | (simp [*, errW_none, errW_some] <;> rfl), by repeat (first | (with_reducible first | exact HB.out | apply below_alloc | apply pw_below_drewN | apply below_drew1 | refine below_set ?_ (IsS70.ge HI321.out)) | exact HB.out)⟩
                · rw [if_neg c68] at H
                  have c68b0 : (t328 == 2) = false := beq_eq_false_iff_ne.mpr c68
                  have c68b1 : (t328 != 2) = true := bne_iff_ne.mpr c68
                  obtain rfl := Option.some.inj H
                  go_wp2_with (first | ((with_reducible refine gate_callee (f := 22) rfl ?_); refine goesL_ (some 77) rfl rfl Try.func22 (by kernel_rfl) rfl #[.pointer (some ⟨g321, 0, none⟩)] rfl (by (try simp only [List.map_toArray, List.map_cons, List.map_nil]); first | done | rfl | (simp only [List.length_drop, List.length_take]; rfl)) ?_; (with_reducible refine (octet_Reader_Err.calls g321 x322000_18 x322001_18 t328 t329 t330 w _ ?side1 ?side2 A67.out).mono ?_); (case side1 => repeat (first | (with_reducible first | exact HI321.out | apply IsS70.alloc | apply IsS70.drewN | apply IsS70.drew | apply IsS70.set_0 | apply IsS70.set_1) | exact HI321.out)); (case side2 => repeat (first | (with_reducible first | exact HB.out | apply below_alloc | apply pw_below_drewN | apply below_drew1 | refine below_set ?_ (IsS70.ge HI321.out)) | exact HB.out)); rintro e w98 ⟨rfl, hi, hb, hk⟩; refine ⟨_, rfl, ?_⟩; have n0_ := Aside0.mk (hb); have n1_ := Aside0.mk (hi); clear HB; clear HI321; have HB := n0_; have HI321 := n1_; clear n0_ n1_; (try clear hb); (try clear hb2); (try clear hk); (try clear hi)))
                  go_ret
                  exact ⟨by first | rfl | (simp [errW_none, errW_some] <;> rfl) | (simp only [← hji18]; first | rfl | (simp [errW_none, errW_some] <;> rfl)) | (simp [*, errW_none, errW_some] <;> rfl), by repeat (first | (with_reducible first | exact HB.out | apply below_alloc | apply pw_below_drewN | apply below_drew1 | refine below_set ?_ (IsS70.ge HI321.out)) | exact HB.out)⟩
  · replace c6 := Bool.eq_false_iff.mpr c6
    subst c6
    have H1 : (some false) = some r := by rw [if_neg (show ¬ (false = true) by decide)] at H; exact H
    clear H
    have H := H1
    clear H1
    obtain rfl := Option.some.inj H
    go_enter Try.func10, Try.ntmps10
    go_wp2_with (first | ((with_reducible refine gate_callee (f := 16) rfl ?_); refine goesL_ (some 15) rfl rfl Try.func16 (by kernel_rfl) rfl #[] rfl (by (try simp only [List.map_toArray, List.map_cons, List.map_nil]); first | done | rfl | (simp only [List.length_drop, List.length_take]; rfl)) ?_; (with_reducible refine (mailbaglaw01_head.calls k  false _ A5.out).mono ?_); rintro e w99 ⟨rfl, hb⟩; refine ⟨_, rfl, ?_⟩; have n0_ := Aside0.mk (below_step (by repeat (first | (with_reducible first | exact HB.out | apply below_alloc | apply pw_below_drewN | apply below_drew1) | exact HB.out)) hb); clear HB; have HB := n0_; clear n0_; (try clear hb); (try clear hb2); (try clear hk); (try clear hi)))
    go_ret
    exact ⟨by first | rfl | (simp [errW_none, errW_some] <;> rfl) | (simp [*, errW_none, errW_some] <;> rfl), by repeat (first | (with_reducible first | exact HB.out | apply below_alloc | apply pw_below_drewN | apply below_drew1) | exact HB.out)⟩

/-- THE ONE PURE STATEMENT of mailbaglaw01_OctetMosts: yours. -/
def mailbaglaw01_OctetMosts.Pure : Prop := ∀ (a0 : Int) (a1 : Int) (a2 : ByteArray) (a3 : Bool), (Lit.int .i64 a0).wf = true → (Lit.int .i64 a1).wf = true → a2.size ≤ 140737488351232 → ∃ k, mailbaglaw01_OctetMosts.f k a0 a1 a2 a3 = some true
theorem mailbaglaw01_OctetMosts.walk (P : mailbaglaw01_OctetMosts.Pure) (a0 : Int) (a1 : Int) (a2 : ByteArray) (a3 : Bool) (w : World) (w0 : (Lit.int .i64 a0).wf = true) (w1 : (Lit.int .i64 a1).wf = true) (w2 : a2.size ≤ 140737488351232) :
    Calls Try.prog 10 #[.int .i64 a0, .int .i64 a1, .string a2, .bool a3] w fun e w' => e = .returned (.bool true) ∧ Below w.heap.size w w' := by
  obtain ⟨k, h⟩ := P a0 a1 a2 a3 w0 w1 w2
  refine (mailbaglaw01_OctetMosts.calls k a0 a1 a2 a3 true w h).mono ?_
  rintro e w' ⟨rfl, hd⟩
  exact ⟨rfl, hd⟩

end Go.Proofs.Ythpgpljpadlegaa.Q
