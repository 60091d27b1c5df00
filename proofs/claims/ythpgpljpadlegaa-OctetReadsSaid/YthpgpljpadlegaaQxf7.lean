/- By a program of this session, out of the translation as Lean prints it: what the Go code computes, and that it does. -/
import Derived.Test.YthpgpljpadlegaaQx0
import Derived.Test.YthpgpljpadlegaaQxf16
import Derived.Test.YthpgpljpadlegaaQxf20
import Derived.Test.YthpgpljpadlegaaQxf22
import Derived.Test.YthpgpljpadlegaaQxf23
import Derived.Test.YthpgpljpadlegaaQxf25
import Derived.Test.YthpgpljpadlegaaQxf26
import Derived.Test.YthpgpljpadlegaaQxf27
import Derived.Test.YthpgpljpadlegaaQxf28
namespace Go.Proofs.Ythpgpljpadlegaa.Q
open Go.RowKit Go.Proofs.YthpgpljpadlegaaW.PrintWords Go.Proofs.YthpgpljpadlegaaW.PrintLast Go.Proofs.YthpgpljpadlegaaW.PrintMore
attribute [local go_sem] max2_int min2_int max_two min_two max_three min_three max_four min_four Aid.leq_str Aid.gtr_str Aid.geq_str   -- for this text's walks alone
set_option linter.unusedVariables false
set_option linter.unusedSimpArgs false

/-! ### mailbaglaw01_OctetReads: function 7 -/
mutual
def mailbaglaw01_OctetReads.j0 : Nat → ByteArray → List Int → Bool → Option (Bool)
  | 0, _, _, _ => none
  | k + 1, x0, x1, x20 => if x20 = true then (some true) else ((octet_Read.f x0).bind fun bt205 => (mailbaglaw01_OctetReads.l0 k x0 0 x1 (x1.length : Int) 0 bt205.1 bt205.2))
def mailbaglaw01_OctetReads.l0 : Nat → ByteArray → Int → List Int → Int → Int → ByteArray → Bool → Option (Bool)
  | 0, _, _, _, _, _, _, _ => none
  | k + 1, x0, x6, x23, x24, x25, x208000, x208001 => if x25 < x24 then (if 0 ≤ x25 then (if x25 < (x23.length : Int) then (if (Go.bits .and .i64 (rd x23 x25) 3) = 0 then ((octet_Reader_Num.f k x208000 x208001 9223372036854775807).bind fun bt210 => (mailbaglaw01_OctetReads.j2 k x0 x6 x23 x24 x25 bt210.2.1 bt210.2.2 (Go.bits .and .i64 (rd x23 x25) 3) bt210.1 (⟨#[]⟩ : ByteArray) false)) else (if (Go.bits .and .i64 (rd x23 x25) 3) = 1 then ((octet_Reader_Text.f k x208000 x208001 1000).bind fun bt213 => (mailbaglaw01_OctetReads.j2 k x0 x6 x23 x24 x25 bt213.2.1 bt213.2.2 (Go.bits .and .i64 (rd x23 x25) 3) 0 bt213.1 false)) else ((octet_Reader_Flag.f x208000 x208001).bind fun bt216 => (mailbaglaw01_OctetReads.j2 k x0 x6 x23 x24 x25 bt216.2.1 bt216.2.2 (Go.bits .and .i64 (rd x23 x25) 3) 0 (⟨#[]⟩ : ByteArray) bt216.1)))) else (none)) else (none)) else (some true)
def mailbaglaw01_OctetReads.j2 : Nat → ByteArray → Int → List Int → Int → Int → ByteArray → Bool → Int → Int → ByteArray → Bool → Option (Bool)
  | 0, _, _, _, _, _, _, _, _, _, _, _ => none
  | k + 1, x0, x6, x23, x24, x25, x208000, x208001, x210000, x210001, x210002, x210003 => (octet_Reader_Err.f x208000 x208001).bind fun bt219 => (if bt219.1 = 0 then ((mailbaglaw01_lay.f k (([(⟨x210000, x210001, x210002, x210003⟩ : S42)] : List (S42)))).bind fun t228 => (if (wrap64 ((x0.size : Int) - x6)) < (t228.size : Int) then (mailbaglaw01_OctetReads.j3 k x0 x6 t228 x23 x24 x25 true bt219.2.1 bt219.2.2) else (if 0 ≤ x6 then (if x6 ≤ (wrap64 (x6 + (t228.size : Int))) then (if (wrap64 (x6 + (t228.size : Int))) ≤ (x0.size : Int) then (mailbaglaw01_OctetReads.j3 k x0 x6 t228 x23 x24 x25 ((x0.extract (x6 : Int).toNat ((wrap64 (x6 + (t228.size : Int))) : Int).toNat).toList != t228.toList) bt219.2.1 bt219.2.2) else (none)) else (none)) else (none)))) else ((octet_Reader_Left.f bt219.2.1 bt219.2.2).bind fun bt222 => (some (bt222.1 == 0))))
def mailbaglaw01_OctetReads.j3 : Nat → ByteArray → Int → ByteArray → List Int → Int → Int → Bool → ByteArray → Bool → Option (Bool)
  | 0, _, _, _, _, _, _, _, _, _ => none
  | k + 1, x0, x6, x10, x23, x24, x25, x73, x208000, x208001 => if x73 = true then (some false) else ((octet_Reader_Left.f x208000 x208001).bind fun bt229 => (if bt229.1 = (wrap64 ((x0.size : Int) - (wrap64 (x6 + (x10.size : Int))))) then (mailbaglaw01_OctetReads.l0 k x0 (wrap64 (x6 + (x10.size : Int))) x23 x24 (wrap64 (x25 + 1)) bt229.2.1 bt229.2.2) else (some false)))
end
def mailbaglaw01_OctetReads.f (k : Nat) (a0 : ByteArray) (l1 : List Int) : Option (Bool) := (mailbaglaw01_head.f k).bind fun t204 => (if t204 = true then (if (a0.size : Int) > 100 then (mailbaglaw01_OctetReads.j0 k a0 l1 true) else (mailbaglaw01_OctetReads.j0 k a0 l1 (decide ((l1.length : Int) > 20)))) else (some false))
theorem mailbaglaw01_OctetReads.mono_l : ∀ k, (∀ y0 y1 y2, LeO (mailbaglaw01_OctetReads.j0 k y0 y1 y2) (mailbaglaw01_OctetReads.j0 (k + 1) y0 y1 y2)) ∧ (∀ y0 y1 y2 y3 y4 y5 y6, LeO (mailbaglaw01_OctetReads.l0 k y0 y1 y2 y3 y4 y5 y6) (mailbaglaw01_OctetReads.l0 (k + 1) y0 y1 y2 y3 y4 y5 y6)) ∧ (∀ y0 y1 y2 y3 y4 y5 y6 y7 y8 y9 y10, LeO (mailbaglaw01_OctetReads.j2 k y0 y1 y2 y3 y4 y5 y6 y7 y8 y9 y10) (mailbaglaw01_OctetReads.j2 (k + 1) y0 y1 y2 y3 y4 y5 y6 y7 y8 y9 y10)) ∧ (∀ y0 y1 y2 y3 y4 y5 y6 y7 y8, LeO (mailbaglaw01_OctetReads.j3 k y0 y1 y2 y3 y4 y5 y6 y7 y8) (mailbaglaw01_OctetReads.j3 (k + 1) y0 y1 y2 y3 y4 y5 y6 y7 y8))
  | 0 => ⟨fun _ _ _ r h => by simp [mailbaglaw01_OctetReads.j0] at h, fun _ _ _ _ _ _ _ r h => by simp [mailbaglaw01_OctetReads.l0] at h, fun _ _ _ _ _ _ _ _ _ _ _ r h => by simp [mailbaglaw01_OctetReads.j2] at h, fun _ _ _ _ _ _ _ _ _ r h => by simp [mailbaglaw01_OctetReads.j3] at h⟩
  | k + 1 => by
    obtain ⟨ih0, ih1, ih2, ih3⟩ := mailbaglaw01_OctetReads.mono_l k
    refine ⟨?_, ?_, ?_, ?_⟩
    · intro y0 y1 y2
      unfold mailbaglaw01_OctetReads.j0
      repeat' first
      | (with_reducible exact ih0 _ _ _)
      | (with_reducible exact ih1 _ _ _ _ _ _ _)
      | (with_reducible exact ih2 _ _ _ _ _ _ _ _ _ _ _)
      | (with_reducible exact ih3 _ _ _ _ _ _ _ _ _)
      | (with_reducible exact mailbaglaw01_head.mono _)
      | (with_reducible exact mailbaglaw01_lay.mono _ _)
      | (with_reducible exact octet_Reader_Num.mono _ _ _ _)
      | (with_reducible exact octet_Reader_Text.mono _ _ _ _)
      | (with_reducible exact LeO.refl _)
      | (with_reducible exact LeO.none _)
      | (with_reducible refine LeO.ite ?_ ?_)
      | (with_reducible refine LeO.bind ?_ (fun _ => ?_))
      | exact ih0 _ _ _
      | exact ih1 _ _ _ _ _ _ _
      | exact ih2 _ _ _ _ _ _ _ _ _ _ _
      | exact ih3 _ _ _ _ _ _ _ _ _
      | exact mailbaglaw01_head.mono _
      | exact mailbaglaw01_lay.mono _ _
      | exact octet_Reader_Num.mono _ _ _ _
      | exact octet_Reader_Text.mono _ _ _ _
      | exact LeO.none _
      | refine LeO.ite ?_ ?_
      | refine LeO.bind ?_ (fun _ => ?_)
    · intro y0 y1 y2 y3 y4 y5 y6
      unfold mailbaglaw01_OctetReads.l0
      repeat' first
      | (with_reducible exact ih0 _ _ _)
      | (with_reducible exact ih1 _ _ _ _ _ _ _)
      | (with_reducible exact ih2 _ _ _ _ _ _ _ _ _ _ _)
      | (with_reducible exact ih3 _ _ _ _ _ _ _ _ _)
      | (with_reducible exact mailbaglaw01_head.mono _)
      | (with_reducible exact mailbaglaw01_lay.mono _ _)
      | (with_reducible exact octet_Reader_Num.mono _ _ _ _)
      | (with_reducible exact octet_Reader_Text.mono _ _ _ _)
      | (with_reducible exact LeO.refl _)
      | (with_reducible exact LeO.none _)
      | (with_reducible refine LeO.ite ?_ ?_)
      | (with_reducible refine LeO.bind ?_ (fun _ => ?_))
      | exact ih0 _ _ _
      | exact ih1 _ _ _ _ _ _ _
      | exact ih2 _ _ _ _ _ _ _ _ _ _ _
      | exact ih3 _ _ _ _ _ _ _ _ _
      | exact mailbaglaw01_head.mono _
      | exact mailbaglaw01_lay.mono _ _
      | exact octet_Reader_Num.mono _ _ _ _
      | exact octet_Reader_Text.mono _ _ _ _
      | exact LeO.none _
      | refine LeO.ite ?_ ?_
      | refine LeO.bind ?_ (fun _ => ?_)
    · intro y0 y1 y2 y3 y4 y5 y6 y7 y8 y9 y10
      unfold mailbaglaw01_OctetReads.j2
      repeat' first
      | (with_reducible exact ih0 _ _ _)
      | (with_reducible exact ih1 _ _ _ _ _ _ _)
      | (with_reducible exact ih2 _ _ _ _ _ _ _ _ _ _ _)
      | (with_reducible exact ih3 _ _ _ _ _ _ _ _ _)
      | (with_reducible exact mailbaglaw01_head.mono _)
      | (with_reducible exact mailbaglaw01_lay.mono _ _)
      | (with_reducible exact octet_Reader_Num.mono _ _ _ _)
      | (with_reducible exact octet_Reader_Text.mono _ _ _ _)
      | (with_reducible exact LeO.refl _)
      | (with_reducible exact LeO.none _)
      | (with_reducible refine LeO.ite ?_ ?_)
      | (with_reducible refine LeO.bind ?_ (fun _ => ?_))
      | exact ih0 _ _ _
      | exact ih1 _ _ _ _ _ _ _
      | exact ih2 _ _ _ _ _ _ _ _ _ _ _
      | exact ih3 _ _ _ _ _ _ _ _ _
      | exact mailbaglaw01_head.mono _
      | exact mailbaglaw01_lay.mono _ _
      | exact octet_Reader_Num.mono _ _ _ _
      | exact octet_Reader_Text.mono _ _ _ _
      | exact LeO.none _
      | refine LeO.ite ?_ ?_
      | refine LeO.bind ?_ (fun _ => ?_)
    · intro y0 y1 y2 y3 y4 y5 y6 y7 y8
      unfold mailbaglaw01_OctetReads.j3
      repeat' first
      | (with_reducible exact ih0 _ _ _)
      | (with_reducible exact ih1 _ _ _ _ _ _ _)
      | (with_reducible exact ih2 _ _ _ _ _ _ _ _ _ _ _)
      | (with_reducible exact ih3 _ _ _ _ _ _ _ _ _)
      | (with_reducible exact mailbaglaw01_head.mono _)
      | (with_reducible exact mailbaglaw01_lay.mono _ _)
      | (with_reducible exact octet_Reader_Num.mono _ _ _ _)
      | (with_reducible exact octet_Reader_Text.mono _ _ _ _)
      | (with_reducible exact LeO.refl _)
      | (with_reducible exact LeO.none _)
      | (with_reducible refine LeO.ite ?_ ?_)
      | (with_reducible refine LeO.bind ?_ (fun _ => ?_))
      | exact ih0 _ _ _
      | exact ih1 _ _ _ _ _ _ _
      | exact ih2 _ _ _ _ _ _ _ _ _ _ _
      | exact ih3 _ _ _ _ _ _ _ _ _
      | exact mailbaglaw01_head.mono _
      | exact mailbaglaw01_lay.mono _ _
      | exact octet_Reader_Num.mono _ _ _ _
      | exact octet_Reader_Text.mono _ _ _ _
      | exact LeO.none _
      | refine LeO.ite ?_ ?_
      | refine LeO.bind ?_ (fun _ => ?_)
theorem mailbaglaw01_OctetReads.mono : ∀ a0 a1 k, LeO (mailbaglaw01_OctetReads.f k a0 a1) (mailbaglaw01_OctetReads.f (k + 1) a0 a1) := by
  intro a0 a1 k
  obtain ⟨ih0, ih1, ih2, ih3⟩ := mailbaglaw01_OctetReads.mono_l k
  unfold mailbaglaw01_OctetReads.f
  repeat' first
      | (with_reducible exact ih0 _ _ _)
      | (with_reducible exact ih1 _ _ _ _ _ _ _)
      | (with_reducible exact ih2 _ _ _ _ _ _ _ _ _ _ _)
      | (with_reducible exact ih3 _ _ _ _ _ _ _ _ _)
      | (with_reducible exact mailbaglaw01_head.mono _)
      | (with_reducible exact mailbaglaw01_lay.mono _ _)
      | (with_reducible exact octet_Reader_Num.mono _ _ _ _)
      | (with_reducible exact octet_Reader_Text.mono _ _ _ _)
      | (with_reducible exact LeO.refl _)
      | (with_reducible exact LeO.none _)
      | (with_reducible refine LeO.ite ?_ ?_)
      | (with_reducible refine LeO.bind ?_ (fun _ => ?_))
      | exact ih0 _ _ _
      | exact ih1 _ _ _ _ _ _ _
      | exact ih2 _ _ _ _ _ _ _ _ _ _ _
      | exact ih3 _ _ _ _ _ _ _ _ _
      | exact mailbaglaw01_head.mono _
      | exact mailbaglaw01_lay.mono _ _
      | exact octet_Reader_Num.mono _ _ _ _
      | exact octet_Reader_Text.mono _ _ _ _
      | exact LeO.none _
      | refine LeO.ite ?_ ?_
      | refine LeO.bind ?_ (fun _ => ?_)
set_option maxHeartbeats 8000000 in
set_option maxRecDepth 100000 in
theorem mailbaglaw01_OctetReads.calls (k : Nat) (a0 : ByteArray) (A1 : Option Addr) (c1 : Nat) (l1 : List Int) (r : Bool) (w : World) (hr1 : Kd.C (Kd.int .i64) w A1 l1.length l1) (hc1 : l1.length ≤ c1) (h : mailbaglaw01_OctetReads.f k a0 l1 = some r) :
    Calls Try.prog 7 #[.string a0, .slice A1 l1.length c1] w fun e w' => e = .returned (.bool r) ∧ Below w.heap.size w w' := by
  have hu42 := Try.underlying42
  have HR1 := Aside0.mk hr1
  have HC1 := Aside0.mk hc1
  clear hr1 hc1
  have HB := Aside0.mk (Below.refl w.heap.size w)
  have H : ((mailbaglaw01_head.f k).bind fun t204 => (if t204 = true then (if (a0.size : Int) > 100 then (mailbaglaw01_OctetReads.j0 k a0 l1 true) else (mailbaglaw01_OctetReads.j0 k a0 l1 (decide ((l1.length : Int) > 20)))) else (some false))) = some r := h
  clear h
  replace H := Option.bind_eq_some_iff.mp H
  obtain ⟨t204, A30, H⟩ := H
  replace H : (if t204 = true then (if (a0.size : Int) > 100 then (mailbaglaw01_OctetReads.j0 k a0 l1 true) else (mailbaglaw01_OctetReads.j0 k a0 l1 (decide ((l1.length : Int) > 20)))) else (some false)) = some r := H
  have A3 := Aside0.mk A30
  clear A30
  by_cases c4 : t204 = true
  · subst c4
    have H1 : (if (a0.size : Int) > 100 then (mailbaglaw01_OctetReads.j0 k a0 l1 true) else (mailbaglaw01_OctetReads.j0 k a0 l1 (decide ((l1.length : Int) > 20)))) = some r := by rw [if_pos rfl] at H; exact H
    clear H
    have H := H1
    clear H1
    have HC5 := Aside0.mk H
    clear H
    go_enter Try.func7, Try.ntmps7
    go_upto_region 3 with (first | ((with_reducible refine gate_callee (f := 16) rfl ?_); refine goesL_ (some 11) rfl rfl Try.func16 (by kernel_rfl) rfl #[] rfl (by (try simp only [List.map_toArray, List.map_cons, List.map_nil]); first | done | rfl | (simp only [List.length_drop, List.length_take]; rfl)) ?_; (with_reducible refine (mailbaglaw01_head.calls k  true _ A3.out).mono ?_); rintro e w6 ⟨rfl, hb⟩; refine ⟨_, rfl, ?_⟩; have n0_ := Aside0.mk (below_step (by repeat (first | (with_reducible first | exact HB.out | apply below_alloc | apply pw_below_drewN | apply below_drew1) | exact HB.out)) hb); clear HB; have HB := n0_; clear n0_; (try clear hb); (try clear hb2); (try clear hk); (try clear hi)))
    (try simp only [Act.put, List.setIfInBounds_toArray, List.set_cons_zero, List.set_cons_succ])
    go_cut [20] (fun v20 wc => ∃ (kq : Nat) (x20_4 : Bool), v20 = .bool x20_4 ∧ Aside0 (mailbaglaw01_OctetReads.j0 kq a0 l1 x20_4 = some r) ∧ Aside0 (kq ≤ k) ∧ Aside0 (Below w.heap.size w wc))
    case first =>
      have H := HC5.out
      clear HC5
      by_cases c7 : (a0.size : Int) > 100
      · rw [if_pos c7] at H
        have c7b0 : decide (100 < (a0.size : Int)) = true := decide_eq_true c7
        have c7b1 : decide (100 < a0.size) = true := decide_eq_true (by omega)
        clear c7
        (first | rw [c7b0] | (simp only [i64_w, i32_w]; rw [c7b0]) | skip)
        have H' := Aside0.mk H
        clear H
        go_wp2
        go_meet
        case rel => exact ⟨_, (true), (by first | rfl | (simp; done) | (simp [*]; done)), H', ⟨by first | omega | exact Nat.le_refl _⟩, ⟨by repeat (first | (with_reducible first | exact HB.out | apply below_alloc | apply pw_below_drewN | apply below_drew1) | exact HB.out)⟩⟩
      · rw [if_neg c7] at H
        have c7b0 : decide (100 < (a0.size : Int)) = false := decide_eq_false c7
        have c7b1 : decide (100 < a0.size) = false := decide_eq_false (by omega)
        clear c7
        (first | rw [c7b0] | (simp only [i64_w, i32_w]; rw [c7b0]) | skip)
        have H' := Aside0.mk H
        clear H
        go_wp2
        go_meet
        case rel => exact ⟨_, (decide ((l1.length : Int) > 20)), (by first | rfl | (simp; done) | (simp [*]; done)), H', ⟨by first | omega | exact Nat.le_refl _⟩, ⟨by repeat (first | (with_reducible first | exact HB.out | apply below_alloc | apply pw_below_drewN | apply below_drew1) | exact HB.out)⟩⟩
    case rest =>
      clear HC5
      try clear c1
      try clear p2
      try clear c4
      try clear c7
      try clear c7b0
      try clear c7b1
      obtain ⟨kq, x20_4, rfl, HA, HJ4, HB⟩ := hcut
      cases kq with
      | zero => exact absurd HA.out (by simp [mailbaglaw01_OctetReads.j0])
      | succ kj4 =>
        have H := HA.out
        clear HA
        simp only [mailbaglaw01_OctetReads.j0] at H
        by_cases c8 : x20_4 = true
        · subst c8
          have H1 : (some true) = some r := by rw [if_pos rfl] at H; exact H
          clear H
          have H := H1
          clear H1
          obtain rfl := Option.some.inj H
          go_wp2
          go_ret
          exact ⟨by first | rfl | (simp [errW_none, errW_some] <;> rfl) | (simp [*, errW_none, errW_some] <;> rfl), by repeat (first | (with_reducible first | exact HB.out | apply below_alloc | apply pw_below_drewN | apply below_drew1) | exact HB.out)⟩
        · replace c8 := Bool.eq_false_iff.mpr c8
          subst c8
          have H1 : ((octet_Read.f a0).bind fun bt205 => (mailbaglaw01_OctetReads.l0 kj4 a0 0 l1 (l1.length : Int) 0 bt205.1 bt205.2)) = some r := by rw [if_neg (show ¬ (false = true) by decide)] at H; exact H
          clear H
          have H := H1
          clear H1
          replace H := Option.bind_eq_some_iff.mp H
          obtain ⟨⟨t205, t206⟩, A90, H⟩ := H
          replace H : (mailbaglaw01_OctetReads.l0 kj4 a0 0 l1 (l1.length : Int) 0 t205 t206) = some r := H
          have A9 := Aside0.mk A90
          clear A90
          have H' := Aside0.mk H
          clear H
          go_wp2_with (first | ((with_reducible refine gate_callee (f := 20) rfl ?_); refine goesL_ (some 22) rfl rfl Try.func20 (by kernel_rfl) rfl #[.string a0] rfl (by (try simp only [List.map_toArray, List.map_cons, List.map_nil]); first | done | rfl | (simp only [List.length_drop, List.length_take]; rfl)) ?_; (with_reducible refine (octet_Read.calls a0 t205 t206 w _ ?side1 A9.out).mono ?_); (case side1 => repeat (first | (with_reducible first | exact HB.out | apply below_alloc | apply pw_below_drewN | apply below_drew1) | exact HB.out)); rintro e w10 ⟨g207, rfl, hi, hb, hb2⟩; refine ⟨_, rfl, ?_⟩; have n0_ := Aside0.mk (hb); have n1_ := Aside0.mk (hi); clear HB; have HB := n0_; have HI207 := n1_; clear n0_ n1_; (try clear hb); (try clear hb2); (try clear hk); (try clear hi)))
          go_loopg [6, 25] kj4 (fun kq v6 v25 w' => ∃ (x6_2 : Int) (x25_2 : Int) (x208000_2 : ByteArray) (x208001_2 : Bool), v6 = .int .i64 x6_2 ∧ v25 = .int .i64 x25_2 ∧ Aside0 (mailbaglaw01_OctetReads.l0 kq a0 x6_2 l1 (l1.length : Int) x25_2 x208000_2 x208001_2 = some r) ∧ Aside0 (kq ≤ kj4) ∧ Aside0 (IsS70 w w' g207 x208000_2 x208001_2) ∧ Aside0 (Below w.heap.size w w'))
          case atStart => exact ⟨(0), (0), (t205), (t206), (by first | rfl | (simp; done) | (simp [*]; done)), (by first | rfl | (simp; done) | (simp [*]; done)), H', ⟨Nat.le_refl _⟩, ⟨by repeat (first | (with_reducible first | exact HI207.out | apply IsS70.alloc | apply IsS70.drewN | apply IsS70.drew | apply IsS70.set_0 | apply IsS70.set_1) | exact HI207.out)⟩, ⟨by repeat (first | (with_reducible first | exact HB.out | apply below_alloc | apply pw_below_drewN | apply below_drew1 | refine below_set ?_ (IsS70.ge HI207.out)) | exact HB.out)⟩⟩
          case round =>
            clear H'
            try clear c1
            try clear c2
            try clear p2
            try clear c4
            try clear c7
            try clear c7b0
            try clear c7b1
            try clear c8
            try clear p2
            obtain ⟨x6_2, x25_2, x208000_2, x208001_2, rfl, rfl, HA, HK2, HI207, HB⟩ := hrel
            cases gk with
            | zero => exact absurd HA.out (by simp [mailbaglaw01_OctetReads.l0])
            | succ k2 =>
              have H := HA.out
              clear HA
              simp only [mailbaglaw01_OctetReads.l0] at H
              by_cases c11 : x25_2 < (l1.length : Int)
              · rw [if_pos c11] at H
                have c11b0 : decide (x25_2 < (l1.length : Int)) = true := decide_eq_true c11
                clear c11
                by_cases c12 : 0 ≤ x25_2
                · rw [if_pos c12] at H
                  have c12b0 : decide (0 ≤ x25_2) = true := decide_eq_true c12
                  clear c12
                  by_cases c13 : x25_2 < (l1.length : Int)
                  · rw [if_pos c13] at H
                    have c13b0 : decide (x25_2 < (l1.length : Int)) = true := decide_eq_true c13
                    clear c13
                    have HC14 := Aside0.mk H
                    clear H
                    have p208 : 0 ≤ (x25_2 : Int) := of_decide_eq_true (by first | (with_reducible assumption) | assumption)
                    have q208 : x25_2 < (l1.length : Int) := of_decide_eq_true (by first | (with_reducible assumption) | assumption)
                    obtain ⟨ad208, e208, hx208_0⟩ := Kd.at_int HR1.out x25_2 p208 q208
                    cases e208
                    replace hx208_0 := (HB.out.cell (World.block_lt_of_cell? w _ hx208_0)).trans hx208_0
                    replace p208 := eq_true p208
                    replace q208 := eq_true q208
                    go_upto_block 2 with (first | ((with_reducible refine gate_dst (N := 9) rfl ?_); (try (refine gate_guard (by rfl) ?_; dsimp only)); refine box_event ?hg (N := 9) ?hd (cs := #[.int .i64 0, .int .i64 0, .string (⟨#[]⟩ : ByteArray), .bool false]) (t := 42) ?hr ?_; (case hd => rfl); (case hg => rfl); (case hr => first | (go_simp; done) | (go_simp; rfl)); intro gb209 hg w15 hbox hb; have n0_ := Aside0.mk (IsS70.below (by repeat (first | (with_reducible first | exact HI207.out | apply IsS70.alloc | apply IsS70.drewN | apply IsS70.drew | apply IsS70.set_0 | apply IsS70.set_1) | exact HI207.out)) hb); have n1_ := Aside0.mk (below_step (by repeat (first | (with_reducible first | exact HB.out | apply below_alloc | apply pw_below_drewN | apply below_drew1 | refine below_set ?_ (IsS70.ge HI207.out)) | exact HB.out)) hb); have n2_ := Aside0.mk (hbox); have n3_ := Aside0.mk ((by rw [hg]; exact (below_size (by repeat (first | (with_reducible first | exact HB.out | apply below_alloc | apply pw_below_drewN | apply below_drew1 | refine below_set ?_ (IsS70.ge HI207.out)) | exact HB.out))) : w.heap.size ≤ gb209)); have n4_ := Aside0.mk ((by rw [hg]; exact (below_size (by repeat (first | (with_reducible first | exact HB.out | apply below_alloc | apply pw_below_drewN | apply below_drew1 | refine below_set ?_ (IsS70.ge HI207.out)) | exact HB.out))) : w.heap.size ≤ gb209)); have n5_ := Aside0.mk ((by rw [hg]; exact Nat.ne_of_lt (IsS70.lt (show IsS70 w _ g207 x208000_2 x208001_2 from by repeat (first | (with_reducible first | exact HI207.out | apply IsS70.alloc | apply IsS70.drewN | apply IsS70.drew | apply IsS70.set_0 | apply IsS70.set_1) | exact HI207.out))) : g207 ≠ gb209)); have n6_ := Aside0.mk ((by rw [hg]; exact Nat.ne_of_gt (IsS70.lt (show IsS70 w _ g207 x208000_2 x208001_2 from by repeat (first | (with_reducible first | exact HI207.out | apply IsS70.alloc | apply IsS70.drewN | apply IsS70.drew | apply IsS70.set_0 | apply IsS70.set_1) | exact HI207.out))) : gb209 ≠ g207)); clear HI207; clear HB; have HI207 := n0_; have HB := n1_; have BK209 := n2_; have GW209 := n3_; have GE209 := n4_; have NB207_209 := n5_; have NB209_207 := n6_; clear n0_ n1_ n2_ n3_ n4_ n5_ n6_; clear hb hbox hg; have hnb16 := NB209_207.out; have hnc16 := NB207_209.out; have hcz17_0 : w15.cell? ⟨gb209, 0, none⟩ = some (.int .i64 0) := (blk_cell BK209.out 0).trans rfl; have hcz17_1 : w15.cell? ⟨gb209, 1, none⟩ = some (.int .i64 0) := (blk_cell BK209.out 1).trans rfl; have hcz17_2 : w15.cell? ⟨gb209, 2, none⟩ = some (.string (⟨#[]⟩ : ByteArray)) := (blk_cell BK209.out 2).trans rfl; have hcz17_3 : w15.cell? ⟨gb209, 3, none⟩ = some (.bool false) := (blk_cell BK209.out 3).trans rfl; have hfz17_0 := blk_frozen BK209.out 0; have hfz17_1 := blk_frozen BK209.out 1; have hfz17_2 := blk_frozen BK209.out 2; have hfz17_3 := blk_frozen BK209.out 3))
                    (try simp only [Act.put, List.setIfInBounds_toArray, List.set_cons_zero, List.set_cons_succ])
                    go_cut [] (fun wc => ∃ (kq : Nat) (x208000_13 : ByteArray) (x208001_13 : Bool) (x210001_13 : Int) (x210002_13 : ByteArray) (x210003_13 : Bool), Aside0 (mailbaglaw01_OctetReads.j2 kq a0 x6_2 l1 (l1.length : Int) x25_2 x208000_13 x208001_13 (Go.bits .and .i64 (rd l1 x25_2) 3) x210001_13 x210002_13 x210003_13 = some r) ∧ Aside0 (kq ≤ k2) ∧ Aside0 (wc.heap[gb209]? = some (.cells #[.int .i64 (Go.bits .and .i64 (rd l1 x25_2) 3), .int .i64 x210001_13, .string x210002_13, .bool x210003_13] 42 (0, 0))) ∧ Aside0 (IsS70 w wc g207 x208000_13 x208001_13) ∧ Aside0 (Below w.heap.size w wc))
                    case first =>
                      have H := HC14.out
                      clear HC14
                      by_cases c18 : (Go.bits .and .i64 (rd l1 x25_2) 3) = 0
                      · rw [if_pos c18] at H
                        have c18b0 : ((Go.bits .and .i64 (rd l1 x25_2) 3) == 0) = true := beq_iff_eq.mpr c18
                        have c18b1 : ((Go.bits .and .i64 (rd l1 x25_2) 3) != 0) = false := bne_eq_false_iff_eq.mpr c18
                        clear c18
                        (first | rw [c18b0] | (simp only [i64_w, i32_w]; rw [c18b0]) | skip)
                        replace H := Option.bind_eq_some_iff.mp H
                        obtain ⟨⟨t210, t211, t212⟩, A190, H⟩ := H
                        replace H : (mailbaglaw01_OctetReads.j2 k2 a0 x6_2 l1 (l1.length : Int) x25_2 t211 t212 (Go.bits .and .i64 (rd l1 x25_2) 3) t210 (⟨#[]⟩ : ByteArray) false) = some r := H
                        have A19 := Aside0.mk A190
                        clear A190
                        have H' := Aside0.mk H
                        clear H
                        go_wp2_with (first | ((with_reducible refine gate_callee (f := 25) rfl ?_); refine goesL_ (some 40) rfl rfl Try.func25 (by kernel_rfl) rfl #[.pointer (some ⟨g207, 0, none⟩), .int .i64 9223372036854775807] rfl (by (try simp only [List.map_toArray, List.map_cons, List.map_nil]); first | done | rfl | (simp only [List.length_drop, List.length_take]; rfl)) ?_; (with_reducible refine (octet_Reader_Num.calls k2 g207 x208000_2 x208001_2 9223372036854775807 t210 t211 t212 w _ ?side1 ?side2 A19.out).mono ?_); (case side1 => repeat (first | (with_reducible first | exact HI207.out | apply IsS70.alloc | apply IsS70.drewN | apply IsS70.drew | apply IsS70.set_0 | apply IsS70.set_1 | refine IsS70.far ?_ NB207_209.out _) | exact HI207.out)); (case side2 => repeat (first | (with_reducible first | exact HB.out | apply below_alloc | apply pw_below_drewN | apply below_drew1 | refine below_set ?_ (IsS70.ge HI207.out) | refine below_set ?_ GE209.out) | exact HB.out)); rintro e w20 ⟨rfl, hi, hb, hk⟩; refine ⟨_, rfl, ?_⟩; have n0_ := Aside0.mk (KeepBut.blk hk (g' := gb209) (o := .cells #[.int .i64 (Go.bits .and .i64 (rd l1 x25_2) 3), .int .i64 0, .string (⟨#[]⟩ : ByteArray), .bool false] 42 (0, 0)) (by (with_reducible repeat (first | refine blk_drewN ?_ _ | refine blk_drew ?_ | refine blk_alloc ?_ _)); refine blk_put (cs := #[.int .i64 (Go.bits .and .i64 (rd l1 x25_2) 3), .int .i64 0, .string (⟨#[]⟩ : ByteArray), .bool false]) ?_ 3 _ rfl; (with_reducible repeat (first | refine blk_drewN ?_ _ | refine blk_drew ?_ | refine blk_alloc ?_ _)); refine blk_put (cs := #[.int .i64 (Go.bits .and .i64 (rd l1 x25_2) 3), .int .i64 0, .string (⟨#[]⟩ : ByteArray), .bool false]) ?_ 2 _ rfl; (with_reducible repeat (first | refine blk_drewN ?_ _ | refine blk_drew ?_ | refine blk_alloc ?_ _)); refine blk_put (cs := #[.int .i64 (Go.bits .and .i64 (rd l1 x25_2) 3), .int .i64 0, .string (⟨#[]⟩ : ByteArray), .bool false]) ?_ 1 _ rfl; (with_reducible repeat (first | refine blk_drewN ?_ _ | refine blk_drew ?_ | refine blk_alloc ?_ _)); refine blk_put (cs := #[.int .i64 0, .int .i64 0, .string (⟨#[]⟩ : ByteArray), .bool false]) ?_ 0 _ rfl; (with_reducible repeat (first | refine blk_drewN ?_ _ | refine blk_drew ?_ | refine blk_alloc ?_ _)); exact BK209.out) NB209_207.out (by simp)); have n1_ := Aside0.mk (hb); have n2_ := Aside0.mk (hi); clear BK209; clear HB; clear HI207; have BK209 := n0_; have HB := n1_; have HI207 := n2_; clear n0_ n1_ n2_; (try clear hb); (try clear hb2); (try clear hk); (try clear hi); have hnb21 := NB209_207.out; have hnc21 := NB207_209.out; have hcz22_0 : w20.cell? ⟨gb209, 0, none⟩ = some (.int .i64 (Go.bits .and .i64 (rd l1 x25_2) 3)) := (blk_cell BK209.out 0).trans rfl; have hcz22_1 : w20.cell? ⟨gb209, 1, none⟩ = some (.int .i64 0) := (blk_cell BK209.out 1).trans rfl; have hcz22_2 : w20.cell? ⟨gb209, 2, none⟩ = some (.string (⟨#[]⟩ : ByteArray)) := (blk_cell BK209.out 2).trans rfl; have hcz22_3 : w20.cell? ⟨gb209, 3, none⟩ = some (.bool false) := (blk_cell BK209.out 3).trans rfl; have hfz22_0 := blk_frozen BK209.out 0; have hfz22_1 := blk_frozen BK209.out 1; have hfz22_2 := blk_frozen BK209.out 2; have hfz22_3 := blk_frozen BK209.out 3))
                        go_meet
                        case rel => exact ⟨_, (t211), (t212), (t210), ((⟨#[]⟩ : ByteArray)), (false), H', ⟨by have := HJ4.out; have := HK2.out; first | omega | exact Nat.le_refl _⟩, ⟨by (with_reducible repeat (first | refine blk_drewN ?_ _ | refine blk_drew ?_ | refine blk_alloc ?_ _)); refine blk_put (cs := #[.int .i64 (Go.bits .and .i64 (rd l1 x25_2) 3), .int .i64 0, .string (⟨#[]⟩ : ByteArray), .bool false]) ?_ 1 _ rfl; (with_reducible repeat (first | refine blk_drewN ?_ _ | refine blk_drew ?_ | refine blk_alloc ?_ _)); exact BK209.out⟩, ⟨by repeat (first | (with_reducible first | exact HI207.out | apply IsS70.alloc | apply IsS70.drewN | apply IsS70.drew | apply IsS70.set_0 | apply IsS70.set_1 | refine IsS70.far ?_ NB207_209.out _) | exact HI207.out)⟩, ⟨by repeat (first | (with_reducible first | exact HB.out | apply below_alloc | apply pw_below_drewN | apply below_drew1 | refine below_set ?_ (IsS70.ge HI207.out) | refine below_set ?_ GE209.out) | exact HB.out)⟩⟩
                      · rw [if_neg c18] at H
                        have c18b0 : ((Go.bits .and .i64 (rd l1 x25_2) 3) == 0) = false := beq_eq_false_iff_ne.mpr c18
                        have c18b1 : ((Go.bits .and .i64 (rd l1 x25_2) 3) != 0) = true := bne_iff_ne.mpr c18
                        (first | rw [c18b0] | (simp only [i64_w, i32_w]; rw [c18b0]) | skip)
                        by_cases c23 : (Go.bits .and .i64 (rd l1 x25_2) 3) = 1
                        · rw [if_pos c23] at H
                          have c23b0 : ((Go.bits .and .i64 (rd l1 x25_2) 3) == 1) = true := beq_iff_eq.mpr c23
                          have c23b1 : ((Go.bits .and .i64 (rd l1 x25_2) 3) != 1) = false := bne_eq_false_iff_eq.mpr c23
                          clear c23
                          replace H := Option.bind_eq_some_iff.mp H
                          obtain ⟨⟨t213, t214, t215⟩, A240, H⟩ := H
                          replace H : (mailbaglaw01_OctetReads.j2 k2 a0 x6_2 l1 (l1.length : Int) x25_2 t214 t215 (Go.bits .and .i64 (rd l1 x25_2) 3) 0 t213 false) = some r := H
                          have A24 := Aside0.mk A240
                          clear A240
                          have H' := Aside0.mk H
                          clear H
                          go_wp2_with (first | ((with_reducible refine gate_callee (f := 26) rfl ?_); refine goesL_ (some 45) rfl rfl Try.func26 (by kernel_rfl) rfl #[.pointer (some ⟨g207, 0, none⟩), .int .i64 1000] rfl (by (try simp only [List.map_toArray, List.map_cons, List.map_nil]); first | done | rfl | (simp only [List.length_drop, List.length_take]; rfl)) ?_; (with_reducible refine (octet_Reader_Text.calls k2 g207 x208000_2 x208001_2 1000 t213 t214 t215 w _ ?side1 ?side2 A24.out).mono ?_); (case side1 => repeat (first | (with_reducible first | exact HI207.out | apply IsS70.alloc | apply IsS70.drewN | apply IsS70.drew | apply IsS70.set_0 | apply IsS70.set_1 | refine IsS70.far ?_ NB207_209.out _) | exact HI207.out)); (case side2 => repeat (first | (with_reducible first | exact HB.out | apply below_alloc | apply pw_below_drewN | apply below_drew1 | refine below_set ?_ (IsS70.ge HI207.out) | refine below_set ?_ GE209.out) | exact HB.out)); rintro e w25 ⟨rfl, hi, hb, hk⟩; refine ⟨_, rfl, ?_⟩; have n0_ := Aside0.mk (KeepBut.blk hk (g' := gb209) (o := .cells #[.int .i64 (Go.bits .and .i64 (rd l1 x25_2) 3), .int .i64 0, .string (⟨#[]⟩ : ByteArray), .bool false] 42 (0, 0)) (by (with_reducible repeat (first | refine blk_drewN ?_ _ | refine blk_drew ?_ | refine blk_alloc ?_ _)); refine blk_put (cs := #[.int .i64 (Go.bits .and .i64 (rd l1 x25_2) 3), .int .i64 0, .string (⟨#[]⟩ : ByteArray), .bool false]) ?_ 3 _ rfl; (with_reducible repeat (first | refine blk_drewN ?_ _ | refine blk_drew ?_ | refine blk_alloc ?_ _)); refine blk_put (cs := #[.int .i64 (Go.bits .and .i64 (rd l1 x25_2) 3), .int .i64 0, .string (⟨#[]⟩ : ByteArray), .bool false]) ?_ 2 _ rfl; (with_reducible repeat (first | refine blk_drewN ?_ _ | refine blk_drew ?_ | refine blk_alloc ?_ _)); refine blk_put (cs := #[.int .i64 (Go.bits .and .i64 (rd l1 x25_2) 3), .int .i64 0, .string (⟨#[]⟩ : ByteArray), .bool false]) ?_ 1 _ rfl; (with_reducible repeat (first | refine blk_drewN ?_ _ | refine blk_drew ?_ | refine blk_alloc ?_ _)); refine blk_put (cs := #[.int .i64 0, .int .i64 0, .string (⟨#[]⟩ : ByteArray), .bool false]) ?_ 0 _ rfl; (with_reducible repeat (first | refine blk_drewN ?_ _ | refine blk_drew ?_ | refine blk_alloc ?_ _)); exact BK209.out) NB209_207.out (by simp)); have n1_ := Aside0.mk (hb); have n2_ := Aside0.mk (hi); clear BK209; clear HB; clear HI207; have BK209 := n0_; have HB := n1_; have HI207 := n2_; clear n0_ n1_ n2_; (try clear hb); (try clear hb2); (try clear hk); (try clear hi); have hnb26 := NB209_207.out; have hnc26 := NB207_209.out; have hcz27_0 : w25.cell? ⟨gb209, 0, none⟩ = some (.int .i64 (Go.bits .and .i64 (rd l1 x25_2) 3)) := (blk_cell BK209.out 0).trans rfl; have hcz27_1 : w25.cell? ⟨gb209, 1, none⟩ = some (.int .i64 0) := (blk_cell BK209.out 1).trans rfl; have hcz27_2 : w25.cell? ⟨gb209, 2, none⟩ = some (.string (⟨#[]⟩ : ByteArray)) := (blk_cell BK209.out 2).trans rfl; have hcz27_3 : w25.cell? ⟨gb209, 3, none⟩ = some (.bool false) := (blk_cell BK209.out 3).trans rfl; have hfz27_0 := blk_frozen BK209.out 0; have hfz27_1 := blk_frozen BK209.out 1; have hfz27_2 := blk_frozen BK209.out 2; have hfz27_3 := blk_frozen BK209.out 3))
                          go_meet
                          case rel => exact ⟨_, (t214), (t215), (0), (t213), (false), H', ⟨by have := HJ4.out; have := HK2.out; first | omega | exact Nat.le_refl _⟩, ⟨by (with_reducible repeat (first | refine blk_drewN ?_ _ | refine blk_drew ?_ | refine blk_alloc ?_ _)); refine blk_put (cs := #[.int .i64 (Go.bits .and .i64 (rd l1 x25_2) 3), .int .i64 0, .string (⟨#[]⟩ : ByteArray), .bool false]) ?_ 2 _ rfl; (with_reducible repeat (first | refine blk_drewN ?_ _ | refine blk_drew ?_ | refine blk_alloc ?_ _)); exact BK209.out⟩, ⟨by repeat (first | (with_reducible first | exact HI207.out | apply IsS70.alloc | apply IsS70.drewN | apply IsS70.drew | apply IsS70.set_0 | apply IsS70.set_1 | refine IsS70.far ?_ NB207_209.out _) | exact HI207.out)⟩, ⟨by repeat (first | (with_reducible first | exact HB.out | apply below_alloc | apply pw_below_drewN | apply below_drew1 | refine below_set ?_ (IsS70.ge HI207.out) | refine below_set ?_ GE209.out) | exact HB.out)⟩⟩
                        · rw [if_neg c23] at H
                          have c23b0 : ((Go.bits .and .i64 (rd l1 x25_2) 3) == 1) = false := beq_eq_false_iff_ne.mpr c23
                          have c23b1 : ((Go.bits .and .i64 (rd l1 x25_2) 3) != 1) = true := bne_iff_ne.mpr c23
                          replace H := Option.bind_eq_some_iff.mp H
                          obtain ⟨⟨t216, t217, t218⟩, A280, H⟩ := H
                          replace H : (mailbaglaw01_OctetReads.j2 k2 a0 x6_2 l1 (l1.length : Int) x25_2 t217 t218 (Go.bits .and .i64 (rd l1 x25_2) 3) 0 (⟨#[]⟩ : ByteArray) t216) = some r := H
                          have A28 := Aside0.mk A280
                          clear A280
                          have H' := Aside0.mk H
                          clear H
                          go_wp2_with (first | ((with_reducible refine gate_callee (f := 27) rfl ?_); refine goesL_ (some 35) rfl rfl Try.func27 (by kernel_rfl) rfl #[.pointer (some ⟨g207, 0, none⟩)] rfl (by (try simp only [List.map_toArray, List.map_cons, List.map_nil]); first | done | rfl | (simp only [List.length_drop, List.length_take]; rfl)) ?_; (with_reducible refine (octet_Reader_Flag.calls g207 x208000_2 x208001_2 t216 t217 t218 w _ ?side1 ?side2 A28.out).mono ?_); (case side1 => repeat (first | (with_reducible first | exact HI207.out | apply IsS70.alloc | apply IsS70.drewN | apply IsS70.drew | apply IsS70.set_0 | apply IsS70.set_1 | refine IsS70.far ?_ NB207_209.out _) | exact HI207.out)); (case side2 => repeat (first | (with_reducible first | exact HB.out | apply below_alloc | apply pw_below_drewN | apply below_drew1 | refine below_set ?_ (IsS70.ge HI207.out) | refine below_set ?_ GE209.out) | exact HB.out)); rintro e w29 ⟨rfl, hi, hb, hk⟩; refine ⟨_, rfl, ?_⟩; have n0_ := Aside0.mk (KeepBut.blk hk (g' := gb209) (o := .cells #[.int .i64 (Go.bits .and .i64 (rd l1 x25_2) 3), .int .i64 0, .string (⟨#[]⟩ : ByteArray), .bool false] 42 (0, 0)) (by (with_reducible repeat (first | refine blk_drewN ?_ _ | refine blk_drew ?_ | refine blk_alloc ?_ _)); refine blk_put (cs := #[.int .i64 (Go.bits .and .i64 (rd l1 x25_2) 3), .int .i64 0, .string (⟨#[]⟩ : ByteArray), .bool false]) ?_ 3 _ rfl; (with_reducible repeat (first | refine blk_drewN ?_ _ | refine blk_drew ?_ | refine blk_alloc ?_ _)); refine blk_put (cs := #[.int .i64 (Go.bits .and .i64 (rd l1 x25_2) 3), .int .i64 0, .string (⟨#[]⟩ : ByteArray), .bool false]) ?_ 2 _ rfl; (with_reducible repeat (first | refine blk_drewN ?_ _ | refine blk_drew ?_ | refine blk_alloc ?_ _)); refine blk_put (cs := #[.int .i64 (Go.bits .and .i64 (rd l1 x25_2) 3), .int .i64 0, .string (⟨#[]⟩ : ByteArray), .bool false]) ?_ 1 _ rfl; (with_reducible repeat (first | refine blk_drewN ?_ _ | refine blk_drew ?_ | refine blk_alloc ?_ _)); refine blk_put (cs := #[.int .i64 0, .int .i64 0, .string (⟨#[]⟩ : ByteArray), .bool false]) ?_ 0 _ rfl; (with_reducible repeat (first | refine blk_drewN ?_ _ | refine blk_drew ?_ | refine blk_alloc ?_ _)); exact BK209.out) NB209_207.out (by simp)); have n1_ := Aside0.mk (hb); have n2_ := Aside0.mk (hi); clear BK209; clear HB; clear HI207; have BK209 := n0_; have HB := n1_; have HI207 := n2_; clear n0_ n1_ n2_; (try clear hb); (try clear hb2); (try clear hk); (try clear hi); have hnb30 := NB209_207.out; have hnc30 := NB207_209.out; have hcz31_0 : w29.cell? ⟨gb209, 0, none⟩ = some (.int .i64 (Go.bits .and .i64 (rd l1 x25_2) 3)) := (blk_cell BK209.out 0).trans rfl; have hcz31_1 : w29.cell? ⟨gb209, 1, none⟩ = some (.int .i64 0) := (blk_cell BK209.out 1).trans rfl; have hcz31_2 : w29.cell? ⟨gb209, 2, none⟩ = some (.string (⟨#[]⟩ : ByteArray)) := (blk_cell BK209.out 2).trans rfl; have hcz31_3 : w29.cell? ⟨gb209, 3, none⟩ = some (.bool false) := (blk_cell BK209.out 3).trans rfl; have hfz31_0 := blk_frozen BK209.out 0; have hfz31_1 := blk_frozen BK209.out 1; have hfz31_2 := blk_frozen BK209.out 2; have hfz31_3 := blk_frozen BK209.out 3))
                          go_meet
                          case rel => exact ⟨_, (t217), (t218), (0), ((⟨#[]⟩ : ByteArray)), (t216), H', ⟨by have := HJ4.out; have := HK2.out; first | omega | exact Nat.le_refl _⟩, ⟨by (with_reducible repeat (first | refine blk_drewN ?_ _ | refine blk_drew ?_ | refine blk_alloc ?_ _)); refine blk_put (cs := #[.int .i64 (Go.bits .and .i64 (rd l1 x25_2) 3), .int .i64 0, .string (⟨#[]⟩ : ByteArray), .bool false]) ?_ 3 _ rfl; (with_reducible repeat (first | refine blk_drewN ?_ _ | refine blk_drew ?_ | refine blk_alloc ?_ _)); exact BK209.out⟩, ⟨by repeat (first | (with_reducible first | exact HI207.out | apply IsS70.alloc | apply IsS70.drewN | apply IsS70.drew | apply IsS70.set_0 | apply IsS70.set_1 | refine IsS70.far ?_ NB207_209.out _) | exact HI207.out)⟩, ⟨by repeat (first | (with_reducible first | exact HB.out | apply below_alloc | apply pw_below_drewN | apply below_drew1 | refine below_set ?_ (IsS70.ge HI207.out) | refine below_set ?_ GE209.out) | exact HB.out)⟩⟩
                    case rest =>
                      clear HC14
                      try clear c1
                      try clear c2
                      try clear p2
                      try clear q2
                      try clear hx2
                      try clear c3
                      try clear c4
                      try clear c7
                      try clear c7b0
                      try clear c7b1
                      try clear c8
                      try clear c11
                      try clear c11b0
                      try clear c12
                      try clear c12b0
                      try clear c13
                      try clear c13b0
                      try clear c16
                      try clear c18
                      try clear c18b0
                      try clear c18b1
                      try clear c20
                      try clear p20
                      try clear q20
                      try clear hx20
                      try clear c21
                      try clear c23
                      try clear c23b0
                      try clear c23b1
                      try clear c25
                      try clear c26
                      try clear c27
                      try clear c30
                      try clear hcz17_0
                      try clear hcz17_1
                      try clear hcz17_2
                      try clear hcz17_3
                      try clear hcz22_0
                      try clear hcz22_1
                      try clear hcz22_2
                      try clear hcz22_3
                      try clear hcz27_0
                      try clear hcz27_1
                      try clear hcz27_2
                      try clear hcz27_3
                      try clear hcz31_0
                      try clear hcz31_1
                      try clear hcz31_2
                      try clear hcz31_3
                      try clear hfz17_0
                      try clear hfz17_1
                      try clear hfz17_2
                      try clear hfz17_3
                      try clear hfz22_0
                      try clear hfz22_1
                      try clear hfz22_2
                      try clear hfz22_3
                      try clear hfz27_0
                      try clear hfz27_1
                      try clear hfz27_2
                      try clear hfz27_3
                      try clear hfz31_0
                      try clear hfz31_1
                      try clear hfz31_2
                      try clear hfz31_3
                      try clear hx208_0
                      try clear p2
                      try clear p208
                      try clear q208
                      obtain ⟨kq, x208000_13, x208001_13, x210001_13, x210002_13, x210003_13, HA, HJ13, BK209, HI207, HB⟩ := hcut
                      cases kq with
                      | zero => exact absurd HA.out (by simp [mailbaglaw01_OctetReads.j2])
                      | succ kj13 =>
                        have H := HA.out
                        clear HA
                        simp only [mailbaglaw01_OctetReads.j2] at H
                        replace H := Option.bind_eq_some_iff.mp H
                        obtain ⟨⟨t219, t220, t221⟩, A320, H⟩ := H
                        replace H : (if t219 = 0 then ((mailbaglaw01_lay.f kj13 (([(⟨(Go.bits .and .i64 (rd l1 x25_2) 3), x210001_13, x210002_13, x210003_13⟩ : S42)] : List (S42)))).bind fun t228 => (if (wrap64 ((a0.size : Int) - x6_2)) < (t228.size : Int) then (mailbaglaw01_OctetReads.j3 kj13 a0 x6_2 t228 l1 (l1.length : Int) x25_2 true t220 t221) else (if 0 ≤ x6_2 then (if x6_2 ≤ (wrap64 (x6_2 + (t228.size : Int))) then (if (wrap64 (x6_2 + (t228.size : Int))) ≤ (a0.size : Int) then (mailbaglaw01_OctetReads.j3 kj13 a0 x6_2 t228 l1 (l1.length : Int) x25_2 ((a0.extract (x6_2 : Int).toNat ((wrap64 (x6_2 + (t228.size : Int))) : Int).toNat).toList != t228.toList) t220 t221) else (none)) else (none)) else (none)))) else ((octet_Reader_Left.f t220 t221).bind fun bt222 => (some (bt222.1 == 0)))) = some r := H
                        have A32 := Aside0.mk A320
                        clear A320
                        by_cases c33 : t219 = 0
                        · rw [if_pos c33] at H
                          have c33b0 : (t219 == 0) = true := beq_iff_eq.mpr c33
                          have c33b1 : (t219 != 0) = false := bne_eq_false_iff_eq.mpr c33
                          clear c33
                          obtain ⟨y225, hy225⟩ : ∃ y_ : List (S42), y_ = (([(⟨(Go.bits .and .i64 (rd l1 x25_2) 3), x210001_13, x210002_13, x210003_13⟩ : S42)] : List (S42))) := ⟨_, rfl⟩
                          replace H : ((mailbaglaw01_lay.f kj13 y225).bind fun t228 => (if (wrap64 ((a0.size : Int) - x6_2)) < (t228.size : Int) then (mailbaglaw01_OctetReads.j3 kj13 a0 x6_2 t228 l1 (l1.length : Int) x25_2 true t220 t221) else (if 0 ≤ x6_2 then (if x6_2 ≤ (wrap64 (x6_2 + (t228.size : Int))) then (if (wrap64 (x6_2 + (t228.size : Int))) ≤ (a0.size : Int) then (mailbaglaw01_OctetReads.j3 kj13 a0 x6_2 t228 l1 (l1.length : Int) x25_2 ((a0.extract (x6_2 : Int).toNat ((wrap64 (x6_2 + (t228.size : Int))) : Int).toNat).toList != t228.toList) t220 t221) else (none)) else (none)) else (none)))) = some r := by first | (rw [hy225]; with_reducible exact H) | (have H2_ := (Option.bind_some _ _).symm.trans H; rw [hy225]; with_reducible exact H2_) | (have H2_ := (Option.bind_some _ _).symm.trans H; with_reducible exact H2_) | with_reducible exact H | (rw [hy225]; exact H) | exact H
                          have Ny225 := Aside0.mk hy225
                          clear hy225
                          replace H := Option.bind_eq_some_iff.mp H
                          obtain ⟨t228, A340, H⟩ := H
                          replace H : (if (wrap64 ((a0.size : Int) - x6_2)) < (t228.size : Int) then (mailbaglaw01_OctetReads.j3 kj13 a0 x6_2 t228 l1 (l1.length : Int) x25_2 true t220 t221) else (if 0 ≤ x6_2 then (if x6_2 ≤ (wrap64 (x6_2 + (t228.size : Int))) then (if (wrap64 (x6_2 + (t228.size : Int))) ≤ (a0.size : Int) then (mailbaglaw01_OctetReads.j3 kj13 a0 x6_2 t228 l1 (l1.length : Int) x25_2 ((a0.extract (x6_2 : Int).toNat ((wrap64 (x6_2 + (t228.size : Int))) : Int).toNat).toList != t228.toList) t220 t221) else (none)) else (none)) else (none))) = some r := H
                          have A34 := Aside0.mk A340
                          clear A340
                          have HC35 := Aside0.mk H
                          clear H
                          go_upto_region 20 with (first | ((with_reducible refine gate_callee (f := 22) rfl ?_); refine goesL_ (some 48) rfl rfl Try.func22 (by kernel_rfl) rfl #[.pointer (some ⟨g207, 0, none⟩)] rfl (by (try simp only [List.map_toArray, List.map_cons, List.map_nil]); first | done | rfl | (simp only [List.length_drop, List.length_take]; rfl)) ?_; (with_reducible refine (octet_Reader_Err.calls g207 x208000_13 x208001_13 t219 t220 t221 w _ ?side1 ?side2 A32.out).mono ?_); (case side1 => repeat (first | (with_reducible first | exact HI207.out | apply IsS70.alloc | apply IsS70.drewN | apply IsS70.drew | apply IsS70.set_0 | apply IsS70.set_1 | refine IsS70.far ?_ NB207_209.out _) | exact HI207.out)); (case side2 => repeat (first | (with_reducible first | exact HB.out | apply below_alloc | apply pw_below_drewN | apply below_drew1 | refine below_set ?_ (IsS70.ge HI207.out) | refine below_set ?_ GE209.out) | exact HB.out)); rintro e w36 ⟨rfl, hi, hb, hk⟩; refine ⟨_, rfl, ?_⟩; have n0_ := Aside0.mk (KeepBut.blk hk (g' := gb209) (o := .cells #[.int .i64 (Go.bits .and .i64 (rd l1 x25_2) 3), .int .i64 x210001_13, .string x210002_13, .bool x210003_13] 42 (0, 0)) (by (with_reducible repeat (first | refine blk_drewN ?_ _ | refine blk_drew ?_ | refine blk_alloc ?_ _)); exact BK209.out) NB209_207.out (by simp)); have n1_ := Aside0.mk (hb); have n2_ := Aside0.mk (hi); clear BK209; clear HB; clear HI207; have BK209 := n0_; have HB := n1_; have HI207 := n2_; clear n0_ n1_ n2_; (try clear hb); (try clear hb2); (try clear hk); (try clear hi); have hnb37 := NB209_207.out; have hnc37 := NB207_209.out; have hcz38_0 : w36.cell? ⟨gb209, 0, none⟩ = some (.int .i64 (Go.bits .and .i64 (rd l1 x25_2) 3)) := (blk_cell BK209.out 0).trans rfl; have hcz38_1 : w36.cell? ⟨gb209, 1, none⟩ = some (.int .i64 x210001_13) := (blk_cell BK209.out 1).trans rfl; have hcz38_2 : w36.cell? ⟨gb209, 2, none⟩ = some (.string x210002_13) := (blk_cell BK209.out 2).trans rfl; have hcz38_3 : w36.cell? ⟨gb209, 3, none⟩ = some (.bool x210003_13) := (blk_cell BK209.out 3).trans rfl; have hfz38_0 := blk_frozen BK209.out 0; have hfz38_1 := blk_frozen BK209.out 1; have hfz38_2 := blk_frozen BK209.out 2; have hfz38_3 := blk_frozen BK209.out 3) | ((with_reducible refine gate_dst (N := 54) rfl ?_); (try (refine gate_guard (by rfl) ?_; dsimp only)); refine Kd.R_lit k42 _ 42 ?hg (N := 54) ?hd (xs := ([(⟨(Go.bits .and .i64 (rd l1 x25_2) 3), x210001_13, x210002_13, x210003_13⟩ : S42)] : List (S42))) (inner := [.int .i64 (Go.bits .and .i64 (rd l1 x25_2) 3), .int .i64 x210001_13, .string x210002_13, .bool x210003_13]) (ok := fun _ => True) (okp := fun _ => True) ?hr ?hp (fun _ hk => hk) trivial (Below.refl _ _) (Nat.le_refl _) (by simp) ?_; (case hd => rfl); (case hg => rfl); (case hr => first | (go_simp; done) | (go_simp; rfl)); (case hp => exact (Reps.c4 (show Kd.M k42 _ _ _ (⟨(Go.bits .and .i64 (rd l1 x25_2) 3), x210001_13, x210002_13, x210003_13⟩ : S42) [.int .i64 (Go.bits .and .i64 (rd l1 x25_2) 3), .int .i64 x210001_13, .string x210002_13, .bool x210003_13] from (k42_mkM _ _ _ (⟨(Go.bits .and .i64 (rd l1 x25_2) 3), x210001_13, x210002_13, x210003_13⟩ : S42) )) (Reps.none _ _))); intro v226 w39 ho40 hb hg_ hnew_; clear hg_ hnew_; (first | rw [← Ny225.out] at ho40 | (simp only [Int.reduceToNat] at ho40; rw [← Ny225.out] at ho40)); have n0_ := Aside0.mk (Kd.R_lower (Kd.R_newB ho40 (g := gb209) (o := .cells #[.int .i64 (Go.bits .and .i64 (rd l1 x25_2) 3), .int .i64 x210001_13, .string x210002_13, .bool x210003_13] 42 (0, 0)) (by (with_reducible repeat (first | refine blk_drewN ?_ _ | refine blk_drew ?_ | refine blk_alloc ?_ _)); exact BK209.out)) (below_size (by repeat (first | (with_reducible first | exact HB.out | apply below_alloc | apply pw_below_drewN | apply below_drew1 | refine below_set ?_ (IsS70.ge HI207.out) | refine below_set ?_ GE209.out) | exact HB.out)))); have n1_ := Aside0.mk (blk_below (g := gb209) (o := .cells #[.int .i64 (Go.bits .and .i64 (rd l1 x25_2) 3), .int .i64 x210001_13, .string x210002_13, .bool x210003_13] 42 (0, 0)) (by (with_reducible repeat (first | refine blk_drewN ?_ _ | refine blk_drew ?_ | refine blk_alloc ?_ _)); exact BK209.out) hb); have n2_ := Aside0.mk (IsS70.below (by repeat (first | (with_reducible first | exact HI207.out | apply IsS70.alloc | apply IsS70.drewN | apply IsS70.drew | apply IsS70.set_0 | apply IsS70.set_1 | refine IsS70.far ?_ NB207_209.out _) | exact HI207.out)) hb); have n3_ := Aside0.mk (below_step (by repeat (first | (with_reducible first | exact HB.out | apply below_alloc | apply pw_below_drewN | apply below_drew1 | refine below_set ?_ (IsS70.ge HI207.out) | refine below_set ?_ GE209.out) | exact HB.out)) hb); clear BK209; clear HI207; clear HB; have HO227 := n0_; have BK209 := n1_; have HI207 := n2_; have HB := n3_; clear n0_ n1_ n2_ n3_; clear hb ho40; obtain ⟨Ao41, co41, eo41⟩ := Kd.R_slice HO227.out; subst eo41) | ((with_reducible refine gate_callee (f := 28) rfl ?_); refine goesL_ (some 55) rfl rfl Try.func28 (by kernel_rfl) rfl #[.slice Ao41 y225.length co41] rfl (by (try simp only [List.map_toArray, List.map_cons, List.map_nil]); first | done | rfl | (simp only [List.length_drop, List.length_take]; rfl)) ?_; (with_reducible refine (mailbaglaw01_lay.calls kj13 _ _ y225 t228 _ ?side1 ?side2 A34.out).mono ?_); (case side1 => repeat (first | exact (Kd.R_reads' HO227.out).2.2 | (with_reducible refine Kd.C_alloc ?_ _) | (with_reducible refine Kd.C_drewN ?_ _) | (with_reducible refine Kd.C_drew ?_))); (case side2 => exact (Kd.R_reads' HO227.out).2.1); rintro e w42 ⟨rfl, hb⟩; refine ⟨_, rfl, ?_⟩; have n0_ := Aside0.mk (Kd.R_below (by (with_reducible repeat (first | apply Kd.R_alloc | apply Kd.R_drewN | apply Kd.R_drew)); exact HO227.out) hb); have n1_ := Aside0.mk (blk_below (g := gb209) (o := .cells #[.int .i64 (Go.bits .and .i64 (rd l1 x25_2) 3), .int .i64 x210001_13, .string x210002_13, .bool x210003_13] 42 (0, 0)) (by (with_reducible repeat (first | refine blk_drewN ?_ _ | refine blk_drew ?_ | refine blk_alloc ?_ _)); exact BK209.out) hb); have n2_ := Aside0.mk (IsS70.below (by repeat (first | (with_reducible first | exact HI207.out | apply IsS70.alloc | apply IsS70.drewN | apply IsS70.drew | apply IsS70.set_0 | apply IsS70.set_1 | refine IsS70.far ?_ NB207_209.out _) | exact HI207.out)) hb); have n3_ := Aside0.mk (below_step (by repeat (first | (with_reducible first | exact HB.out | apply below_alloc | apply pw_below_drewN | apply below_drew1 | refine below_set ?_ (IsS70.ge HI207.out) | refine below_set ?_ GE209.out) | exact HB.out)) hb); clear HO227; clear BK209; clear HI207; clear HB; have HO227 := n0_; have BK209 := n1_; have HI207 := n2_; have HB := n3_; clear n0_ n1_ n2_ n3_; (try clear hb); (try clear hb2); (try clear hk); (try clear hi)))
                          (try simp only [Act.put, List.setIfInBounds_toArray, List.set_cons_zero, List.set_cons_succ])
                          go_cut [73] (fun v73 wc => ∃ (kq : Nat) (x73_34 : Bool), v73 = .bool x73_34 ∧ Aside0 (mailbaglaw01_OctetReads.j3 kq a0 x6_2 t228 l1 (l1.length : Int) x25_2 x73_34 t220 t221 = some r) ∧ Aside0 (kq ≤ kj13) ∧ Aside0 (wc.heap[gb209]? = some (.cells #[.int .i64 (Go.bits .and .i64 (rd l1 x25_2) 3), .int .i64 x210001_13, .string x210002_13, .bool x210003_13] 42 (0, 0))) ∧ Aside0 (IsS70 w wc g207 t220 t221) ∧ Aside0 (Below w.heap.size w wc))
                          case first =>
                            have H := HC35.out
                            clear HC35
                            by_cases c43 : (wrap64 ((a0.size : Int) - x6_2)) < (t228.size : Int)
                            · rw [if_pos c43] at H
                              have c43b0 : decide ((wrap64 ((a0.size : Int) - x6_2)) < (t228.size : Int)) = true := decide_eq_true c43
                              clear c43
                              (first | rw [c43b0] | (simp only [i64_w, i32_w]; rw [c43b0]) | skip)
                              have H' := Aside0.mk H
                              clear H
                              go_wp2
                              go_meet
                              case rel => exact ⟨_, (true), (by first | rfl | (simp; done) | (simp [*]; done)), H', ⟨by have := HJ4.out; have := HK2.out; have := HJ13.out; first | omega | exact Nat.le_refl _⟩, ⟨by (with_reducible repeat (first | refine blk_drewN ?_ _ | refine blk_drew ?_ | refine blk_alloc ?_ _)); exact BK209.out⟩, ⟨by repeat (first | (with_reducible first | exact HI207.out | apply IsS70.alloc | apply IsS70.drewN | apply IsS70.drew | apply IsS70.set_0 | apply IsS70.set_1 | refine IsS70.far ?_ NB207_209.out _) | exact HI207.out)⟩, ⟨by repeat (first | (with_reducible first | exact HB.out | apply below_alloc | apply pw_below_drewN | apply below_drew1 | refine below_set ?_ (IsS70.ge HI207.out) | refine below_set ?_ GE209.out) | exact HB.out)⟩⟩
                            · rw [if_neg c43] at H
                              have c43b0 : decide ((wrap64 ((a0.size : Int) - x6_2)) < (t228.size : Int)) = false := decide_eq_false c43
                              clear c43
                              (first | rw [c43b0] | (simp only [i64_w, i32_w]; rw [c43b0]) | skip)
                              by_cases c44 : 0 ≤ x6_2
                              · rw [if_pos c44] at H
                                have c44b0 := eq_true c44
                                have c44b1 : decide (0 ≤ x6_2) = true := decide_eq_true c44
                                clear c44
                                by_cases c45 : x6_2 ≤ (wrap64 (x6_2 + (t228.size : Int)))
                                · rw [if_pos c45] at H
                                  have c45b0 := eq_true c45
                                  have c45b1 : decide (x6_2 ≤ (wrap64 (x6_2 + (t228.size : Int)))) = true := decide_eq_true c45
                                  by_cases c46 : (wrap64 (x6_2 + (t228.size : Int))) ≤ (a0.size : Int)
                                  · rw [if_pos c46] at H
                                    have c46b0 := eq_true c46
                                    have c46b1 : decide ((wrap64 (x6_2 + (t228.size : Int))) ≤ (a0.size : Int)) = true := decide_eq_true c46
                                    have H' := Aside0.mk H
                                    clear H
                                    go_wp2
                                    go_meet
                                    case rel => exact ⟨_, (((a0.extract (x6_2 : Int).toNat ((wrap64 (x6_2 + (t228.size : Int))) : Int).toNat).toList != t228.toList)), (by first | rfl | (simp; done) | (simp [*]; done)), H', ⟨by have := HJ4.out; have := HK2.out; have := HJ13.out; first | omega | exact Nat.le_refl _⟩, ⟨by (with_reducible repeat (first | refine blk_drewN ?_ _ | refine blk_drew ?_ | refine blk_alloc ?_ _)); exact BK209.out⟩, ⟨by repeat (first | (with_reducible first | exact HI207.out | apply IsS70.alloc | apply IsS70.drewN | apply IsS70.drew | apply IsS70.set_0 | apply IsS70.set_1 | refine IsS70.far ?_ NB207_209.out _) | exact HI207.out)⟩, ⟨by repeat (first | (with_reducible first | exact HB.out | apply below_alloc | apply pw_below_drewN | apply below_drew1 | refine below_set ?_ (IsS70.ge HI207.out) | refine below_set ?_ GE209.out) | exact HB.out)⟩⟩
                                  · rw [if_neg c46] at H
                                    exact absurd H (by simp)
                                · rw [if_neg c45] at H
                                  exact absurd H (by simp)
                              · rw [if_neg c44] at H
                                exact absurd H (by simp)
                          case rest =>
                            clear HC35
                            try clear c1
                            try clear c2
                            try clear p2
                            try clear q2
                            try clear hx2
                            try clear c3
                            try clear c4
                            try clear p6
                            try clear c7
                            try clear c7b0
                            try clear c7b1
                            try clear c8
                            try clear c11
                            try clear c11b0
                            try clear c12
                            try clear c12b0
                            try clear c13
                            try clear c13b0
                            try clear c16
                            try clear c18
                            try clear c18b0
                            try clear c18b1
                            try clear c20
                            try clear p20
                            try clear q20
                            try clear hx20
                            try clear c21
                            try clear c22
                            try clear c23
                            try clear c23b0
                            try clear c23b1
                            try clear c25
                            try clear c26
                            try clear c27
                            try clear c28
                            try clear c30
                            try clear c33
                            try clear c33b0
                            try clear c33b1
                            try clear c37
                            try clear c43
                            try clear c43b0
                            try clear c44
                            try clear c44b0
                            try clear c44b1
                            try clear c45
                            try clear c45b0
                            try clear c45b1
                            try clear c46
                            try clear c46b0
                            try clear c46b1
                            try clear hcz17_0
                            try clear hcz17_1
                            try clear hcz17_2
                            try clear hcz17_3
                            try clear hcz22_0
                            try clear hcz22_1
                            try clear hcz22_2
                            try clear hcz22_3
                            try clear hcz27_0
                            try clear hcz27_1
                            try clear hcz27_2
                            try clear hcz27_3
                            try clear hcz31_0
                            try clear hcz31_1
                            try clear hcz31_2
                            try clear hcz31_3
                            try clear hcz38_0
                            try clear hcz38_1
                            try clear hcz38_2
                            try clear hcz38_3
                            try clear hfz17_0
                            try clear hfz17_1
                            try clear hfz17_2
                            try clear hfz17_3
                            try clear hfz22_0
                            try clear hfz22_1
                            try clear hfz22_2
                            try clear hfz22_3
                            try clear hfz27_0
                            try clear hfz27_1
                            try clear hfz27_2
                            try clear hfz27_3
                            try clear hfz31_0
                            try clear hfz31_1
                            try clear hfz31_2
                            try clear hfz31_3
                            try clear hfz38_0
                            try clear hfz38_1
                            try clear hfz38_2
                            try clear hfz38_3
                            try clear hx208_0
                            try clear p2
                            try clear p20
                            try clear p208
                            try clear q2
                            try clear q20
                            try clear q208
                            obtain ⟨kq, x73_34, rfl, HA, HJ34, BK209, HI207, HB⟩ := hcut
                            cases kq with
                            | zero => exact absurd HA.out (by simp [mailbaglaw01_OctetReads.j3])
                            | succ kj34 =>
                              have H := HA.out
                              clear HA
                              simp only [mailbaglaw01_OctetReads.j3] at H
                              by_cases c47 : x73_34 = true
                              · subst c47
                                have H1 : (some false) = some r := by rw [if_pos rfl] at H; exact H
                                clear H
                                have H := H1
                                clear H1
                                obtain rfl := Option.some.inj H
                                go_wp2
                                go_ret
                                exact ⟨by first | rfl | (simp [errW_none, errW_some] <;> rfl) | (simp [*, errW_none, errW_some] <;> rfl), by repeat (first | (with_reducible first | exact HB.out | apply below_alloc | apply pw_below_drewN | apply below_drew1 | refine below_set ?_ (IsS70.ge HI207.out) | refine below_set ?_ GE209.out) | exact HB.out)⟩
                              · replace c47 := Bool.eq_false_iff.mpr c47
                                subst c47
                                have H1 : ((octet_Reader_Left.f t220 t221).bind fun bt229 => (if bt229.1 = (wrap64 ((a0.size : Int) - (wrap64 (x6_2 + (t228.size : Int))))) then (mailbaglaw01_OctetReads.l0 kj34 a0 (wrap64 (x6_2 + (t228.size : Int))) l1 (l1.length : Int) (wrap64 (x25_2 + 1)) bt229.2.1 bt229.2.2) else (some false))) = some r := by rw [if_neg (show ¬ (false = true) by decide)] at H; exact H
                                clear H
                                have H := H1
                                clear H1
                                replace H := Option.bind_eq_some_iff.mp H
                                obtain ⟨⟨t229, t230, t231⟩, A480, H⟩ := H
                                replace H : (if t229 = (wrap64 ((a0.size : Int) - (wrap64 (x6_2 + (t228.size : Int))))) then (mailbaglaw01_OctetReads.l0 kj34 a0 (wrap64 (x6_2 + (t228.size : Int))) l1 (l1.length : Int) (wrap64 (x25_2 + 1)) t230 t231) else (some false)) = some r := H
                                have A48 := Aside0.mk A480
                                clear A480
                                by_cases c49 : t229 = (wrap64 ((a0.size : Int) - (wrap64 (x6_2 + (t228.size : Int)))))
                                · rw [if_pos c49] at H
                                  have c49b0 : (t229 == (wrap64 ((a0.size : Int) - (wrap64 (x6_2 + (t228.size : Int)))))) = true := beq_iff_eq.mpr c49
                                  have c49b1 : (t229 != (wrap64 ((a0.size : Int) - (wrap64 (x6_2 + (t228.size : Int)))))) = false := bne_eq_false_iff_eq.mpr c49
                                  clear c49
                                  have H' := Aside0.mk H
                                  clear H
                                  go_wp2_with (first | ((with_reducible refine gate_callee (f := 23) rfl ?_); refine goesL_ (some 79) rfl rfl Try.func23 (by kernel_rfl) rfl #[.pointer (some ⟨g207, 0, none⟩)] rfl (by (try simp only [List.map_toArray, List.map_cons, List.map_nil]); first | done | rfl | (simp only [List.length_drop, List.length_take]; rfl)) ?_; (with_reducible refine (octet_Reader_Left.calls g207 t220 t221 t229 t230 t231 w _ ?side1 ?side2 A48.out).mono ?_); (case side1 => repeat (first | (with_reducible first | exact HI207.out | apply IsS70.alloc | apply IsS70.drewN | apply IsS70.drew | apply IsS70.set_0 | apply IsS70.set_1 | refine IsS70.far ?_ NB207_209.out _) | exact HI207.out)); (case side2 => repeat (first | (with_reducible first | exact HB.out | apply below_alloc | apply pw_below_drewN | apply below_drew1 | refine below_set ?_ (IsS70.ge HI207.out) | refine below_set ?_ GE209.out) | exact HB.out)); rintro e w50 ⟨rfl, hi, hb, hk⟩; refine ⟨_, rfl, ?_⟩; have n0_ := Aside0.mk (KeepBut.blk hk (g' := gb209) (o := .cells #[.int .i64 (Go.bits .and .i64 (rd l1 x25_2) 3), .int .i64 x210001_13, .string x210002_13, .bool x210003_13] 42 (0, 0)) (by (with_reducible repeat (first | refine blk_drewN ?_ _ | refine blk_drew ?_ | refine blk_alloc ?_ _)); exact BK209.out) NB209_207.out (by simp)); have n1_ := Aside0.mk (hb); have n2_ := Aside0.mk (hi); clear BK209; clear HB; clear HI207; have BK209 := n0_; have HB := n1_; have HI207 := n2_; clear n0_ n1_ n2_; (try clear hb); (try clear hb2); (try clear hk); (try clear hi)))
                                  go_roundg kj34
                                  case measure => have := HJ4.out; have := HK2.out; have := HJ13.out; have := HJ34.out; omega
                                  case rel => exact ⟨(wrap64 (x6_2 + (t228.size : Int))), (wrap64 (x25_2 + 1)), (t230), (t231), (by first | rfl | (simp; done) | (simp [*]; done)), (by first | rfl | (simp; done) | (simp [*]; done)), H', ⟨by have := HJ4.out; have := HK2.out; have := HJ13.out; have := HJ34.out; omega⟩, ⟨by repeat (first | (with_reducible first | exact HI207.out | apply IsS70.alloc | apply IsS70.drewN | apply IsS70.drew | apply IsS70.set_0 | apply IsS70.set_1 | refine IsS70.far ?_ NB207_209.out _) | exact HI207.out)⟩, ⟨by repeat (first | (with_reducible first | exact HB.out | apply below_alloc | apply pw_below_drewN | apply below_drew1 | refine below_set ?_ (IsS70.ge HI207.out) | refine below_set ?_ GE209.out) | exact HB.out)⟩⟩
                                · rw [if_neg c49] at H
                                  have c49b0 : (t229 == (wrap64 ((a0.size : Int) - (wrap64 (x6_2 + (t228.size : Int)))))) = false := beq_eq_false_iff_ne.mpr c49
                                  have c49b1 : (t229 != (wrap64 ((a0.size : Int) - (wrap64 (x6_2 + (t228.size : Int)))))) = true := bne_iff_ne.mpr c49
                                  obtain rfl := Option.some.inj H
                                  go_wp2_with (first | ((with_reducible refine gate_callee (f := 23) rfl ?_); refine goesL_ (some 79) rfl rfl Try.func23 (by kernel_rfl) rfl #[.pointer (some ⟨g207, 0, none⟩)] rfl (by (try simp only [List.map_toArray, List.map_cons, List.map_nil]); first | done | rfl | (simp only [List.length_drop, List.length_take]; rfl)) ?_; (with_reducible refine (octet_Reader_Left.calls g207 t220 t221 t229 t230 t231 w _ ?side1 ?side2 A48.out).mono ?_); (case side1 => repeat (first | (with_reducible first | exact HI207.out | apply IsS70.alloc | apply IsS70.drewN | apply IsS70.drew | apply IsS70.set_0 | apply IsS70.set_1 | refine IsS70.far ?_ NB207_209.out _) | exact HI207.out)); (case side2 => repeat (first | (with_reducible first | exact HB.out | apply below_alloc | apply pw_below_drewN | apply below_drew1 | refine below_set ?_ (IsS70.ge HI207.out) | refine below_set ?_ GE209.out) | exact HB.out)); rintro e w51 ⟨rfl, hi, hb, hk⟩; refine ⟨_, rfl, ?_⟩; have n0_ := Aside0.mk (KeepBut.blk hk (g' := gb209) (o := .cells #[.int .i64 (Go.bits .and .i64 (rd l1 x25_2) 3), .int .i64 x210001_13, .string x210002_13, .bool x210003_13] 42 (0, 0)) (by (with_reducible repeat (first | refine blk_drewN ?_ _ | refine blk_drew ?_ | refine blk_alloc ?_ _)); exact BK209.out) NB209_207.out (by simp)); have n1_ := Aside0.mk (hb); have n2_ := Aside0.mk (hi); clear BK209; clear HB; clear HI207; have BK209 := n0_; have HB := n1_; have HI207 := n2_; clear n0_ n1_ n2_; (try clear hb); (try clear hb2); (try clear hk); (try clear hi)))
                                  go_ret
                                  exact ⟨by first | rfl | (simp [errW_none, errW_some] <;> rfl) | (simp [*, errW_none, errW_some] <;> rfl), by repeat (first | (with_reducible first | exact HB.out | apply below_alloc | apply pw_below_drewN | apply below_drew1 | refine below_set ?_ (IsS70.ge HI207.out) | refine below_set ?_ GE209.out) | exact HB.out)⟩
                        · rw [if_neg c33] at H
                          have c33b0 : (t219 == 0) = false := beq_eq_false_iff_ne.mpr c33
                          have c33b1 : (t219 != 0) = true := bne_iff_ne.mpr c33
                          replace H := Option.bind_eq_some_iff.mp H
                          obtain ⟨⟨t222, t223, t224⟩, A520, H⟩ := H
                          replace H : (some (t222 == 0)) = some r := H
                          have A52 := Aside0.mk A520
                          clear A520
                          obtain rfl := Option.some.inj H
                          go_wp2_with (first | ((with_reducible refine gate_callee (f := 22) rfl ?_); refine goesL_ (some 48) rfl rfl Try.func22 (by kernel_rfl) rfl #[.pointer (some ⟨g207, 0, none⟩)] rfl (by (try simp only [List.map_toArray, List.map_cons, List.map_nil]); first | done | rfl | (simp only [List.length_drop, List.length_take]; rfl)) ?_; (with_reducible refine (octet_Reader_Err.calls g207 x208000_13 x208001_13 t219 t220 t221 w _ ?side1 ?side2 A32.out).mono ?_); (case side1 => repeat (first | (with_reducible first | exact HI207.out | apply IsS70.alloc | apply IsS70.drewN | apply IsS70.drew | apply IsS70.set_0 | apply IsS70.set_1 | refine IsS70.far ?_ NB207_209.out _) | exact HI207.out)); (case side2 => repeat (first | (with_reducible first | exact HB.out | apply below_alloc | apply pw_below_drewN | apply below_drew1 | refine below_set ?_ (IsS70.ge HI207.out) | refine below_set ?_ GE209.out) | exact HB.out)); rintro e w53 ⟨rfl, hi, hb, hk⟩; refine ⟨_, rfl, ?_⟩; have n0_ := Aside0.mk (KeepBut.blk hk (g' := gb209) (o := .cells #[.int .i64 (Go.bits .and .i64 (rd l1 x25_2) 3), .int .i64 x210001_13, .string x210002_13, .bool x210003_13] 42 (0, 0)) (by (with_reducible repeat (first | refine blk_drewN ?_ _ | refine blk_drew ?_ | refine blk_alloc ?_ _)); exact BK209.out) NB209_207.out (by simp)); have n1_ := Aside0.mk (hb); have n2_ := Aside0.mk (hi); clear BK209; clear HB; clear HI207; have BK209 := n0_; have HB := n1_; have HI207 := n2_; clear n0_ n1_ n2_; (try clear hb); (try clear hb2); (try clear hk); (try clear hi)) | ((with_reducible refine gate_callee (f := 23) rfl ?_); refine goesL_ (some 51) rfl rfl Try.func23 (by kernel_rfl) rfl #[.pointer (some ⟨g207, 0, none⟩)] rfl (by (try simp only [List.map_toArray, List.map_cons, List.map_nil]); first | done | rfl | (simp only [List.length_drop, List.length_take]; rfl)) ?_; (with_reducible refine (octet_Reader_Left.calls g207 t220 t221 t222 t223 t224 w _ ?side1 ?side2 A52.out).mono ?_); (case side1 => repeat (first | (with_reducible first | exact HI207.out | apply IsS70.alloc | apply IsS70.drewN | apply IsS70.drew | apply IsS70.set_0 | apply IsS70.set_1 | refine IsS70.far ?_ NB207_209.out _) | exact HI207.out)); (case side2 => repeat (first | (with_reducible first | exact HB.out | apply below_alloc | apply pw_below_drewN | apply below_drew1 | refine below_set ?_ (IsS70.ge HI207.out) | refine below_set ?_ GE209.out) | exact HB.out)); rintro e w54 ⟨rfl, hi, hb, hk⟩; refine ⟨_, rfl, ?_⟩; have n0_ := Aside0.mk (KeepBut.blk hk (g' := gb209) (o := .cells #[.int .i64 (Go.bits .and .i64 (rd l1 x25_2) 3), .int .i64 x210001_13, .string x210002_13, .bool x210003_13] 42 (0, 0)) (by (with_reducible repeat (first | refine blk_drewN ?_ _ | refine blk_drew ?_ | refine blk_alloc ?_ _)); exact BK209.out) NB209_207.out (by simp)); have n1_ := Aside0.mk (hb); have n2_ := Aside0.mk (hi); clear BK209; clear HB; clear HI207; have BK209 := n0_; have HB := n1_; have HI207 := n2_; clear n0_ n1_ n2_; (try clear hb); (try clear hb2); (try clear hk); (try clear hi)))
                          go_ret
                          exact ⟨by first | rfl | (simp [errW_none, errW_some] <;> rfl) | (simp [*, errW_none, errW_some] <;> rfl), by repeat (first | (with_reducible first | exact HB.out | apply below_alloc | apply pw_below_drewN | apply below_drew1 | refine below_set ?_ (IsS70.ge HI207.out) | refine below_set ?_ GE209.out) | exact HB.out)⟩
                  · rw [if_neg c13] at H
                    exact absurd H (by simp)
                · rw [if_neg c12] at H
                  exact absurd H (by simp)
              · rw [if_neg c11] at H
                have c11b0 : decide (x25_2 < (l1.length : Int)) = false := decide_eq_false c11
                clear c11
                obtain rfl := Option.some.inj H
                go_wp2
                go_ret
                exact ⟨by first | rfl | (simp [errW_none, errW_some] <;> rfl) | (simp [*, errW_none, errW_some] <;> rfl), by repeat (first | (with_reducible first | exact HB.out | apply below_alloc | apply pw_below_drewN | apply below_drew1 | refine below_set ?_ (IsS70.ge HI207.out)) | exact HB.out)⟩
  · replace c4 := Bool.eq_false_iff.mpr c4
    subst c4
    have H1 : (some false) = some r := by rw [if_neg (show ¬ (false = true) by decide)] at H; exact H
    clear H
    have H := H1
    clear H1
    obtain rfl := Option.some.inj H
    go_enter Try.func7, Try.ntmps7
    go_wp2_with (first | ((with_reducible refine gate_callee (f := 16) rfl ?_); refine goesL_ (some 11) rfl rfl Try.func16 (by kernel_rfl) rfl #[] rfl (by (try simp only [List.map_toArray, List.map_cons, List.map_nil]); first | done | rfl | (simp only [List.length_drop, List.length_take]; rfl)) ?_; (with_reducible refine (mailbaglaw01_head.calls k  false _ A3.out).mono ?_); rintro e w55 ⟨rfl, hb⟩; refine ⟨_, rfl, ?_⟩; have n0_ := Aside0.mk (below_step (by repeat (first | (with_reducible first | exact HB.out | apply below_alloc | apply pw_below_drewN | apply below_drew1) | exact HB.out)) hb); clear HB; have HB := n0_; clear n0_; (try clear hb); (try clear hb2); (try clear hk); (try clear hi)))
    go_ret
    exact ⟨by first | rfl | (simp [errW_none, errW_some] <;> rfl) | (simp [*, errW_none, errW_some] <;> rfl), by repeat (first | (with_reducible first | exact HB.out | apply below_alloc | apply pw_below_drewN | apply below_drew1) | exact HB.out)⟩

/-- THE ONE PURE STATEMENT of mailbaglaw01_OctetReads: yours. -/
def mailbaglaw01_OctetReads.Pure : Prop := ∀ (a0 : ByteArray) (l1 : List Int), a0.size ≤ 140737488351232 → l1.length ≤ maxLen → l1.length * 8 ≤ 140737488351232 → (∀ x ∈ l1, (Lit.int .i64 x).wf = true) → ∃ k, mailbaglaw01_OctetReads.f k a0 l1 = some true
theorem mailbaglaw01_OctetReads.walk (P : mailbaglaw01_OctetReads.Pure) (a0 : ByteArray) (a1 : Option Addr) (len1 cap1 : Nat) (z1 : List Int) (w : World) (w0 : a0.size ≤ 140737488351232) (w1 : (a1 = none ∧ len1 = 0 ∧ cap1 = 0 ∧ z1 = []) ∨ ∃ x, a1 = some x ∧ len1 ≤ cap1 ∧ cap1 ≤ maxLen ∧ z1.length = cap1 ∧ (∀ i, i < z1.length → w.cell? (x.add i) = some (.int .i64 (z1.getD i 0))) ∧ ∀ n ∈ z1, (Lit.int .i64 n).wf = true) (y1 : len1 * 8 ≤ 140737488351232) :
    Calls Try.prog 7 #[.string a0, .slice a1 len1 cap1] w fun e w' => e = .returned (.bool true) ∧ Below w.heap.size w w' := by
  obtain ⟨l1, rfl, hr1, hm1, hw1, hc1⟩ := ReadsInt.ofRowC w1
  obtain ⟨k, h⟩ := P a0 l1 w0 hm1 y1 hw1
  refine (mailbaglaw01_OctetReads.calls k a0 _ _ l1 true w (Kd.C_of_reads (d := (0 : Int)) (h1 := fun _ => rfl) hr1) hc1 h).mono ?_
  rintro e w' ⟨rfl, hd⟩
  exact ⟨rfl, hd⟩

end Go.Proofs.Ythpgpljpadlegaa.Q
