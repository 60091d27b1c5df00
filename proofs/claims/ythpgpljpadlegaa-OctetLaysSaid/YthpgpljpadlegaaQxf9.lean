/- By a program of this session, out of the translation as Lean prints it: what the Go code computes, and that it does. -/
import Derived.Test.YthpgpljpadlegaaQx0
import Derived.Test.YthpgpljpadlegaaQxf17
import Derived.Test.YthpgpljpadlegaaQxf16
import Derived.Test.YthpgpljpadlegaaQxf20
import Derived.Test.YthpgpljpadlegaaQxf22
import Derived.Test.YthpgpljpadlegaaQxf23
import Derived.Test.YthpgpljpadlegaaQxf24
import Derived.Test.YthpgpljpadlegaaQxf25
import Derived.Test.YthpgpljpadlegaaQxf26
import Derived.Test.YthpgpljpadlegaaQxf27
import Derived.Test.YthpgpljpadlegaaQxf28
import Derived.Test.YthpgpljpadlegaaQxf29
import Derived.Test.YthpgpljpadlegaaQxf30
import Derived.Test.YthpgpljpadlegaaQxf31
namespace Go.Proofs.Ythpgpljpadlegaa.Q
open Go.RowKit Go.Proofs.YthpgpljpadlegaaW.PrintWords Go.Proofs.YthpgpljpadlegaaW.PrintLast Go.Proofs.YthpgpljpadlegaaW.PrintMore
attribute [local go_sem] max2_int min2_int max_two min_two max_three min_three max_four min_four Aid.leq_str Aid.gtr_str Aid.geq_str   -- for this text's walks alone
set_option linter.unusedVariables false
set_option linter.unusedSimpArgs false

/-! ### mailbaglaw01_OctetLays: function 9 -/
mutual
def mailbaglaw01_OctetLays.j0 : Nat → List Int → List (S42) → Bool → Option (Bool)
  | 0, _, _, _ => none
  | k + 1, x0, x1, x20 => if x20 = true then (some true) else ((some (([] : List Int) : List Int)).bind fun y274 => (if y274.length + x0.length < 140737488355328 then (mailbaglaw01_OctetLays.l0 k x0 x1 (y274 ++ x0) x1 (x1.length : Int) 0) else (none)))
def mailbaglaw01_OctetLays.l0 : Nat → List Int → List (S42) → List Int → List (S42) → Int → Int → Option (Bool)
  | 0, _, _, _, _, _, _ => none
  | k + 1, x0, x1, x5, x24, x25, x26 => if x26 < x25 then (if 0 ≤ x26 then (if x26 < (x24.length : Int) then (if (Go.bits .and .i64 ((rd_T42 x24 x26).f0) 3) = 0 then ((octet_Num.f k x5 ((rd_T42 x24 x26).f1)).bind fun t282 => (mailbaglaw01_OctetLays.l0 k x0 x1 t282 x24 x25 (wrap64 (x26 + 1)))) else (if (Go.bits .and .i64 ((rd_T42 x24 x26).f0) 3) = 1 then ((octet_Text.f k x5 ((rd_T42 x24 x26).f2)).bind fun t285 => (mailbaglaw01_OctetLays.l0 k x0 x1 t285 x24 x25 (wrap64 (x26 + 1)))) else ((octet_Flag.f x5 ((rd_T42 x24 x26).f3)).bind fun t288 => (mailbaglaw01_OctetLays.l0 k x0 x1 t288 x24 x25 (wrap64 (x26 + 1)))))) else (none)) else (none)) else ((mailbaglaw01_lay.f k x1).bind fun t291 => (if (strOfNums x0).size + t291.size ≤ 9223372036854775807 then (if (strOfNums x5).toList = ((strOfNums x0) ++ t291).toList then (if 0 ≤ (x0.length : Int) then (if (x0.length : Int) ≤ (x5.length : Int) then ((octet_Read.f (strOfNums (x5.drop ((x0.length : Int) : Int).toNat))).bind fun bt296 => (mailbaglaw01_OctetLays.l1 k x1 (x1.length : Int) 0 bt296.1 bt296.2)) else (none)) else (none)) else (some false)) else (none)))
def mailbaglaw01_OctetLays.l1 : Nat → List (S42) → Int → Int → ByteArray → Bool → Option (Bool)
  | 0, _, _, _, _, _ => none
  | k + 1, x64, x65, x66, x299000, x299001 => if x66 < x65 then (if 0 ≤ x66 then (if x66 < (x64.length : Int) then (if (Go.bits .and .i64 ((rd_T42 x64 x66).f0) 3) = 0 then ((octet_Reader_Num.f k x299000 x299001 4611686018427387904).bind fun bt307 => (if bt307.1 = (mn (mx ((rd_T42 x64 x66).f1) 0) 4611686018427387904) then (mailbaglaw01_OctetLays.j3 k x64 x65 x66 false bt307.2.1 bt307.2.2 ((rd_T42 x64 x66).f0) ((rd_T42 x64 x66).f1) ((rd_T42 x64 x66).f2) ((rd_T42 x64 x66).f3)) else (mailbaglaw01_OctetLays.j3 k x64 x65 x66 (decide (((rd_T42 x64 x66).f1) ≤ 4611686018427387904)) bt307.2.1 bt307.2.2 ((rd_T42 x64 x66).f0) ((rd_T42 x64 x66).f1) ((rd_T42 x64 x66).f2) ((rd_T42 x64 x66).f3)))) else (if (Go.bits .and .i64 ((rd_T42 x64 x66).f0) 3) = 1 then ((octet_Reader_Text.f k x299000 x299001 300).bind fun bt313 => (if bt313.1.toList = ((rd_T42 x64 x66).f2).toList then (mailbaglaw01_OctetLays.l1 k x64 x65 (wrap64 (x66 + 1)) bt313.2.1 bt313.2.2) else (some false))) else ((octet_Reader_Flag.f x299000 x299001).bind fun bt316 => (if (bt316.1 != ((rd_T42 x64 x66).f3)) = true then (some false) else (mailbaglaw01_OctetLays.l1 k x64 x65 (wrap64 (x66 + 1)) bt316.2.1 bt316.2.2))))) else (none)) else (none)) else ((octet_Reader_End.f x299000 x299001).bind fun bt299 => (if bt299.1 = 0 then ((octet_Reader_Left.f bt299.2.1 bt299.2.2).bind fun bt302 => (some (bt302.1 == 0))) else (some false)))
def mailbaglaw01_OctetLays.j3 : Nat → List (S42) → Int → Int → Bool → ByteArray → Bool → Int → Int → ByteArray → Bool → Option (Bool)
  | 0, _, _, _, _, _, _, _, _, _, _ => none
  | k + 1, x64, x65, x66, x91, x299000, x299001, x307000, x307001, x307002, x307003 => if x91 = true then (some false) else (if x307001 > 4611686018427387904 then ((octet_Reader_Err.f x299000 x299001).bind fun bt310 => (some (bt310.1 == 2))) else (mailbaglaw01_OctetLays.l1 k x64 x65 (wrap64 (x66 + 1)) x299000 x299001))
end
def mailbaglaw01_OctetLays.f (k : Nat) (l0 : List Int) (l1 : List (S42)) : Option (Bool) := (mailbaglaw01_head.f k).bind fun t272 => (if t272 = true then ((mailbaglaw01_few.f k l1).bind fun t273 => (if t273 = true then (mailbaglaw01_OctetLays.j0 k l0 l1 (decide ((l0.length : Int) > 100))) else (mailbaglaw01_OctetLays.j0 k l0 l1 true))) else (some false))
theorem mailbaglaw01_OctetLays.mono_l : ∀ k, (∀ y0 y1 y2, LeO (mailbaglaw01_OctetLays.j0 k y0 y1 y2) (mailbaglaw01_OctetLays.j0 (k + 1) y0 y1 y2)) ∧ (∀ y0 y1 y2 y3 y4 y5, LeO (mailbaglaw01_OctetLays.l0 k y0 y1 y2 y3 y4 y5) (mailbaglaw01_OctetLays.l0 (k + 1) y0 y1 y2 y3 y4 y5)) ∧ (∀ y0 y1 y2 y3 y4, LeO (mailbaglaw01_OctetLays.l1 k y0 y1 y2 y3 y4) (mailbaglaw01_OctetLays.l1 (k + 1) y0 y1 y2 y3 y4)) ∧ (∀ y0 y1 y2 y3 y4 y5 y6 y7 y8 y9, LeO (mailbaglaw01_OctetLays.j3 k y0 y1 y2 y3 y4 y5 y6 y7 y8 y9) (mailbaglaw01_OctetLays.j3 (k + 1) y0 y1 y2 y3 y4 y5 y6 y7 y8 y9))
  | 0 => ⟨fun _ _ _ r h => by simp [mailbaglaw01_OctetLays.j0] at h, fun _ _ _ _ _ _ r h => by simp [mailbaglaw01_OctetLays.l0] at h, fun _ _ _ _ _ r h => by simp [mailbaglaw01_OctetLays.l1] at h, fun _ _ _ _ _ _ _ _ _ _ r h => by simp [mailbaglaw01_OctetLays.j3] at h⟩
  | k + 1 => by
    obtain ⟨ih0, ih1, ih2, ih3⟩ := mailbaglaw01_OctetLays.mono_l k
    refine ⟨?_, ?_, ?_, ?_⟩
    · intro y0 y1 y2
      unfold mailbaglaw01_OctetLays.j0
      repeat' first
      | (with_reducible exact ih0 _ _ _)
      | (with_reducible exact ih1 _ _ _ _ _ _)
      | (with_reducible exact ih2 _ _ _ _ _)
      | (with_reducible exact ih3 _ _ _ _ _ _ _ _ _ _)
      | (with_reducible exact mailbaglaw01_few.mono _ _)
      | (with_reducible exact mailbaglaw01_head.mono _)
      | (with_reducible exact mailbaglaw01_lay.mono _ _)
      | (with_reducible exact octet_Num.mono _ _ _)
      | (with_reducible exact octet_Reader_Num.mono _ _ _ _)
      | (with_reducible exact octet_Reader_Text.mono _ _ _ _)
      | (with_reducible exact octet_Text.mono _ _ _)
      | (with_reducible exact LeO.refl _)
      | (with_reducible exact LeO.none _)
      | (with_reducible refine LeO.ite ?_ ?_)
      | (with_reducible refine LeO.bind ?_ (fun _ => ?_))
      | exact ih0 _ _ _
      | exact ih1 _ _ _ _ _ _
      | exact ih2 _ _ _ _ _
      | exact ih3 _ _ _ _ _ _ _ _ _ _
      | exact mailbaglaw01_few.mono _ _
      | exact mailbaglaw01_head.mono _
      | exact mailbaglaw01_lay.mono _ _
      | exact octet_Num.mono _ _ _
      | exact octet_Reader_Num.mono _ _ _ _
      | exact octet_Reader_Text.mono _ _ _ _
      | exact octet_Text.mono _ _ _
      | exact LeO.none _
      | refine LeO.ite ?_ ?_
      | refine LeO.bind ?_ (fun _ => ?_)
    · intro y0 y1 y2 y3 y4 y5
      unfold mailbaglaw01_OctetLays.l0
      repeat' first
      | (with_reducible exact ih0 _ _ _)
      | (with_reducible exact ih1 _ _ _ _ _ _)
      | (with_reducible exact ih2 _ _ _ _ _)
      | (with_reducible exact ih3 _ _ _ _ _ _ _ _ _ _)
      | (with_reducible exact mailbaglaw01_few.mono _ _)
      | (with_reducible exact mailbaglaw01_head.mono _)
      | (with_reducible exact mailbaglaw01_lay.mono _ _)
      | (with_reducible exact octet_Num.mono _ _ _)
      | (with_reducible exact octet_Reader_Num.mono _ _ _ _)
      | (with_reducible exact octet_Reader_Text.mono _ _ _ _)
      | (with_reducible exact octet_Text.mono _ _ _)
      | (with_reducible exact LeO.refl _)
      | (with_reducible exact LeO.none _)
      | (with_reducible refine LeO.ite ?_ ?_)
      | (with_reducible refine LeO.bind ?_ (fun _ => ?_))
      | exact ih0 _ _ _
      | exact ih1 _ _ _ _ _ _
      | exact ih2 _ _ _ _ _
      | exact ih3 _ _ _ _ _ _ _ _ _ _
      | exact mailbaglaw01_few.mono _ _
      | exact mailbaglaw01_head.mono _
      | exact mailbaglaw01_lay.mono _ _
      | exact octet_Num.mono _ _ _
      | exact octet_Reader_Num.mono _ _ _ _
      | exact octet_Reader_Text.mono _ _ _ _
      | exact octet_Text.mono _ _ _
      | exact LeO.none _
      | refine LeO.ite ?_ ?_
      | refine LeO.bind ?_ (fun _ => ?_)
    · intro y0 y1 y2 y3 y4
      unfold mailbaglaw01_OctetLays.l1
      repeat' first
      | (with_reducible exact ih0 _ _ _)
      | (with_reducible exact ih1 _ _ _ _ _ _)
      | (with_reducible exact ih2 _ _ _ _ _)
      | (with_reducible exact ih3 _ _ _ _ _ _ _ _ _ _)
      | (with_reducible exact mailbaglaw01_few.mono _ _)
      | (with_reducible exact mailbaglaw01_head.mono _)
      | (with_reducible exact mailbaglaw01_lay.mono _ _)
      | (with_reducible exact octet_Num.mono _ _ _)
      | (with_reducible exact octet_Reader_Num.mono _ _ _ _)
      | (with_reducible exact octet_Reader_Text.mono _ _ _ _)
      | (with_reducible exact octet_Text.mono _ _ _)
      | (with_reducible exact LeO.refl _)
      | (with_reducible exact LeO.none _)
      | (with_reducible refine LeO.ite ?_ ?_)
      | (with_reducible refine LeO.bind ?_ (fun _ => ?_))
      | exact ih0 _ _ _
      | exact ih1 _ _ _ _ _ _
      | exact ih2 _ _ _ _ _
      | exact ih3 _ _ _ _ _ _ _ _ _ _
      | exact mailbaglaw01_few.mono _ _
      | exact mailbaglaw01_head.mono _
      | exact mailbaglaw01_lay.mono _ _
      | exact octet_Num.mono _ _ _
      | exact octet_Reader_Num.mono _ _ _ _
      | exact octet_Reader_Text.mono _ _ _ _
      | exact octet_Text.mono _ _ _
      | exact LeO.none _
      | refine LeO.ite ?_ ?_
      | refine LeO.bind ?_ (fun _ => ?_)
    · intro y0 y1 y2 y3 y4 y5 y6 y7 y8 y9
      unfold mailbaglaw01_OctetLays.j3
      repeat' first
      | (with_reducible exact ih0 _ _ _)
      | (with_reducible exact ih1 _ _ _ _ _ _)
      | (with_reducible exact ih2 _ _ _ _ _)
      | (with_reducible exact ih3 _ _ _ _ _ _ _ _ _ _)
      | (with_reducible exact mailbaglaw01_few.mono _ _)
      | (with_reducible exact mailbaglaw01_head.mono _)
      | (with_reducible exact mailbaglaw01_lay.mono _ _)
      | (with_reducible exact octet_Num.mono _ _ _)
      | (with_reducible exact octet_Reader_Num.mono _ _ _ _)
      | (with_reducible exact octet_Reader_Text.mono _ _ _ _)
      | (with_reducible exact octet_Text.mono _ _ _)
      | (with_reducible exact LeO.refl _)
      | (with_reducible exact LeO.none _)
      | (with_reducible refine LeO.ite ?_ ?_)
      | (with_reducible refine LeO.bind ?_ (fun _ => ?_))
      | exact ih0 _ _ _
      | exact ih1 _ _ _ _ _ _
      | exact ih2 _ _ _ _ _
      | exact ih3 _ _ _ _ _ _ _ _ _ _
      | exact mailbaglaw01_few.mono _ _
      | exact mailbaglaw01_head.mono _
      | exact mailbaglaw01_lay.mono _ _
      | exact octet_Num.mono _ _ _
      | exact octet_Reader_Num.mono _ _ _ _
      | exact octet_Reader_Text.mono _ _ _ _
      | exact octet_Text.mono _ _ _
      | exact LeO.none _
      | refine LeO.ite ?_ ?_
      | refine LeO.bind ?_ (fun _ => ?_)
theorem mailbaglaw01_OctetLays.mono : ∀ a0 a1 k, LeO (mailbaglaw01_OctetLays.f k a0 a1) (mailbaglaw01_OctetLays.f (k + 1) a0 a1) := by
  intro a0 a1 k
  obtain ⟨ih0, ih1, ih2, ih3⟩ := mailbaglaw01_OctetLays.mono_l k
  unfold mailbaglaw01_OctetLays.f
  repeat' first
      | (with_reducible exact ih0 _ _ _)
      | (with_reducible exact ih1 _ _ _ _ _ _)
      | (with_reducible exact ih2 _ _ _ _ _)
      | (with_reducible exact ih3 _ _ _ _ _ _ _ _ _ _)
      | (with_reducible exact mailbaglaw01_few.mono _ _)
      | (with_reducible exact mailbaglaw01_head.mono _)
      | (with_reducible exact mailbaglaw01_lay.mono _ _)
      | (with_reducible exact octet_Num.mono _ _ _)
      | (with_reducible exact octet_Reader_Num.mono _ _ _ _)
      | (with_reducible exact octet_Reader_Text.mono _ _ _ _)
      | (with_reducible exact octet_Text.mono _ _ _)
      | (with_reducible exact LeO.refl _)
      | (with_reducible exact LeO.none _)
      | (with_reducible refine LeO.ite ?_ ?_)
      | (with_reducible refine LeO.bind ?_ (fun _ => ?_))
      | exact ih0 _ _ _
      | exact ih1 _ _ _ _ _ _
      | exact ih2 _ _ _ _ _
      | exact ih3 _ _ _ _ _ _ _ _ _ _
      | exact mailbaglaw01_few.mono _ _
      | exact mailbaglaw01_head.mono _
      | exact mailbaglaw01_lay.mono _ _
      | exact octet_Num.mono _ _ _
      | exact octet_Reader_Num.mono _ _ _ _
      | exact octet_Reader_Text.mono _ _ _ _
      | exact octet_Text.mono _ _ _
      | exact LeO.none _
      | refine LeO.ite ?_ ?_
      | refine LeO.bind ?_ (fun _ => ?_)
def mailbaglaw01_OctetLays.T16 : Bool × List (List Nat × List Nat) := (true, [([], []), ([0], [0]), ([], []), ([2], [2]), ([], []), ([4], [4]), ([3, 5], [3, 5]), ([1, 6], [1, 6])])
def mailbaglaw01_OctetLays.B16 : List Nat := [0, 1, 0, 4, 0, 16, 60, 127]
theorem mailbaglaw01_OctetLays.tab16 : rtab .any (opsOf Try.f9 16) = mailbaglaw01_OctetLays.T16 := by kernel_rfl
theorem mailbaglaw01_OctetLays.bits16 : waitsOk mailbaglaw01_OctetLays.T16.2 mailbaglaw01_OctetLays.B16 = true := by kernel_rfl
def mailbaglaw01_OctetLays.T26 : Bool × List (List Nat × List Nat) := (true, [([], []), ([0], [0]), ([], []), ([2], [2]), ([3], [3]), ([4], [4]), ([1, 5], [1, 5]), ([6, 1], [6]), ([7], [7]), ([8, 7], [7, 8]), ([9, 7], [7, 9]), ([7, 10], [7, 10])])
def mailbaglaw01_OctetLays.B26 : List Nat := [0, 1, 0, 4, 12, 28, 63, 127, 255, 511, 1023, 2047]
theorem mailbaglaw01_OctetLays.tab26 : rtab .any (opsOf Try.f9 26) = mailbaglaw01_OctetLays.T26 := by kernel_rfl
theorem mailbaglaw01_OctetLays.bits26 : waitsOk mailbaglaw01_OctetLays.T26.2 mailbaglaw01_OctetLays.B26 = true := by kernel_rfl
set_option maxHeartbeats 8000000 in
set_option maxRecDepth 100000 in
theorem mailbaglaw01_OctetLays.calls (k : Nat) (A0 : Option Addr) (c0 : Nat) (l0 : List Int) (A1 : Option Addr) (c1 : Nat) (l1 : List (S42)) (r : Bool) (w : World) (hr0 : Kd.C (Kd.int .u8) w A0 l0.length l0) (hc0 : l0.length ≤ c0) (hr1 : Kd.C k42 w A1 l1.length l1) (hc1 : l1.length ≤ c1) (h : mailbaglaw01_OctetLays.f k l0 l1 = some r) :
    Calls Try.prog 9 #[.slice A0 l0.length c0, .slice A1 l1.length c1] w fun e w' => e = .returned (.bool r) ∧ Below w.heap.size w w' := by
  have hu42 := Try.underlying42
  have HR0 := Aside0.mk hr0
  have HC0 := Aside0.mk hc0
  clear hr0 hc0
  have HR1 := Aside0.mk hr1
  have HC1 := Aside0.mk hc1
  clear hr1 hc1
  have HB := Aside0.mk (Below.refl w.heap.size w)
  have H : ((mailbaglaw01_head.f k).bind fun t272 => (if t272 = true then ((mailbaglaw01_few.f k l1).bind fun t273 => (if t273 = true then (mailbaglaw01_OctetLays.j0 k l0 l1 (decide ((l0.length : Int) > 100))) else (mailbaglaw01_OctetLays.j0 k l0 l1 true))) else (some false))) = some r := h
  clear h
  replace H := Option.bind_eq_some_iff.mp H
  obtain ⟨t272, A30, H⟩ := H
  replace H : (if t272 = true then ((mailbaglaw01_few.f k l1).bind fun t273 => (if t273 = true then (mailbaglaw01_OctetLays.j0 k l0 l1 (decide ((l0.length : Int) > 100))) else (mailbaglaw01_OctetLays.j0 k l0 l1 true))) else (some false)) = some r := H
  have A3 := Aside0.mk A30
  clear A30
  by_cases c4 : t272 = true
  · subst c4
    have H1 : ((mailbaglaw01_few.f k l1).bind fun t273 => (if t273 = true then (mailbaglaw01_OctetLays.j0 k l0 l1 (decide ((l0.length : Int) > 100))) else (mailbaglaw01_OctetLays.j0 k l0 l1 true))) = some r := by rw [if_pos rfl] at H; exact H
    clear H
    have H := H1
    clear H1
    have HC5 := Aside0.mk H
    clear H
    go_enter Try.func9, Try.ntmps9
    go_upto_region 3 with (first | ((with_reducible refine gate_callee (f := 16) rfl ?_); refine goesL_ (some 11) rfl rfl Try.func16 (by kernel_rfl) rfl #[] rfl (by (try simp only [List.map_toArray, List.map_cons, List.map_nil]); first | done | rfl | (simp only [List.length_drop, List.length_take]; rfl)) ?_; (with_reducible refine (mailbaglaw01_head.calls k  true _ A3.out).mono ?_); rintro e w6 ⟨rfl, hb⟩; refine ⟨_, rfl, ?_⟩; have n0_ := Aside0.mk (below_step (by repeat (first | (with_reducible first | exact HB.out | apply below_alloc | apply pw_below_drewN | apply below_drew1) | exact HB.out)) hb); clear HB; have HB := n0_; clear n0_; (try clear hb); (try clear hb2); (try clear hk); (try clear hi)))
    (try simp only [Act.put, List.setIfInBounds_toArray, List.set_cons_zero, List.set_cons_succ])
    go_cut [20] (fun v20 wc => ∃ (kq : Nat) (x20_4 : Bool), v20 = .bool x20_4 ∧ Aside0 (mailbaglaw01_OctetLays.j0 kq l0 l1 x20_4 = some r) ∧ Aside0 (kq ≤ k) ∧ Aside0 (Below w.heap.size w wc))
    case first =>
      have H := HC5.out
      clear HC5
      replace H := Option.bind_eq_some_iff.mp H
      obtain ⟨t273, A70, H⟩ := H
      replace H : (if t273 = true then (mailbaglaw01_OctetLays.j0 k l0 l1 (decide ((l0.length : Int) > 100))) else (mailbaglaw01_OctetLays.j0 k l0 l1 true)) = some r := H
      have A7 := Aside0.mk A70
      clear A70
      by_cases c8 : t273 = true
      · subst c8
        have H1 : (mailbaglaw01_OctetLays.j0 k l0 l1 (decide ((l0.length : Int) > 100))) = some r := by rw [if_pos rfl] at H; exact H
        clear H
        have H := H1
        clear H1
        have H' := Aside0.mk H
        clear H
        go_wp2_with (first | ((with_reducible refine gate_callee (f := 29) rfl ?_); refine goesL_ (some 14) rfl rfl Try.func29 (by kernel_rfl) rfl #[.slice A1 l1.length c1] rfl (by (try simp only [List.map_toArray, List.map_cons, List.map_nil]); first | done | rfl | (simp only [List.length_drop, List.length_take]; rfl)) ?_; (with_reducible refine (mailbaglaw01_few.calls k _ _ l1 true _ ?side1 ?side2 A7.out).mono ?_); (case side1 => repeat (first | exact (Kd.C_below HR1.out HB.out) | (with_reducible refine Kd.C_alloc ?_ _) | (with_reducible refine Kd.C_drewN ?_ _) | (with_reducible refine Kd.C_drew ?_))); (case side2 => exact HC1.out); rintro e w9 ⟨rfl, hb⟩; refine ⟨_, rfl, ?_⟩; have n0_ := Aside0.mk (below_step (by repeat (first | (with_reducible first | exact HB.out | apply below_alloc | apply pw_below_drewN | apply below_drew1) | exact HB.out)) hb); clear HB; have HB := n0_; clear n0_; (try clear hb); (try clear hb2); (try clear hk); (try clear hi)))
        go_meet
        case rel => exact ⟨_, (decide ((l0.length : Int) > 100)), (by first | rfl | (simp; done) | (simp [*]; done)), H', ⟨by first | omega | exact Nat.le_refl _⟩, ⟨by repeat (first | (with_reducible first | exact HB.out | apply below_alloc | apply pw_below_drewN | apply below_drew1) | exact HB.out)⟩⟩
      · replace c8 := Bool.eq_false_iff.mpr c8
        subst c8
        have H1 : (mailbaglaw01_OctetLays.j0 k l0 l1 true) = some r := by rw [if_neg (show ¬ (false = true) by decide)] at H; exact H
        clear H
        have H := H1
        clear H1
        have H' := Aside0.mk H
        clear H
        go_wp2_with (first | ((with_reducible refine gate_callee (f := 29) rfl ?_); refine goesL_ (some 14) rfl rfl Try.func29 (by kernel_rfl) rfl #[.slice A1 l1.length c1] rfl (by (try simp only [List.map_toArray, List.map_cons, List.map_nil]); first | done | rfl | (simp only [List.length_drop, List.length_take]; rfl)) ?_; (with_reducible refine (mailbaglaw01_few.calls k _ _ l1 false _ ?side1 ?side2 A7.out).mono ?_); (case side1 => repeat (first | exact (Kd.C_below HR1.out HB.out) | (with_reducible refine Kd.C_alloc ?_ _) | (with_reducible refine Kd.C_drewN ?_ _) | (with_reducible refine Kd.C_drew ?_))); (case side2 => exact HC1.out); rintro e w10 ⟨rfl, hb⟩; refine ⟨_, rfl, ?_⟩; have n0_ := Aside0.mk (below_step (by repeat (first | (with_reducible first | exact HB.out | apply below_alloc | apply pw_below_drewN | apply below_drew1) | exact HB.out)) hb); clear HB; have HB := n0_; clear n0_; (try clear hb); (try clear hb2); (try clear hk); (try clear hi)))
        go_meet
        case rel => exact ⟨_, (true), (by first | rfl | (simp; done) | (simp [*]; done)), H', ⟨by first | omega | exact Nat.le_refl _⟩, ⟨by repeat (first | (with_reducible first | exact HB.out | apply below_alloc | apply pw_below_drewN | apply below_drew1) | exact HB.out)⟩⟩
    case rest =>
      clear HC5
      try clear c1
      try clear c2
      try clear p2
      try clear c4
      try clear c8
      try clear c9
      obtain ⟨kq, x20_4, rfl, HA, HJ4, HB⟩ := hcut
      cases kq with
      | zero => exact absurd HA.out (by simp [mailbaglaw01_OctetLays.j0])
      | succ kj4 =>
        have H := HA.out
        clear HA
        simp only [mailbaglaw01_OctetLays.j0] at H
        by_cases c11 : x20_4 = true
        · subst c11
          have H1 : (some true) = some r := by rw [if_pos rfl] at H; exact H
          clear H
          have H := H1
          clear H1
          obtain rfl := Option.some.inj H
          go_wp2
          go_ret
          exact ⟨by first | rfl | (simp [errW_none, errW_some] <;> rfl) | (simp [*, errW_none, errW_some] <;> rfl), by repeat (first | (with_reducible first | exact HB.out | apply below_alloc | apply pw_below_drewN | apply below_drew1) | exact HB.out)⟩
        · replace c11 := Bool.eq_false_iff.mpr c11
          subst c11
          have H1 : ((some (([] : List Int) : List Int)).bind fun y274 => (if y274.length + l0.length < 140737488355328 then (mailbaglaw01_OctetLays.l0 kj4 l0 l1 (y274 ++ l0) l1 (l1.length : Int) 0) else (none))) = some r := by rw [if_neg (show ¬ (false = true) by decide)] at H; exact H
          clear H
          have H := H1
          clear H1
          obtain ⟨y274, hy274⟩ : ∃ y_ : List Int, y_ = (([] : List Int)) := ⟨_, rfl⟩
          replace H : (if y274.length + l0.length < 140737488355328 then (mailbaglaw01_OctetLays.l0 kj4 l0 l1 (y274 ++ l0) l1 (l1.length : Int) 0) else (none)) = some r := by first | (rw [hy274]; with_reducible exact H) | (have H2_ := (Option.bind_some _ _).symm.trans H; rw [hy274]; with_reducible exact H2_) | (have H2_ := (Option.bind_some _ _).symm.trans H; with_reducible exact H2_) | with_reducible exact H | (rw [hy274]; exact H) | exact H
          have Ny274 := Aside0.mk hy274
          clear hy274
          by_cases c12 : y274.length + l0.length < 140737488355328
          · rw [if_pos c12] at H
            have LMc12 := Aside0.mk c12
            clear c12
            obtain ⟨y277, hy277⟩ : ∃ y_ : List Int, y_ = (y274 ++ l0) := ⟨_, rfl⟩
            replace H : (mailbaglaw01_OctetLays.l0 kj4 l0 l1 y277 l1 (l1.length : Int) 0) = some r := by first | (rw [hy277]; with_reducible exact H) | (have H2_ := (Option.bind_some _ _).symm.trans H; rw [hy277]; with_reducible exact H2_) | (have H2_ := (Option.bind_some _ _).symm.trans H; with_reducible exact H2_) | with_reducible exact H | (rw [hy277]; exact H) | exact H
            have Ny277 := Aside0.mk hy277
            clear hy277
            have H' := Aside0.mk H
            clear H
            go_wp2_with (first | ((with_reducible refine gate_dst (N := 21) rfl ?_); (try (refine gate_guard (by rfl) ?_; dsimp only)); refine Kd.R_lit (Kd.int .u8) _ 5 ?hg (N := 21) ?hd (xs := ([] : List Int)) (inner := []) (ok := fun _ => True) (okp := fun _ => True) ?hr ?hp (fun _ hk => hk) trivial (Below.refl _ _) (Nat.le_refl _) (by simp) ?_; (case hd => rfl); (case hg => rfl); (case hr => first | (go_simp; done) | (go_simp; rfl)); (case hp => exact (Reps.none _ _)); intro v275 w13 ho14 hb hg_ hnew_; clear hg_ hnew_; (first | rw [← Ny274.out] at ho14 | (simp only [Int.reduceToNat] at ho14; rw [← Ny274.out] at ho14)); have n0_ := Aside0.mk (Kd.R_lower ho14 (below_size (by repeat (first | (with_reducible first | exact HB.out | apply below_alloc | apply pw_below_drewN | apply below_drew1) | exact HB.out)))); have n1_ := Aside0.mk (below_step (by repeat (first | (with_reducible first | exact HB.out | apply below_alloc | apply pw_below_drewN | apply below_drew1) | exact HB.out)) hb); clear HB; have HO276 := n0_; have HB := n1_; clear n0_ n1_; clear hb ho14) | ((with_reducible refine gate_builtin (b := .append) (xs := #[.tmp 21, .tmp 22]) rfl ?_); (try (refine gate_guard (by rfl) ?_; dsimp only)); at_builtin; refine Kd.R_append_rows (Kd.int .u8) (w0 := w) w.heap.size rfl (.tmp 21) (.tmp 22) 23 5 (.int .u8 0) 1 rfl Try.underlying23 info5 rfl (by decide) (by omega) v275 y274 l0 _ _ _ (fun _ => True) (fun _ => False) rfl rfl ?aO ?aR (fun _ _ h => h) (fun _ h => h.elim) ?aF ?aB ?aS ?aL ?_; (case aR => repeat (first | exact (Kd.C_below HR0.out HB.out) | (with_reducible refine Kd.C_alloc ?_ _) | (with_reducible refine Kd.C_drewN ?_ _) | (with_reducible refine Kd.C_drew ?_))); (case aB => exact (by repeat (first | (with_reducible first | exact HB.out | apply below_alloc | apply pw_below_drewN | apply below_drew1) | exact HB.out))); (case aF => exact (fun _ _ => trivial)); (case aO => exact (by (with_reducible repeat (first | apply Kd.R_alloc | apply Kd.R_drewN | apply Kd.R_drew)); exact HO276.out)); (case aS => exact (below_size (by repeat (first | (with_reducible first | exact HB.out | apply below_alloc | apply pw_below_drewN | apply below_drew1) | exact HB.out)))); (case aL => have := LMc12.out; omega); intro v278 w15 ho hb hg hat; rw [← Ny277.out] at ho; have n0_ := Aside0.mk (hb); have n1_ := Aside0.mk (ho); clear HB; clear HO276; have HB := n0_; have HO279 := n1_; clear n0_ n1_; clear ho hb hg hat))
            go_loopg [5, 26] kj4 (fun kq v5 v26 w' => ∃ (x5_2 : List Int) (x26_2 : Int), v26 = .int .i64 x26_2 ∧ Aside0 (mailbaglaw01_OctetLays.l0 kq l0 l1 x5_2 l1 (l1.length : Int) x26_2 = some r) ∧ Aside0 (kq ≤ kj4) ∧ Aside0 (Kd.R (Kd.int .u8) 5 w' w.heap.size (fun _ => True) v5 x5_2) ∧ Aside0 (Below w.heap.size w w'))
            case atStart => exact ⟨(y277), (0), (by first | rfl | (simp; done) | (simp [*]; done)), H', ⟨Nat.le_refl _⟩, ⟨by (with_reducible repeat (first | apply Kd.R_alloc | apply Kd.R_drewN | apply Kd.R_drew)); exact HO279.out⟩, ⟨by repeat (first | (with_reducible first | exact HB.out | apply below_alloc | apply pw_below_drewN | apply below_drew1) | exact HB.out)⟩⟩
            case round =>
              clear H'
              try clear c1
              try clear c2
              try clear p2
              try clear c4
              try clear c8
              try clear c9
              try clear c11
              try clear c12
              try clear p2
              obtain ⟨x5_2, x26_2, rfl, HA, HK2, HO_5, HB⟩ := hrel
              cases gk with
              | zero => exact absurd HA.out (by simp [mailbaglaw01_OctetLays.l0])
              | succ k2 =>
                have H := HA.out
                clear HA
                simp only [mailbaglaw01_OctetLays.l0] at H
                by_cases c16 : x26_2 < (l1.length : Int)
                · rw [if_pos c16] at H
                  have c16b0 : decide (x26_2 < (l1.length : Int)) = true := decide_eq_true c16
                  clear c16
                  by_cases c17 : 0 ≤ x26_2
                  · rw [if_pos c17] at H
                    have c17b0 : decide (0 ≤ x26_2) = true := decide_eq_true c17
                    clear c17
                    by_cases c18 : x26_2 < (l1.length : Int)
                    · rw [if_pos c18] at H
                      have c18b0 : decide (x26_2 < (l1.length : Int)) = true := decide_eq_true c18
                      clear c18
                      by_cases c19 : (Go.bits .and .i64 ((rd_T42 l1 x26_2).f0) 3) = 0
                      · rw [if_pos c19] at H
                        have c19b0 : ((Go.bits .and .i64 ((rd_T42 l1 x26_2).f0) 3) == 0) = true := beq_iff_eq.mpr c19
                        have c19b1 : ((Go.bits .and .i64 ((rd_T42 l1 x26_2).f0) 3) != 0) = false := bne_eq_false_iff_eq.mpr c19
                        clear c19
                        replace H := Option.bind_eq_some_iff.mp H
                        obtain ⟨t282, A200, H⟩ := H
                        replace H : (mailbaglaw01_OctetLays.l0 k2 l0 l1 t282 l1 (l1.length : Int) (wrap64 (x26_2 + 1))) = some r := H
                        have A20 := Aside0.mk A200
                        clear A200
                        have H' := Aside0.mk H
                        clear H
                        have p280 : 0 ≤ (x26_2 : Int) := of_decide_eq_true (by first | (with_reducible assumption) | assumption)
                        have q280 : x26_2 < (l1.length : Int) := of_decide_eq_true (by first | (with_reducible assumption) | assumption)
                        obtain ⟨ad280, e280, hx280_0, hx280_1, hx280_2, hx280_3⟩ := at_T42 HR1.out x26_2 p280 q280
                        cases e280
                        replace hx280_0 := (HB.out.cell (World.block_lt_of_cell? w _ hx280_0)).trans hx280_0
                        replace hx280_1 := (HB.out.cell (World.block_lt_of_cell? w _ hx280_1)).trans hx280_1
                        replace hx280_2 := (HB.out.cell (World.block_lt_of_cell? w _ hx280_2)).trans hx280_2
                        replace hx280_3 := (HB.out.cell (World.block_lt_of_cell? w _ hx280_3)).trans hx280_3
                        replace p280 := eq_true p280
                        replace q280 := eq_true q280
                        go_wp2_with (first | ((with_reducible refine gate_dst (N := 7) rfl ?_); (try (refine gate_guard (by rfl) ?_; dsimp only)); refine box_event ?hg (N := 7) ?hd (cs := #[.int .i64 0, .int .i64 0, .string (⟨#[]⟩ : ByteArray), .bool false]) (t := 42) ?hr ?_; (case hd => rfl); (case hg => rfl); (case hr => first | (go_simp; done) | (go_simp; rfl)); intro gb281 hg w21 hbox hb; have n0_ := Aside0.mk (Kd.R_below (by (with_reducible repeat (first | apply Kd.R_alloc | apply Kd.R_drewN | apply Kd.R_drew)); exact HO_5.out) hb); have n1_ := Aside0.mk (below_step (by repeat (first | (with_reducible first | exact HB.out | apply below_alloc | apply pw_below_drewN | apply below_drew1) | exact HB.out)) hb); have n2_ := Aside0.mk (hbox); have n3_ := Aside0.mk ((by rw [hg]; exact (below_size (by repeat (first | (with_reducible first | exact HB.out | apply below_alloc | apply pw_below_drewN | apply below_drew1) | exact HB.out))) : w.heap.size ≤ gb281)); have n4_ := Aside0.mk ((by rw [hg]; exact (below_size (by repeat (first | (with_reducible first | exact HB.out | apply below_alloc | apply pw_below_drewN | apply below_drew1) | exact HB.out))) : w.heap.size ≤ gb281)); clear HO_5; clear HB; have HO_5 := n0_; have HB := n1_; have BK281 := n2_; have GW281 := n3_; have GE281 := n4_; clear n0_ n1_ n2_ n3_ n4_; clear hb hbox hg; have hcz22_0 : w21.cell? ⟨gb281, 0, none⟩ = some (.int .i64 0) := (blk_cell BK281.out 0).trans rfl; have hcz22_1 : w21.cell? ⟨gb281, 1, none⟩ = some (.int .i64 0) := (blk_cell BK281.out 1).trans rfl; have hcz22_2 : w21.cell? ⟨gb281, 2, none⟩ = some (.string (⟨#[]⟩ : ByteArray)) := (blk_cell BK281.out 2).trans rfl; have hcz22_3 : w21.cell? ⟨gb281, 3, none⟩ = some (.bool false) := (blk_cell BK281.out 3).trans rfl; have hfz22_0 := blk_frozen BK281.out 0; have hfz22_1 := blk_frozen BK281.out 1; have hfz22_2 := blk_frozen BK281.out 2; have hfz22_3 := blk_frozen BK281.out 3) | ((with_reducible refine gate_store (t := 42) (p := 7) rfl ?_); refine store_event (t := 42) (p := 7) (v := ?vo_w23) (w1 := ((((w21.setCell ⟨gb281, 0, none⟩ (.int .i64 ((rd_T42 l1 x26_2).f0))).setCell ⟨gb281, 1, none⟩ (.int .i64 ((rd_T42 l1 x26_2).f1))).setCell ⟨gb281, 2, none⟩ (.string ((rd_T42 l1 x26_2).f2))).setCell ⟨gb281, 3, none⟩ (.bool ((rd_T42 l1 x26_2).f3)))) ?hg ?ho ?hn ?hr ?_; (case ho => rfl); (case hg => rfl); (case hn => rfl); (case hr => first | (go_simp; done) | (go_simp; rfl)); intro w23 hw; have n0_ : Aside0 (Kd.R (Kd.int .u8) 5 w23 w.heap.size (fun _ => True) u5 x5_2) := ⟨(by rw [hw]; exact (by (with_reducible repeat (first | apply Kd.R_alloc | apply Kd.R_drewN | apply Kd.R_drew)); exact Kd.R_mono (Kd.R_far (p := ⟨gb281, 3, none⟩) (Kd.R_far (p := ⟨gb281, 2, none⟩) (Kd.R_far (p := ⟨gb281, 1, none⟩) (Kd.R_far (p := ⟨gb281, 0, none⟩) (Kd.R_types HO_5.out BK281.out (by decide)) (fun _ hk => hk.2) (.int .i64 ((rd_T42 l1 x26_2).f0))) (fun _ hk => hk.2) (.int .i64 ((rd_T42 l1 x26_2).f1))) (fun _ hk => hk.2) (.string ((rd_T42 l1 x26_2).f2))) (fun _ hk => hk.2) (.bool ((rd_T42 l1 x26_2).f3))) (fun _ hk => trivial)))⟩; have n1_ : Aside0 (w23.heap[gb281]? = some (.cells #[.int .i64 ((rd_T42 l1 x26_2).f0), .int .i64 ((rd_T42 l1 x26_2).f1), .string ((rd_T42 l1 x26_2).f2), .bool ((rd_T42 l1 x26_2).f3)] 42 (0, 0))) := ⟨(by rw [hw]; exact (by (with_reducible repeat (first | refine blk_drewN ?_ _ | refine blk_drew ?_ | refine blk_alloc ?_ _)); refine blk_put (cs := #[.int .i64 ((rd_T42 l1 x26_2).f0), .int .i64 ((rd_T42 l1 x26_2).f1), .string ((rd_T42 l1 x26_2).f2), .bool false]) ?_ 3 _ rfl; (with_reducible repeat (first | refine blk_drewN ?_ _ | refine blk_drew ?_ | refine blk_alloc ?_ _)); refine blk_put (cs := #[.int .i64 ((rd_T42 l1 x26_2).f0), .int .i64 ((rd_T42 l1 x26_2).f1), .string (⟨#[]⟩ : ByteArray), .bool false]) ?_ 2 _ rfl; (with_reducible repeat (first | refine blk_drewN ?_ _ | refine blk_drew ?_ | refine blk_alloc ?_ _)); refine blk_put (cs := #[.int .i64 ((rd_T42 l1 x26_2).f0), .int .i64 0, .string (⟨#[]⟩ : ByteArray), .bool false]) ?_ 1 _ rfl; (with_reducible repeat (first | refine blk_drewN ?_ _ | refine blk_drew ?_ | refine blk_alloc ?_ _)); refine blk_put (cs := #[.int .i64 0, .int .i64 0, .string (⟨#[]⟩ : ByteArray), .bool false]) ?_ 0 _ rfl; (with_reducible repeat (first | refine blk_drewN ?_ _ | refine blk_drew ?_ | refine blk_alloc ?_ _)); exact BK281.out))⟩; have n2_ : Aside0 (Below w.heap.size w w23) := ⟨(by rw [hw]; exact (by repeat (first | (with_reducible first | exact HB.out | apply below_alloc | apply pw_below_drewN | apply below_drew1 | refine below_set ?_ GE281.out) | exact HB.out)))⟩; clear hw; clear HO_5; clear BK281; clear HB; have HO_5 := n0_; have BK281 := n1_; have HB := n2_; clear n0_ n1_ n2_; have hcz24_0 : w23.cell? ⟨gb281, 0, none⟩ = some (.int .i64 ((rd_T42 l1 x26_2).f0)) := (blk_cell BK281.out 0).trans rfl; have hcz24_1 : w23.cell? ⟨gb281, 1, none⟩ = some (.int .i64 ((rd_T42 l1 x26_2).f1)) := (blk_cell BK281.out 1).trans rfl; have hcz24_2 : w23.cell? ⟨gb281, 2, none⟩ = some (.string ((rd_T42 l1 x26_2).f2)) := (blk_cell BK281.out 2).trans rfl; have hcz24_3 : w23.cell? ⟨gb281, 3, none⟩ = some (.bool ((rd_T42 l1 x26_2).f3)) := (blk_cell BK281.out 3).trans rfl; have hfz24_0 := blk_frozen BK281.out 0; have hfz24_1 := blk_frozen BK281.out 1; have hfz24_2 := blk_frozen BK281.out 2; have hfz24_3 := blk_frozen BK281.out 3; obtain ⟨Ao25, co25, eo25⟩ := Kd.R_slice HO_5.out; subst eo25) | ((with_reducible refine gate_callee (f := 17) rfl ?_); refine goesL_ (some 42) rfl rfl Try.func17 (by kernel_rfl) rfl #[.slice Ao25 x5_2.length co25, .int .i64 ((rd_T42 l1 x26_2).f1)] rfl (by (try simp only [List.map_toArray, List.map_cons, List.map_nil]); first | done | rfl | (simp only [List.length_drop, List.length_take]; rfl)) ?_; (with_reducible refine (octet_Num.calls k2 (fun k_ => some k_ = (.slice Ao25 x5_2.length co25 : Value).ownBlock) (.slice Ao25 x5_2.length co25) x5_2 ((rd_T42 l1 x26_2).f1) t282 w _ ?side1 ?side2 A20.out).mono ?_); (case side1 => repeat (first | (with_reducible first | exact HB.out | apply below_alloc | apply pw_below_drewN | apply below_drew1 | refine below_set ?_ GE281.out) | exact HB.out)); (case side2 => exact Kd.R_tight rfl HO_5.out); rintro e w26 ⟨v283, rfl, ho0, hb, hkp⟩; refine ⟨_, rfl, ?_⟩; have n0_ := Aside0.mk (blk_kept (by (with_reducible repeat (first | refine blk_drewN ?_ _ | refine blk_drew ?_ | refine blk_alloc ?_ _)); exact BK281.out) hkp (fun hs_ => (fun e_ => (Kd.R_ne HO_5.out BK281.out (by decide)) e_) hs_)); have n1_ := Aside0.mk (Kd.R_mono (ok' := fun k_ => True) ho0 (fun k_ hk_ => trivial)); have n2_ := Aside0.mk (hb); clear BK281; clear HB; clear HO_5; have BK281 := n0_; have HO284 := n1_; have HB := n2_; clear n0_ n1_ n2_; (try clear hb); (try clear hkp); (try clear ho0)))
                        go_roundg k2
                        case measure => have := HJ4.out; have := HK2.out; omega
                        case rel => exact ⟨(t282), (wrap64 (x26_2 + 1)), (by first | rfl | (simp; done) | (simp [*]; done)), H', ⟨by have := HJ4.out; have := HK2.out; omega⟩, ⟨by (with_reducible repeat (first | apply Kd.R_alloc | apply Kd.R_drewN | apply Kd.R_drew)); exact HO284.out⟩, ⟨by repeat (first | (with_reducible first | exact HB.out | apply below_alloc | apply pw_below_drewN | apply below_drew1 | refine below_set ?_ GE281.out) | exact HB.out)⟩⟩
                      · rw [if_neg c19] at H
                        have c19b0 : ((Go.bits .and .i64 ((rd_T42 l1 x26_2).f0) 3) == 0) = false := beq_eq_false_iff_ne.mpr c19
                        have c19b1 : ((Go.bits .and .i64 ((rd_T42 l1 x26_2).f0) 3) != 0) = true := bne_iff_ne.mpr c19
                        by_cases c27 : (Go.bits .and .i64 ((rd_T42 l1 x26_2).f0) 3) = 1
                        · rw [if_pos c27] at H
                          have c27b0 : ((Go.bits .and .i64 ((rd_T42 l1 x26_2).f0) 3) == 1) = true := beq_iff_eq.mpr c27
                          have c27b1 : ((Go.bits .and .i64 ((rd_T42 l1 x26_2).f0) 3) != 1) = false := bne_eq_false_iff_eq.mpr c27
                          clear c27
                          replace H := Option.bind_eq_some_iff.mp H
                          obtain ⟨t285, A280, H⟩ := H
                          replace H : (mailbaglaw01_OctetLays.l0 k2 l0 l1 t285 l1 (l1.length : Int) (wrap64 (x26_2 + 1))) = some r := H
                          have A28 := Aside0.mk A280
                          clear A280
                          have H' := Aside0.mk H
                          clear H
                          have p280 : 0 ≤ (x26_2 : Int) := of_decide_eq_true (by first | (with_reducible assumption) | assumption)
                          have q280 : x26_2 < (l1.length : Int) := of_decide_eq_true (by first | (with_reducible assumption) | assumption)
                          obtain ⟨ad280, e280, hx280_0, hx280_1, hx280_2, hx280_3⟩ := at_T42 HR1.out x26_2 p280 q280
                          cases e280
                          replace hx280_0 := (HB.out.cell (World.block_lt_of_cell? w _ hx280_0)).trans hx280_0
                          replace hx280_1 := (HB.out.cell (World.block_lt_of_cell? w _ hx280_1)).trans hx280_1
                          replace hx280_2 := (HB.out.cell (World.block_lt_of_cell? w _ hx280_2)).trans hx280_2
                          replace hx280_3 := (HB.out.cell (World.block_lt_of_cell? w _ hx280_3)).trans hx280_3
                          replace p280 := eq_true p280
                          replace q280 := eq_true q280
                          go_wp2_with (first | ((with_reducible refine gate_dst (N := 7) rfl ?_); (try (refine gate_guard (by rfl) ?_; dsimp only)); refine box_event ?hg (N := 7) ?hd (cs := #[.int .i64 0, .int .i64 0, .string (⟨#[]⟩ : ByteArray), .bool false]) (t := 42) ?hr ?_; (case hd => rfl); (case hg => rfl); (case hr => first | (go_simp; done) | (go_simp; rfl)); intro gb281 hg w29 hbox hb; have n0_ := Aside0.mk (Kd.R_below (by (with_reducible repeat (first | apply Kd.R_alloc | apply Kd.R_drewN | apply Kd.R_drew)); exact HO_5.out) hb); have n1_ := Aside0.mk (below_step (by repeat (first | (with_reducible first | exact HB.out | apply below_alloc | apply pw_below_drewN | apply below_drew1) | exact HB.out)) hb); have n2_ := Aside0.mk (hbox); have n3_ := Aside0.mk ((by rw [hg]; exact (below_size (by repeat (first | (with_reducible first | exact HB.out | apply below_alloc | apply pw_below_drewN | apply below_drew1) | exact HB.out))) : w.heap.size ≤ gb281)); have n4_ := Aside0.mk ((by rw [hg]; exact (below_size (by repeat (first | (with_reducible first | exact HB.out | apply below_alloc | apply pw_below_drewN | apply below_drew1) | exact HB.out))) : w.heap.size ≤ gb281)); clear HO_5; clear HB; have HO_5 := n0_; have HB := n1_; have BK281 := n2_; have GW281 := n3_; have GE281 := n4_; clear n0_ n1_ n2_ n3_ n4_; clear hb hbox hg; have hcz30_0 : w29.cell? ⟨gb281, 0, none⟩ = some (.int .i64 0) := (blk_cell BK281.out 0).trans rfl; have hcz30_1 : w29.cell? ⟨gb281, 1, none⟩ = some (.int .i64 0) := (blk_cell BK281.out 1).trans rfl; have hcz30_2 : w29.cell? ⟨gb281, 2, none⟩ = some (.string (⟨#[]⟩ : ByteArray)) := (blk_cell BK281.out 2).trans rfl; have hcz30_3 : w29.cell? ⟨gb281, 3, none⟩ = some (.bool false) := (blk_cell BK281.out 3).trans rfl; have hfz30_0 := blk_frozen BK281.out 0; have hfz30_1 := blk_frozen BK281.out 1; have hfz30_2 := blk_frozen BK281.out 2; have hfz30_3 := blk_frozen BK281.out 3) | ((with_reducible refine gate_store (t := 42) (p := 7) rfl ?_); refine store_event (t := 42) (p := 7) (v := ?vo_w31) (w1 := ((((w29.setCell ⟨gb281, 0, none⟩ (.int .i64 ((rd_T42 l1 x26_2).f0))).setCell ⟨gb281, 1, none⟩ (.int .i64 ((rd_T42 l1 x26_2).f1))).setCell ⟨gb281, 2, none⟩ (.string ((rd_T42 l1 x26_2).f2))).setCell ⟨gb281, 3, none⟩ (.bool ((rd_T42 l1 x26_2).f3)))) ?hg ?ho ?hn ?hr ?_; (case ho => rfl); (case hg => rfl); (case hn => rfl); (case hr => first | (go_simp; done) | (go_simp; rfl)); intro w31 hw; have n0_ : Aside0 (Kd.R (Kd.int .u8) 5 w31 w.heap.size (fun _ => True) u5 x5_2) := ⟨(by rw [hw]; exact (by (with_reducible repeat (first | apply Kd.R_alloc | apply Kd.R_drewN | apply Kd.R_drew)); exact Kd.R_mono (Kd.R_far (p := ⟨gb281, 3, none⟩) (Kd.R_far (p := ⟨gb281, 2, none⟩) (Kd.R_far (p := ⟨gb281, 1, none⟩) (Kd.R_far (p := ⟨gb281, 0, none⟩) (Kd.R_types HO_5.out BK281.out (by decide)) (fun _ hk => hk.2) (.int .i64 ((rd_T42 l1 x26_2).f0))) (fun _ hk => hk.2) (.int .i64 ((rd_T42 l1 x26_2).f1))) (fun _ hk => hk.2) (.string ((rd_T42 l1 x26_2).f2))) (fun _ hk => hk.2) (.bool ((rd_T42 l1 x26_2).f3))) (fun _ hk => trivial)))⟩; have n1_ : Aside0 (w31.heap[gb281]? = some (.cells #[.int .i64 ((rd_T42 l1 x26_2).f0), .int .i64 ((rd_T42 l1 x26_2).f1), .string ((rd_T42 l1 x26_2).f2), .bool ((rd_T42 l1 x26_2).f3)] 42 (0, 0))) := ⟨(by rw [hw]; exact (by (with_reducible repeat (first | refine blk_drewN ?_ _ | refine blk_drew ?_ | refine blk_alloc ?_ _)); refine blk_put (cs := #[.int .i64 ((rd_T42 l1 x26_2).f0), .int .i64 ((rd_T42 l1 x26_2).f1), .string ((rd_T42 l1 x26_2).f2), .bool false]) ?_ 3 _ rfl; (with_reducible repeat (first | refine blk_drewN ?_ _ | refine blk_drew ?_ | refine blk_alloc ?_ _)); refine blk_put (cs := #[.int .i64 ((rd_T42 l1 x26_2).f0), .int .i64 ((rd_T42 l1 x26_2).f1), .string (⟨#[]⟩ : ByteArray), .bool false]) ?_ 2 _ rfl; (with_reducible repeat (first | refine blk_drewN ?_ _ | refine blk_drew ?_ | refine blk_alloc ?_ _)); refine blk_put (cs := #[.int .i64 ((rd_T42 l1 x26_2).f0), .int .i64 0, .string (⟨#[]⟩ : ByteArray), .bool false]) ?_ 1 _ rfl; (with_reducible repeat (first | refine blk_drewN ?_ _ | refine blk_drew ?_ | refine blk_alloc ?_ _)); refine blk_put (cs := #[.int .i64 0, .int .i64 0, .string (⟨#[]⟩ : ByteArray), .bool false]) ?_ 0 _ rfl; (with_reducible repeat (first | refine blk_drewN ?_ _ | refine blk_drew ?_ | refine blk_alloc ?_ _)); exact BK281.out))⟩; have n2_ : Aside0 (Below w.heap.size w w31) := ⟨(by rw [hw]; exact (by repeat (first | (with_reducible first | exact HB.out | apply below_alloc | apply pw_below_drewN | apply below_drew1 | refine below_set ?_ GE281.out) | exact HB.out)))⟩; clear hw; clear HO_5; clear BK281; clear HB; have HO_5 := n0_; have BK281 := n1_; have HB := n2_; clear n0_ n1_ n2_; have hcz32_0 : w31.cell? ⟨gb281, 0, none⟩ = some (.int .i64 ((rd_T42 l1 x26_2).f0)) := (blk_cell BK281.out 0).trans rfl; have hcz32_1 : w31.cell? ⟨gb281, 1, none⟩ = some (.int .i64 ((rd_T42 l1 x26_2).f1)) := (blk_cell BK281.out 1).trans rfl; have hcz32_2 : w31.cell? ⟨gb281, 2, none⟩ = some (.string ((rd_T42 l1 x26_2).f2)) := (blk_cell BK281.out 2).trans rfl; have hcz32_3 : w31.cell? ⟨gb281, 3, none⟩ = some (.bool ((rd_T42 l1 x26_2).f3)) := (blk_cell BK281.out 3).trans rfl; have hfz32_0 := blk_frozen BK281.out 0; have hfz32_1 := blk_frozen BK281.out 1; have hfz32_2 := blk_frozen BK281.out 2; have hfz32_3 := blk_frozen BK281.out 3; obtain ⟨Ao33, co33, eo33⟩ := Kd.R_slice HO_5.out; subst eo33) | ((with_reducible refine gate_callee (f := 30) rfl ?_); refine goesL_ (some 48) rfl rfl Try.func30 (by kernel_rfl) rfl #[.slice Ao33 x5_2.length co33, .string ((rd_T42 l1 x26_2).f2)] rfl (by (try simp only [List.map_toArray, List.map_cons, List.map_nil]); first | done | rfl | (simp only [List.length_drop, List.length_take]; rfl)) ?_; (with_reducible refine (octet_Text.calls k2 (fun k_ => some k_ = (.slice Ao33 x5_2.length co33 : Value).ownBlock) (.slice Ao33 x5_2.length co33) x5_2 ((rd_T42 l1 x26_2).f2) t285 w _ ?side1 ?side2 A28.out).mono ?_); (case side1 => repeat (first | (with_reducible first | exact HB.out | apply below_alloc | apply pw_below_drewN | apply below_drew1 | refine below_set ?_ GE281.out) | exact HB.out)); (case side2 => exact Kd.R_tight rfl HO_5.out); rintro e w34 ⟨v286, rfl, ho0, hb, hkp⟩; refine ⟨_, rfl, ?_⟩; have n0_ := Aside0.mk (blk_kept (by (with_reducible repeat (first | refine blk_drewN ?_ _ | refine blk_drew ?_ | refine blk_alloc ?_ _)); exact BK281.out) hkp (fun hs_ => (fun e_ => (Kd.R_ne HO_5.out BK281.out (by decide)) e_) hs_)); have n1_ := Aside0.mk (Kd.R_mono (ok' := fun k_ => True) ho0 (fun k_ hk_ => trivial)); have n2_ := Aside0.mk (hb); clear BK281; clear HB; clear HO_5; have BK281 := n0_; have HO287 := n1_; have HB := n2_; clear n0_ n1_ n2_; (try clear hb); (try clear hkp); (try clear ho0)))
                          go_roundg k2
                          case measure => have := HJ4.out; have := HK2.out; omega
                          case rel => exact ⟨(t285), (wrap64 (x26_2 + 1)), (by first | rfl | (simp; done) | (simp [*]; done)), H', ⟨by have := HJ4.out; have := HK2.out; omega⟩, ⟨by (with_reducible repeat (first | apply Kd.R_alloc | apply Kd.R_drewN | apply Kd.R_drew)); exact HO287.out⟩, ⟨by repeat (first | (with_reducible first | exact HB.out | apply below_alloc | apply pw_below_drewN | apply below_drew1 | refine below_set ?_ GE281.out) | exact HB.out)⟩⟩
                        · rw [if_neg c27] at H
                          have c27b0 : ((Go.bits .and .i64 ((rd_T42 l1 x26_2).f0) 3) == 1) = false := beq_eq_false_iff_ne.mpr c27
                          have c27b1 : ((Go.bits .and .i64 ((rd_T42 l1 x26_2).f0) 3) != 1) = true := bne_iff_ne.mpr c27
                          replace H := Option.bind_eq_some_iff.mp H
                          obtain ⟨t288, A350, H⟩ := H
                          replace H : (mailbaglaw01_OctetLays.l0 k2 l0 l1 t288 l1 (l1.length : Int) (wrap64 (x26_2 + 1))) = some r := H
                          have A35 := Aside0.mk A350
                          clear A350
                          have H' := Aside0.mk H
                          clear H
                          have p280 : 0 ≤ (x26_2 : Int) := of_decide_eq_true (by first | (with_reducible assumption) | assumption)
                          have q280 : x26_2 < (l1.length : Int) := of_decide_eq_true (by first | (with_reducible assumption) | assumption)
                          obtain ⟨ad280, e280, hx280_0, hx280_1, hx280_2, hx280_3⟩ := at_T42 HR1.out x26_2 p280 q280
                          cases e280
                          replace hx280_0 := (HB.out.cell (World.block_lt_of_cell? w _ hx280_0)).trans hx280_0
                          replace hx280_1 := (HB.out.cell (World.block_lt_of_cell? w _ hx280_1)).trans hx280_1
                          replace hx280_2 := (HB.out.cell (World.block_lt_of_cell? w _ hx280_2)).trans hx280_2
                          replace hx280_3 := (HB.out.cell (World.block_lt_of_cell? w _ hx280_3)).trans hx280_3
                          replace p280 := eq_true p280
                          replace q280 := eq_true q280
                          go_wp2_with (first | ((with_reducible refine gate_dst (N := 7) rfl ?_); (try (refine gate_guard (by rfl) ?_; dsimp only)); refine box_event ?hg (N := 7) ?hd (cs := #[.int .i64 0, .int .i64 0, .string (⟨#[]⟩ : ByteArray), .bool false]) (t := 42) ?hr ?_; (case hd => rfl); (case hg => rfl); (case hr => first | (go_simp; done) | (go_simp; rfl)); intro gb281 hg w36 hbox hb; have n0_ := Aside0.mk (Kd.R_below (by (with_reducible repeat (first | apply Kd.R_alloc | apply Kd.R_drewN | apply Kd.R_drew)); exact HO_5.out) hb); have n1_ := Aside0.mk (below_step (by repeat (first | (with_reducible first | exact HB.out | apply below_alloc | apply pw_below_drewN | apply below_drew1) | exact HB.out)) hb); have n2_ := Aside0.mk (hbox); have n3_ := Aside0.mk ((by rw [hg]; exact (below_size (by repeat (first | (with_reducible first | exact HB.out | apply below_alloc | apply pw_below_drewN | apply below_drew1) | exact HB.out))) : w.heap.size ≤ gb281)); have n4_ := Aside0.mk ((by rw [hg]; exact (below_size (by repeat (first | (with_reducible first | exact HB.out | apply below_alloc | apply pw_below_drewN | apply below_drew1) | exact HB.out))) : w.heap.size ≤ gb281)); clear HO_5; clear HB; have HO_5 := n0_; have HB := n1_; have BK281 := n2_; have GW281 := n3_; have GE281 := n4_; clear n0_ n1_ n2_ n3_ n4_; clear hb hbox hg; have hcz37_0 : w36.cell? ⟨gb281, 0, none⟩ = some (.int .i64 0) := (blk_cell BK281.out 0).trans rfl; have hcz37_1 : w36.cell? ⟨gb281, 1, none⟩ = some (.int .i64 0) := (blk_cell BK281.out 1).trans rfl; have hcz37_2 : w36.cell? ⟨gb281, 2, none⟩ = some (.string (⟨#[]⟩ : ByteArray)) := (blk_cell BK281.out 2).trans rfl; have hcz37_3 : w36.cell? ⟨gb281, 3, none⟩ = some (.bool false) := (blk_cell BK281.out 3).trans rfl; have hfz37_0 := blk_frozen BK281.out 0; have hfz37_1 := blk_frozen BK281.out 1; have hfz37_2 := blk_frozen BK281.out 2; have hfz37_3 := blk_frozen BK281.out 3) | ((with_reducible refine gate_store (t := 42) (p := 7) rfl ?_); refine store_event (t := 42) (p := 7) (v := ?vo_w38) (w1 := ((((w36.setCell ⟨gb281, 0, none⟩ (.int .i64 ((rd_T42 l1 x26_2).f0))).setCell ⟨gb281, 1, none⟩ (.int .i64 ((rd_T42 l1 x26_2).f1))).setCell ⟨gb281, 2, none⟩ (.string ((rd_T42 l1 x26_2).f2))).setCell ⟨gb281, 3, none⟩ (.bool ((rd_T42 l1 x26_2).f3)))) ?hg ?ho ?hn ?hr ?_; (case ho => rfl); (case hg => rfl); (case hn => rfl); (case hr => first | (go_simp; done) | (go_simp; rfl)); intro w38 hw; have n0_ : Aside0 (Kd.R (Kd.int .u8) 5 w38 w.heap.size (fun _ => True) u5 x5_2) := ⟨(by rw [hw]; exact (by (with_reducible repeat (first | apply Kd.R_alloc | apply Kd.R_drewN | apply Kd.R_drew)); exact Kd.R_mono (Kd.R_far (p := ⟨gb281, 3, none⟩) (Kd.R_far (p := ⟨gb281, 2, none⟩) (Kd.R_far (p := ⟨gb281, 1, none⟩) (Kd.R_far (p := ⟨gb281, 0, none⟩) (Kd.R_types HO_5.out BK281.out (by decide)) (fun _ hk => hk.2) (.int .i64 ((rd_T42 l1 x26_2).f0))) (fun _ hk => hk.2) (.int .i64 ((rd_T42 l1 x26_2).f1))) (fun _ hk => hk.2) (.string ((rd_T42 l1 x26_2).f2))) (fun _ hk => hk.2) (.bool ((rd_T42 l1 x26_2).f3))) (fun _ hk => trivial)))⟩; have n1_ : Aside0 (w38.heap[gb281]? = some (.cells #[.int .i64 ((rd_T42 l1 x26_2).f0), .int .i64 ((rd_T42 l1 x26_2).f1), .string ((rd_T42 l1 x26_2).f2), .bool ((rd_T42 l1 x26_2).f3)] 42 (0, 0))) := ⟨(by rw [hw]; exact (by (with_reducible repeat (first | refine blk_drewN ?_ _ | refine blk_drew ?_ | refine blk_alloc ?_ _)); refine blk_put (cs := #[.int .i64 ((rd_T42 l1 x26_2).f0), .int .i64 ((rd_T42 l1 x26_2).f1), .string ((rd_T42 l1 x26_2).f2), .bool false]) ?_ 3 _ rfl; (with_reducible repeat (first | refine blk_drewN ?_ _ | refine blk_drew ?_ | refine blk_alloc ?_ _)); refine blk_put (cs := #[.int .i64 ((rd_T42 l1 x26_2).f0), .int .i64 ((rd_T42 l1 x26_2).f1), .string (⟨#[]⟩ : ByteArray), .bool false]) ?_ 2 _ rfl; (with_reducible repeat (first | refine blk_drewN ?_ _ | refine blk_drew ?_ | refine blk_alloc ?_ _)); refine blk_put (cs := #[.int .i64 ((rd_T42 l1 x26_2).f0), .int .i64 0, .string (⟨#[]⟩ : ByteArray), .bool false]) ?_ 1 _ rfl; (with_reducible repeat (first | refine blk_drewN ?_ _ | refine blk_drew ?_ | refine blk_alloc ?_ _)); refine blk_put (cs := #[.int .i64 0, .int .i64 0, .string (⟨#[]⟩ : ByteArray), .bool false]) ?_ 0 _ rfl; (with_reducible repeat (first | refine blk_drewN ?_ _ | refine blk_drew ?_ | refine blk_alloc ?_ _)); exact BK281.out))⟩; have n2_ : Aside0 (Below w.heap.size w w38) := ⟨(by rw [hw]; exact (by repeat (first | (with_reducible first | exact HB.out | apply below_alloc | apply pw_below_drewN | apply below_drew1 | refine below_set ?_ GE281.out) | exact HB.out)))⟩; clear hw; clear HO_5; clear BK281; clear HB; have HO_5 := n0_; have BK281 := n1_; have HB := n2_; clear n0_ n1_ n2_; have hcz39_0 : w38.cell? ⟨gb281, 0, none⟩ = some (.int .i64 ((rd_T42 l1 x26_2).f0)) := (blk_cell BK281.out 0).trans rfl; have hcz39_1 : w38.cell? ⟨gb281, 1, none⟩ = some (.int .i64 ((rd_T42 l1 x26_2).f1)) := (blk_cell BK281.out 1).trans rfl; have hcz39_2 : w38.cell? ⟨gb281, 2, none⟩ = some (.string ((rd_T42 l1 x26_2).f2)) := (blk_cell BK281.out 2).trans rfl; have hcz39_3 : w38.cell? ⟨gb281, 3, none⟩ = some (.bool ((rd_T42 l1 x26_2).f3)) := (blk_cell BK281.out 3).trans rfl; have hfz39_0 := blk_frozen BK281.out 0; have hfz39_1 := blk_frozen BK281.out 1; have hfz39_2 := blk_frozen BK281.out 2; have hfz39_3 := blk_frozen BK281.out 3; obtain ⟨Ao40, co40, eo40⟩ := Kd.R_slice HO_5.out; subst eo40) | ((with_reducible refine gate_callee (f := 31) rfl ?_); refine goesL_ (some 36) rfl rfl Try.func31 (by kernel_rfl) rfl #[.slice Ao40 x5_2.length co40, .bool ((rd_T42 l1 x26_2).f3)] rfl (by (try simp only [List.map_toArray, List.map_cons, List.map_nil]); first | done | rfl | (simp only [List.length_drop, List.length_take]; rfl)) ?_; (with_reducible refine (octet_Flag.calls (fun k_ => some k_ = (.slice Ao40 x5_2.length co40 : Value).ownBlock) (.slice Ao40 x5_2.length co40) x5_2 ((rd_T42 l1 x26_2).f3) t288 w _ ?side1 ?side2 A35.out).mono ?_); (case side1 => repeat (first | (with_reducible first | exact HB.out | apply below_alloc | apply pw_below_drewN | apply below_drew1 | refine below_set ?_ GE281.out) | exact HB.out)); (case side2 => exact Kd.R_tight rfl HO_5.out); rintro e w41 ⟨v289, rfl, ho0, hb, hkp⟩; refine ⟨_, rfl, ?_⟩; have n0_ := Aside0.mk (blk_kept (by (with_reducible repeat (first | refine blk_drewN ?_ _ | refine blk_drew ?_ | refine blk_alloc ?_ _)); exact BK281.out) hkp (fun hs_ => (fun e_ => (Kd.R_ne HO_5.out BK281.out (by decide)) e_) hs_)); have n1_ := Aside0.mk (Kd.R_mono (ok' := fun k_ => True) ho0 (fun k_ hk_ => trivial)); have n2_ := Aside0.mk (hb); clear BK281; clear HB; clear HO_5; have BK281 := n0_; have HO290 := n1_; have HB := n2_; clear n0_ n1_ n2_; (try clear hb); (try clear hkp); (try clear ho0)))
                          go_roundg k2
                          case measure => have := HJ4.out; have := HK2.out; omega
                          case rel => exact ⟨(t288), (wrap64 (x26_2 + 1)), (by first | rfl | (simp; done) | (simp [*]; done)), H', ⟨by have := HJ4.out; have := HK2.out; omega⟩, ⟨by (with_reducible repeat (first | apply Kd.R_alloc | apply Kd.R_drewN | apply Kd.R_drew)); exact HO290.out⟩, ⟨by repeat (first | (with_reducible first | exact HB.out | apply below_alloc | apply pw_below_drewN | apply below_drew1 | refine below_set ?_ GE281.out) | exact HB.out)⟩⟩
                    · rw [if_neg c18] at H
                      exact absurd H (by simp)
                  · rw [if_neg c17] at H
                    exact absurd H (by simp)
                · rw [if_neg c16] at H
                  have c16b0 : decide (x26_2 < (l1.length : Int)) = false := decide_eq_false c16
                  clear c16
                  replace H := Option.bind_eq_some_iff.mp H
                  obtain ⟨t291, A420, H⟩ := H
                  replace H : (if (strOfNums l0).size + t291.size ≤ 9223372036854775807 then (if (strOfNums x5_2).toList = ((strOfNums l0) ++ t291).toList then (if 0 ≤ (l0.length : Int) then (if (l0.length : Int) ≤ (x5_2.length : Int) then ((octet_Read.f (strOfNums (x5_2.drop ((l0.length : Int) : Int).toNat))).bind fun bt296 => (mailbaglaw01_OctetLays.l1 k2 l1 (l1.length : Int) 0 bt296.1 bt296.2)) else (none)) else (none)) else (some false)) else (none)) = some r := H
                  have A42 := Aside0.mk A420
                  clear A420
                  by_cases c43 : (strOfNums l0).size + t291.size ≤ 9223372036854775807
                  · rw [if_pos c43] at H
                    have c43b0 := eq_true c43
                    have c43b1 : decide ((strOfNums l0).size + t291.size ≤ 9223372036854775807) = true := decide_eq_true c43
                    try have c43b2 : (9223372036854775807 < (strOfNums l0).size + t291.size) = False := eq_false (Nat.not_lt.2 c43)
                    by_cases c44 : (strOfNums x5_2).toList = ((strOfNums l0) ++ t291).toList
                    · rw [if_pos c44] at H
                      have c44b0 : ((strOfNums x5_2).toList == ((strOfNums l0) ++ t291).toList) = true := beq_iff_eq.mpr c44
                      have c44b1 : ((strOfNums x5_2).toList != ((strOfNums l0) ++ t291).toList) = false := bne_eq_false_iff_eq.mpr c44
                      clear c44
                      by_cases c45 : 0 ≤ (l0.length : Int)
                      · rw [if_pos c45] at H
                        have c45b0 := eq_true c45
                        have c45b1 : decide (0 ≤ (l0.length : Int)) = true := decide_eq_true c45
                        clear c45
                        by_cases c46 : (l0.length : Int) ≤ (x5_2.length : Int)
                        · rw [if_pos c46] at H
                          have c46b0 := eq_true c46
                          have c46b1 : decide ((l0.length : Int) ≤ (x5_2.length : Int)) = true := decide_eq_true c46
                          clear c46
                          obtain ⟨y292, hy292⟩ : ∃ y_ : List Int, y_ = (x5_2.drop ((l0.length : Int) : Int).toNat) := ⟨_, rfl⟩
                          replace H : ((octet_Read.f (strOfNums y292)).bind fun bt296 => (mailbaglaw01_OctetLays.l1 k2 l1 (l1.length : Int) 0 bt296.1 bt296.2)) = some r := by first | (rw [hy292]; with_reducible exact H) | (have H2_ := (Option.bind_some _ _).symm.trans H; rw [hy292]; with_reducible exact H2_) | (have H2_ := (Option.bind_some _ _).symm.trans H; with_reducible exact H2_) | with_reducible exact H | (rw [hy292]; exact H) | exact H
                          have Ny292 := Aside0.mk hy292
                          clear hy292
                          replace H := Option.bind_eq_some_iff.mp H
                          obtain ⟨⟨t296, t297⟩, A470, H⟩ := H
                          replace H : (mailbaglaw01_OctetLays.l1 k2 l1 (l1.length : Int) 0 t296 t297) = some r := H
                          have A47 := Aside0.mk A470
                          clear A470
                          have H' := Aside0.mk H
                          clear H
                          try go_wp2
                          have n0_ := Aside0.mk (Kd.R_drew HO_5.out)
                          have n1_ := Aside0.mk (below_drew1 HB.out)
                          clear HO_5
                          clear HB
                          have HO_5 := n0_
                          have HB := n1_
                          clear n0_ n1_
                          have hcv49 := own_string (P := Try.prog) Try.underlying23 Try.underlying5 Try.underlying9 (Kd.own_of_R HO_5.out)
                          have hcv50 := fun nd_ : Nat => own_string (P := Try.prog) Try.underlying23 Try.underlying5 Try.underlying9 (Kd.own_of_R (Kd.R_drewN HO_5.out nd_))
                          have hcv51 := Kd.C_string (P := Try.prog) (A := A0) (c := c0) Try.underlying23 Try.underlying5 Try.underlying9 (Kd.C_below HR0.out HB.out)
                          have hcv52 := fun nd_ : Nat => Kd.C_string (P := Try.prog) (A := A0) (c := c0) Try.underlying23 Try.underlying5 Try.underlying9 (Kd.C_drewN (Kd.C_below HR0.out HB.out) nd_)
                          refine start_ (n := 8) (S := fun w' => Sem.run Try.prog (convert 23 9 u5) w' = .ok (.string (strOfNums x5_2)) w' ∧ Sem.run Try.prog (convert 23 9 (.slice A0 l0.length c0)) w' = .ok (.string (strOfNums l0)) w') (ds := []) #[false, false, false, false, false, false, false, false] (by kernel_rfl) rfl rfl ⟨(own_string (P := Try.prog) Try.underlying23 Try.underlying5 Try.underlying9 (Kd.own_of_R HO_5.out)), (Kd.C_string (P := Try.prog) (A := A0) (c := c0) Try.underlying23 Try.underlying5 Try.underlying9 (Kd.C_below HR0.out HB.out))⟩ (fun hHeld => ?_); refine with_tabW mailbaglaw01_OctetLays.tab16 mailbaglaw01_OctetLays.bits16 (fun HT_ HW_ => ?_)
                          generalize wr.drew = w48 at HO_5 HB hHeld ⊢
                          refine pure_ (i := 0) (N := some 50) (v := ?_) (a' := ?_) #[true, false, false, false, false, false, false, false] rfl rfl (any_of HT_.out (by kernel_rfl)) (fun _ _ _ h => h) (Or.inl ⟨by rfl, ?_⟩) ?_ ?_
                          rotate_left
                          · intro w'
                            go_simp
                            with_reducible rfl
                          rotate_left
                          · simp only [Act.put, List.setIfInBounds_toArray, List.set_cons_zero, List.set_cons_succ, i64_w, i32_w]
                            rfl
                          refine pure_ (i := 2) (N := some 52) (v := ?_) (a' := ?_) #[true, false, true, false, false, false, false, false] rfl rfl (any_of HT_.out (by kernel_rfl)) (fun _ _ _ h => h) (Or.inl ⟨by rfl, ?_⟩) ?_ ?_
                          rotate_left
                          · intro w'
                            go_simp
                            with_reducible rfl
                          rotate_left
                          · simp only [Act.put, List.setIfInBounds_toArray, List.set_cons_zero, List.set_cons_succ, i64_w, i32_w]
                            rfl
                          refine pure_ (i := 4) (N := some 54) (v := ?_) (a' := ?_) #[true, false, true, false, true, false, false, false] rfl rfl (any_of HT_.out (by kernel_rfl)) (fun _ _ _ h => h) (Or.inl ⟨by rfl, ?_⟩) ?_ ?_
                          rotate_left
                          · intro w'
                            go_simp
                            with_reducible rfl
                          rotate_left
                          · simp only [Act.put, List.setIfInBounds_toArray, List.set_cons_zero, List.set_cons_succ, i64_w, i32_w]
                            rfl
                          refine take_ (i := 1) (N := some 51) (v := ?_) (a' := ?_) #[true, true, true, false, true, false, false, false] rfl rfl (take_ofW HT_.out HW_.out (by kernel_rfl)) (fun _ _ _ h => h) (Or.inl ⟨by rfl, ?_⟩) hHeld ?_ ?_
                          rotate_left
                          · rintro w' ⟨s0, s1⟩
                            go_simp
                            with_reducible rfl
                          rotate_left
                          · simp only [Act.put, List.setIfInBounds_toArray, List.set_cons_zero, List.set_cons_succ, i64_w, i32_w]
                            rfl
                          refine take_ (i := 3) (N := some 53) (v := ?_) (a' := ?_) #[true, true, true, true, true, false, false, false] rfl rfl (take_ofW HT_.out HW_.out (by kernel_rfl)) (fun _ _ _ h => h) (Or.inl ⟨by rfl, ?_⟩) hHeld ?_ ?_
                          rotate_left
                          · rintro w' ⟨s0, s1⟩
                            go_simp
                            with_reducible rfl
                          rotate_left
                          · simp only [Act.put, List.setIfInBounds_toArray, List.set_cons_zero, List.set_cons_succ, i64_w, i32_w]
                            rfl
                          refine one_ (i := 5) (N := some 55) #[true, true, true, true, true, true, false, false] rfl rfl (one_of HT_.out (by kernel_rfl)) (by decide) (fun K hK => ?_)
                          refine goes_ Try.func28 (by kernel_rfl) rfl #[.slice A1 l1.length c1] (by rfl) rfl rfl (by (try simp only [List.map_toArray, List.map_cons, List.map_nil]); first | done | rfl | (simp only [List.length_drop, List.length_take]; rfl)) ?_
                          with_reducible refine (mailbaglaw01_lay.calls k2 _ _ l1 t291 _ ?side1 ?side2 A42.out).mono ?_
                          (case side1 => repeat (first | exact (Kd.C_below HR1.out HB.out) | (with_reducible refine Kd.C_alloc ?_ _) | (with_reducible refine Kd.C_drewN ?_ _) | (with_reducible refine Kd.C_drew ?_)))
                          (case side2 => exact HC1.out)
                          rintro e w53 ⟨rfl, hb⟩
                          refine ⟨_, rfl, ?_⟩
                          have n0_ := Aside0.mk (Kd.R_below (by (with_reducible repeat (first | apply Kd.R_alloc | apply Kd.R_drewN | apply Kd.R_drew)); exact HO_5.out) hb)
                          have n1_ := Aside0.mk (below_step (by repeat (first | (with_reducible first | exact HB.out | apply below_alloc | apply pw_below_drewN | apply below_drew1) | exact HB.out)) hb)
                          clear HO_5
                          clear HB
                          have HO_5 := n0_
                          have HB := n1_
                          clear n0_ n1_
                          (try clear hb)
                          (try clear hb2)
                          (try clear hk)
                          (try clear hi)
                          refine hK.out _ _ ⟨(own_string (P := Try.prog) Try.underlying23 Try.underlying5 Try.underlying9 (Kd.own_of_R HO_5.out)), (Kd.C_string (P := Try.prog) (A := A0) (c := c0) Try.underlying23 Try.underlying5 Try.underlying9 (Kd.C_below HR0.out HB.out))⟩ (fun hHeld => ?_)
                          clear hK K
                          refine norm_ (a' := ?_) ?_ ?_
                          rotate_left
                          · show Act.put _ (some 55) _ = _
                            simp only [Act.put, List.setIfInBounds_toArray, List.set_cons_zero, List.set_cons_succ, i64_w, i32_w]
                            rfl
                          refine pure_ (i := 6) (N := some 56) (v := ?_) (a' := ?_) #[true, true, true, true, true, true, true, false] rfl rfl (any_of HT_.out (by kernel_rfl)) (fun _ _ _ h => h) (Or.inl ⟨by rfl, ?_⟩) ?_ ?_
                          rotate_left
                          · intro w'
                            go_simp
                            with_reducible rfl
                          rotate_left
                          · simp only [Act.put, List.setIfInBounds_toArray, List.set_cons_zero, List.set_cons_succ, i64_w, i32_w]
                            rfl
                          refine pure_ (i := 7) (N := some 57) (v := ?_) (a' := ?_) #[true, true, true, true, true, true, true, true] rfl rfl (any_of HT_.out (by kernel_rfl)) (fun _ _ _ h => h) (Or.inl ⟨by rfl, ?_⟩) ?_ ?_
                          rotate_left
                          · intro w'
                            go_simp
                            with_reducible rfl
                          rotate_left
                          · simp only [Act.put, List.setIfInBounds_toArray, List.set_cons_zero, List.set_cons_succ, i64_w, i32_w]
                            rfl
                          refine done_ (done_of HT_.out (by kernel_rfl)) ?_
                          obtain ⟨Ao56, co56, eo56⟩ := Kd.R_slice HO_5.out
                          subst eo56
                          have q55 : ((l0.length : Int) : Int) ≤ ((x5_2.length : Int) : Int) := of_decide_eq_true (by first | (with_reducible assumption) | assumption)
                          obtain ⟨i055, hi055, _, hsz55, _⟩ := info_parts info5
                          have hroom55 : x5_2.length ≤ co56 := (Kd.R_reads' HO_5.out).2.1
                          have hC55 : Kd.C (Kd.int .u8) _ Ao56 x5_2.length x5_2 := (Kd.R_reads' HO_5.out).2.2
                          have q055 : (0 : Int) ≤ ((l0.length : Int) : Int) := of_decide_eq_true (by first | (with_reducible assumption) | assumption)
                          have hcut55 := cut_from (P := Try.prog) 23 5 .i64 Try.underlying23 hi055 1 hsz55 Ao56 x5_2.length co56 (l0.length : Int) q055 q55
                          have hr55 := Kd.C_drop (m := ((l0.length : Int) : Int).toNat) (c := co56) hC55 (by omega) hroom55
                          obtain ⟨A55, hA55⟩ : ∃ A1, A1 = (if co56 = ((l0.length : Int) : Int).toNat then Ao56 else (Ao56 : Option Addr).map (·.add (((l0.length : Int) : Int).toNat * 1))) := ⟨_, rfl⟩
                          obtain ⟨c55, hc55⟩ : ∃ c1, c1 = co56 - ((l0.length : Int) : Int).toNat := ⟨_, rfl⟩
                          have hy55 : y292.length = x5_2.length - ((l0.length : Int) : Int).toNat := (by rw [Ny292.out, List.length_drop] <;> omega)
                          rw [show (x5_2).drop ((l0.length : Int) : Int).toNat = y292 from Ny292.out.symm] at hr55
                          replace hr55 : Kd.C (Kd.int .u8) _ A55 y292.length y292 := (by rw [hA55]; exact hr55)
                          rw [← hy55, ← hA55, ← hc55] at hcut55
                          have HR295 := Aside0.mk hr55
                          have HC295 := Aside0.mk (show y292.length ≤ c55 from by rw [hy55, hc55]; exact Nat.sub_le_sub_right hroom55 _)
                          clear hr55 hC55 hroom55 hi055 hsz55 hc55
                          have KY55 := Aside0.mk hy55
                          have KA55 := Aside0.mk hA55
                          clear hy55 hA55
                          have KL55 := Aside0.mk (show ((l0.length : Int) : Int).toNat ≤ x5_2.length from by omega)
                          replace q55 := eq_true q55
                          have hcv57 := Kd.C_string (P := Try.prog) (A := A55) (c := c55) Try.underlying23 Try.underlying5 Try.underlying9 (by repeat (first | (with_reducible exact HR295.out) | (with_reducible refine Kd.C_alloc ?_ _) | (with_reducible refine Kd.C_drewN ?_ _) | (with_reducible refine Kd.C_drew ?_) | exact HR295.out))
                          have hcv58 := fun nd_ : Nat => Kd.C_string (P := Try.prog) (A := A55) (c := c55) Try.underlying23 Try.underlying5 Try.underlying9 (Kd.C_drewN (by repeat (first | (with_reducible exact HR295.out) | (with_reducible refine Kd.C_alloc ?_ _) | (with_reducible refine Kd.C_drewN ?_ _) | (with_reducible refine Kd.C_drew ?_) | exact HR295.out)) nd_)
                          try go_wp2_with (first | ((with_reducible refine gate_callee (f := 20) rfl ?_); refine goesL_ (some 63) rfl rfl Try.func20 (by kernel_rfl) rfl #[.string (strOfNums y292)] rfl (by (try simp only [List.map_toArray, List.map_cons, List.map_nil]); first | done | rfl | (simp only [List.length_drop, List.length_take]; rfl)) ?_; (with_reducible refine (octet_Read.calls (strOfNums y292) t296 t297 w _ ?side1 A47.out).mono ?_); (case side1 => repeat (first | (with_reducible first | exact HB.out | apply below_alloc | apply pw_below_drewN | apply below_drew1) | exact HB.out)); rintro e w59 ⟨g298, rfl, hi, hb, hb2⟩; refine ⟨_, rfl, ?_⟩; have n0_ := Aside0.mk (Kd.R_below (by (with_reducible repeat (first | apply Kd.R_alloc | apply Kd.R_drewN | apply Kd.R_drew)); exact HO_5.out) hb2); have n1_ := Aside0.mk (Kd.C_below (by repeat (first | (with_reducible exact HR295.out) | (with_reducible refine Kd.C_alloc ?_ _) | (with_reducible refine Kd.C_drewN ?_ _) | (with_reducible refine Kd.C_drew ?_) | exact HR295.out)) hb2); have n2_ := Aside0.mk (hb); have n3_ := Aside0.mk (hi); clear HO_5; clear HR295; clear HB; have HO_5 := n0_; have HR295 := n1_; have HB := n2_; have HI298 := n3_; clear n0_ n1_ n2_ n3_; (try clear hb); (try clear hb2); (try clear hk); (try clear hi)))
                          go_loopg [66] k2 (fun kq v66 w' => ∃ (x66_3 : Int) (x299000_3 : ByteArray) (x299001_3 : Bool), v66 = .int .i64 x66_3 ∧ Aside0 (mailbaglaw01_OctetLays.l1 kq l1 (l1.length : Int) x66_3 x299000_3 x299001_3 = some r) ∧ Aside0 (kq ≤ k2) ∧ Aside0 (IsS70 w w' g298 x299000_3 x299001_3) ∧ Aside0 (Below w.heap.size w w'))
                          case atStart => exact ⟨(0), (t296), (t297), (by first | rfl | (simp; done) | (simp [*]; done)), H', ⟨Nat.le_refl _⟩, ⟨by repeat (first | (with_reducible first | exact HI298.out | apply IsS70.alloc | apply IsS70.drewN | apply IsS70.drew | apply IsS70.set_0 | apply IsS70.set_1) | exact HI298.out)⟩, ⟨by repeat (first | (with_reducible first | exact HB.out | apply below_alloc | apply pw_below_drewN | apply below_drew1 | refine below_set ?_ (IsS70.ge HI298.out)) | exact HB.out)⟩⟩
                          case round =>
                            clear H'
                            try clear c1
                            try clear c2
                            try clear p2
                            try clear q2
                            try clear hx2
                            try clear c3
                            try clear c4
                            try clear hcv4
                            try clear c5
                            try clear q5
                            try clear hcv5
                            try clear p6
                            try clear c8
                            try clear c9
                            try clear c11
                            try clear c12
                            try clear c16
                            try clear c16b0
                            try clear c17
                            try clear c17b0
                            try clear c18
                            try clear c18b0
                            try clear c19
                            try clear c19b0
                            try clear c19b1
                            try clear c20
                            try clear c27
                            try clear c27b0
                            try clear c27b1
                            try clear c28
                            try clear p28
                            try clear q28
                            try clear hx28
                            try clear c29
                            try clear c30
                            try clear c31
                            try clear c43
                            try clear c43b0
                            try clear c43b1
                            try clear c43b2
                            try clear c44
                            try clear c44b0
                            try clear c44b1
                            try clear c45
                            try clear c45b0
                            try clear c45b1
                            try clear c46
                            try clear c46b0
                            try clear c46b1
                            try clear hcv49
                            try clear hcv50
                            try clear hcv51
                            try clear hcv52
                            try clear c55
                            try clear q55
                            try clear hcv57
                            try clear hcv58
                            try clear hcz22_0
                            try clear hcz22_1
                            try clear hcz22_2
                            try clear hcz22_3
                            try clear hcz24_0
                            try clear hcz24_1
                            try clear hcz24_2
                            try clear hcz24_3
                            try clear hcz30_0
                            try clear hcz30_1
                            try clear hcz30_2
                            try clear hcz30_3
                            try clear hcz32_0
                            try clear hcz32_1
                            try clear hcz32_2
                            try clear hcz32_3
                            try clear hcz37_0
                            try clear hcz37_1
                            try clear hcz37_2
                            try clear hcz37_3
                            try clear hcz39_0
                            try clear hcz39_1
                            try clear hcz39_2
                            try clear hcz39_3
                            try clear hfz22_0
                            try clear hfz22_1
                            try clear hfz22_2
                            try clear hfz22_3
                            try clear hfz24_0
                            try clear hfz24_1
                            try clear hfz24_2
                            try clear hfz24_3
                            try clear hfz30_0
                            try clear hfz30_1
                            try clear hfz30_2
                            try clear hfz30_3
                            try clear hfz32_0
                            try clear hfz32_1
                            try clear hfz32_2
                            try clear hfz32_3
                            try clear hfz37_0
                            try clear hfz37_1
                            try clear hfz37_2
                            try clear hfz37_3
                            try clear hfz39_0
                            try clear hfz39_1
                            try clear hfz39_2
                            try clear hfz39_3
                            try clear hx280_0
                            try clear hx280_1
                            try clear hx280_2
                            try clear hx280_3
                            try clear p2
                            try clear p280
                            try clear q055
                            try clear q280
                            try clear q55
                            obtain ⟨x66_3, x299000_3, x299001_3, rfl, HA, HK3, HI298, HB⟩ := hrel
                            cases gk with
                            | zero => exact absurd HA.out (by simp [mailbaglaw01_OctetLays.l1])
                            | succ k3 =>
                              have H := HA.out
                              clear HA
                              simp only [mailbaglaw01_OctetLays.l1] at H
                              by_cases c60 : x66_3 < (l1.length : Int)
                              · rw [if_pos c60] at H
                                have c60b0 : decide (x66_3 < (l1.length : Int)) = true := decide_eq_true c60
                                clear c60
                                by_cases c61 : 0 ≤ x66_3
                                · rw [if_pos c61] at H
                                  have c61b0 : decide (0 ≤ x66_3) = true := decide_eq_true c61
                                  clear c61
                                  by_cases c62 : x66_3 < (l1.length : Int)
                                  · rw [if_pos c62] at H
                                    have c62b0 : decide (x66_3 < (l1.length : Int)) = true := decide_eq_true c62
                                    clear c62
                                    by_cases c63 : (Go.bits .and .i64 ((rd_T42 l1 x66_3).f0) 3) = 0
                                    · rw [if_pos c63] at H
                                      have c63b0 : ((Go.bits .and .i64 ((rd_T42 l1 x66_3).f0) 3) == 0) = true := beq_iff_eq.mpr c63
                                      have c63b1 : ((Go.bits .and .i64 ((rd_T42 l1 x66_3).f0) 3) != 0) = false := bne_eq_false_iff_eq.mpr c63
                                      clear c63
                                      have HC64 := Aside0.mk H
                                      clear H
                                      have p305 : 0 ≤ (x66_3 : Int) := of_decide_eq_true (by first | (with_reducible assumption) | assumption)
                                      have q305 : x66_3 < (l1.length : Int) := of_decide_eq_true (by first | (with_reducible assumption) | assumption)
                                      obtain ⟨ad305, e305, hx305_0, hx305_1, hx305_2, hx305_3⟩ := at_T42 HR1.out x66_3 p305 q305
                                      cases e305
                                      replace hx305_0 := (HB.out.cell (World.block_lt_of_cell? w _ hx305_0)).trans hx305_0
                                      replace hx305_1 := (HB.out.cell (World.block_lt_of_cell? w _ hx305_1)).trans hx305_1
                                      replace hx305_2 := (HB.out.cell (World.block_lt_of_cell? w _ hx305_2)).trans hx305_2
                                      replace hx305_3 := (HB.out.cell (World.block_lt_of_cell? w _ hx305_3)).trans hx305_3
                                      replace p305 := eq_true p305
                                      replace q305 := eq_true q305
                                      go_upto_region 26 with (first | ((with_reducible refine gate_dst (N := 10) rfl ?_); (try (refine gate_guard (by rfl) ?_; dsimp only)); refine box_event ?hg (N := 10) ?hd (cs := #[.int .i64 0, .int .i64 0, .string (⟨#[]⟩ : ByteArray), .bool false]) (t := 42) ?hr ?_; (case hd => rfl); (case hg => rfl); (case hr => first | (go_simp; done) | (go_simp; rfl)); intro gb306 hg w65 hbox hb; have n0_ := Aside0.mk (IsS70.below (by repeat (first | (with_reducible first | exact HI298.out | apply IsS70.alloc | apply IsS70.drewN | apply IsS70.drew | apply IsS70.set_0 | apply IsS70.set_1) | exact HI298.out)) hb); have n1_ := Aside0.mk (below_step (by repeat (first | (with_reducible first | exact HB.out | apply below_alloc | apply pw_below_drewN | apply below_drew1 | refine below_set ?_ (IsS70.ge HI298.out)) | exact HB.out)) hb); have n2_ := Aside0.mk (hbox); have n3_ := Aside0.mk ((by rw [hg]; exact (below_size (by repeat (first | (with_reducible first | exact HB.out | apply below_alloc | apply pw_below_drewN | apply below_drew1 | refine below_set ?_ (IsS70.ge HI298.out)) | exact HB.out))) : w.heap.size ≤ gb306)); have n4_ := Aside0.mk ((by rw [hg]; exact (below_size (by repeat (first | (with_reducible first | exact HB.out | apply below_alloc | apply pw_below_drewN | apply below_drew1 | refine below_set ?_ (IsS70.ge HI298.out)) | exact HB.out))) : w.heap.size ≤ gb306)); have n5_ := Aside0.mk ((by rw [hg]; exact Nat.ne_of_lt (IsS70.lt (show IsS70 w _ g298 x299000_3 x299001_3 from by repeat (first | (with_reducible first | exact HI298.out | apply IsS70.alloc | apply IsS70.drewN | apply IsS70.drew | apply IsS70.set_0 | apply IsS70.set_1) | exact HI298.out))) : g298 ≠ gb306)); have n6_ := Aside0.mk ((by rw [hg]; exact Nat.ne_of_gt (IsS70.lt (show IsS70 w _ g298 x299000_3 x299001_3 from by repeat (first | (with_reducible first | exact HI298.out | apply IsS70.alloc | apply IsS70.drewN | apply IsS70.drew | apply IsS70.set_0 | apply IsS70.set_1) | exact HI298.out))) : gb306 ≠ g298)); clear HI298; clear HB; have HI298 := n0_; have HB := n1_; have BK306 := n2_; have GW306 := n3_; have GE306 := n4_; have NB298_306 := n5_; have NB306_298 := n6_; clear n0_ n1_ n2_ n3_ n4_ n5_ n6_; clear hb hbox hg; have hnb66 := NB306_298.out; have hnc66 := NB298_306.out; have hcz67_0 : w65.cell? ⟨gb306, 0, none⟩ = some (.int .i64 0) := (blk_cell BK306.out 0).trans rfl; have hcz67_1 : w65.cell? ⟨gb306, 1, none⟩ = some (.int .i64 0) := (blk_cell BK306.out 1).trans rfl; have hcz67_2 : w65.cell? ⟨gb306, 2, none⟩ = some (.string (⟨#[]⟩ : ByteArray)) := (blk_cell BK306.out 2).trans rfl; have hcz67_3 : w65.cell? ⟨gb306, 3, none⟩ = some (.bool false) := (blk_cell BK306.out 3).trans rfl; have hfz67_0 := blk_frozen BK306.out 0; have hfz67_1 := blk_frozen BK306.out 1; have hfz67_2 := blk_frozen BK306.out 2; have hfz67_3 := blk_frozen BK306.out 3))
                                      (try simp only [Act.put, List.setIfInBounds_toArray, List.set_cons_zero, List.set_cons_succ])
                                      go_cut [91] (fun v91 wc => ∃ (kq : Nat) (x91_63 : Bool) (x299000_63 : ByteArray) (x299001_63 : Bool), v91 = .bool x91_63 ∧ Aside0 (mailbaglaw01_OctetLays.j3 kq l1 (l1.length : Int) x66_3 x91_63 x299000_63 x299001_63 ((rd_T42 l1 x66_3).f0) ((rd_T42 l1 x66_3).f1) ((rd_T42 l1 x66_3).f2) ((rd_T42 l1 x66_3).f3) = some r) ∧ Aside0 (kq ≤ k3) ∧ Aside0 (wc.heap[gb306]? = some (.cells #[.int .i64 ((rd_T42 l1 x66_3).f0), .int .i64 ((rd_T42 l1 x66_3).f1), .string ((rd_T42 l1 x66_3).f2), .bool ((rd_T42 l1 x66_3).f3)] 42 (0, 0))) ∧ Aside0 (IsS70 w wc g298 x299000_63 x299001_63) ∧ Aside0 (Below w.heap.size w wc))
                                      case first =>
                                        have H := HC64.out
                                        clear HC64
                                        replace H := Option.bind_eq_some_iff.mp H
                                        obtain ⟨⟨t307, t308, t309⟩, A680, H⟩ := H
                                        replace H : (if t307 = (mn (mx ((rd_T42 l1 x66_3).f1) 0) 4611686018427387904) then (mailbaglaw01_OctetLays.j3 k3 l1 (l1.length : Int) x66_3 false t308 t309 ((rd_T42 l1 x66_3).f0) ((rd_T42 l1 x66_3).f1) ((rd_T42 l1 x66_3).f2) ((rd_T42 l1 x66_3).f3)) else (mailbaglaw01_OctetLays.j3 k3 l1 (l1.length : Int) x66_3 (decide (((rd_T42 l1 x66_3).f1) ≤ 4611686018427387904)) t308 t309 ((rd_T42 l1 x66_3).f0) ((rd_T42 l1 x66_3).f1) ((rd_T42 l1 x66_3).f2) ((rd_T42 l1 x66_3).f3))) = some r := H
                                        have A68 := Aside0.mk A680
                                        clear A680
                                        obtain ⟨ji69, hji69⟩ : ∃ j_ : Int, (mx ((rd_T42 l1 x66_3).f1) 0) = j_ := ⟨_, rfl⟩
                                        replace H : (if t307 = (mn (ji69) 4611686018427387904) then (mailbaglaw01_OctetLays.j3 k3 l1 (l1.length : Int) x66_3 false t308 t309 ((rd_T42 l1 x66_3).f0) ((rd_T42 l1 x66_3).f1) ((rd_T42 l1 x66_3).f2) ((rd_T42 l1 x66_3).f3)) else (mailbaglaw01_OctetLays.j3 k3 l1 (l1.length : Int) x66_3 (decide (((rd_T42 l1 x66_3).f1) ≤ 4611686018427387904)) t308 t309 ((rd_T42 l1 x66_3).f0) ((rd_T42 l1 x66_3).f1) ((rd_T42 l1 x66_3).f2) ((rd_T42 l1 x66_3).f3))) = some r := by first | (rw [hji69] at H; exact H) | (simp only [hji69] at H ⊢; exact H)
                                        (try rw [hji69] at A68)
                                        have hji69_ : (if ((rd_T42 l1 x66_3).f1) < 0 then 0 else ((rd_T42 l1 x66_3).f1)) = ji69 := hji69
                                        obtain ⟨ji70, hji70⟩ : ∃ j_ : Int, (mn (ji69) 4611686018427387904) = j_ := ⟨_, rfl⟩
                                        replace H : (if t307 = (ji70) then (mailbaglaw01_OctetLays.j3 k3 l1 (l1.length : Int) x66_3 false t308 t309 ((rd_T42 l1 x66_3).f0) ((rd_T42 l1 x66_3).f1) ((rd_T42 l1 x66_3).f2) ((rd_T42 l1 x66_3).f3)) else (mailbaglaw01_OctetLays.j3 k3 l1 (l1.length : Int) x66_3 (decide (((rd_T42 l1 x66_3).f1) ≤ 4611686018427387904)) t308 t309 ((rd_T42 l1 x66_3).f0) ((rd_T42 l1 x66_3).f1) ((rd_T42 l1 x66_3).f2) ((rd_T42 l1 x66_3).f3))) = some r := by first | (rw [hji70] at H; exact H) | (simp only [hji70] at H ⊢; exact H)
                                        (try rw [hji70] at A68)
                                        have hji70_ : (if 4611686018427387904 < (ji69) then 4611686018427387904 else (ji69)) = ji70 := hji70
                                        by_cases c71 : t307 = (ji70)
                                        · rw [if_pos c71] at H
                                          have c71b0 : (t307 == (ji70)) = true := beq_iff_eq.mpr c71
                                          have c71b1 : (t307 != (ji70)) = false := bne_eq_false_iff_eq.mpr c71
                                          clear c71
                                          (first | rw [c71b0] | (simp only [i64_w, i32_w]; rw [c71b0]) | skip)
                                          have H' := Aside0.mk H
                                          clear H
                                          try go_wp2
                                          have n0_ : Aside0 (((((w65.setCell ⟨gb306, 0, none⟩ (.int .i64 ((rd_T42 l1 x66_3).f0))).setCell ⟨gb306, 1, none⟩ (.int .i64 ((rd_T42 l1 x66_3).f1))).setCell ⟨gb306, 2, none⟩ (.string ((rd_T42 l1 x66_3).f2))).setCell ⟨gb306, 3, none⟩ (.bool ((rd_T42 l1 x66_3).f3))).heap[gb306]? = some (.cells #[.int .i64 ((rd_T42 l1 x66_3).f0), .int .i64 ((rd_T42 l1 x66_3).f1), .string ((rd_T42 l1 x66_3).f2), .bool ((rd_T42 l1 x66_3).f3)] 42 (0, 0))) := ⟨by (with_reducible repeat (first | refine blk_drewN ?_ _ | refine blk_drew ?_ | refine blk_alloc ?_ _)); refine blk_put (cs := #[.int .i64 ((rd_T42 l1 x66_3).f0), .int .i64 ((rd_T42 l1 x66_3).f1), .string ((rd_T42 l1 x66_3).f2), .bool false]) ?_ 3 _ rfl; (with_reducible repeat (first | refine blk_drewN ?_ _ | refine blk_drew ?_ | refine blk_alloc ?_ _)); refine blk_put (cs := #[.int .i64 ((rd_T42 l1 x66_3).f0), .int .i64 ((rd_T42 l1 x66_3).f1), .string (⟨#[]⟩ : ByteArray), .bool false]) ?_ 2 _ rfl; (with_reducible repeat (first | refine blk_drewN ?_ _ | refine blk_drew ?_ | refine blk_alloc ?_ _)); refine blk_put (cs := #[.int .i64 ((rd_T42 l1 x66_3).f0), .int .i64 0, .string (⟨#[]⟩ : ByteArray), .bool false]) ?_ 1 _ rfl; (with_reducible repeat (first | refine blk_drewN ?_ _ | refine blk_drew ?_ | refine blk_alloc ?_ _)); refine blk_put (cs := #[.int .i64 0, .int .i64 0, .string (⟨#[]⟩ : ByteArray), .bool false]) ?_ 0 _ rfl; (with_reducible repeat (first | refine blk_drewN ?_ _ | refine blk_drew ?_ | refine blk_alloc ?_ _)); exact BK306.out⟩
                                          have n1_ : Aside0 (IsS70 w ((((w65.setCell ⟨gb306, 0, none⟩ (.int .i64 ((rd_T42 l1 x66_3).f0))).setCell ⟨gb306, 1, none⟩ (.int .i64 ((rd_T42 l1 x66_3).f1))).setCell ⟨gb306, 2, none⟩ (.string ((rd_T42 l1 x66_3).f2))).setCell ⟨gb306, 3, none⟩ (.bool ((rd_T42 l1 x66_3).f3))) g298 x299000_3 x299001_3) := ⟨by repeat (first | (with_reducible first | exact HI298.out | apply IsS70.alloc | apply IsS70.drewN | apply IsS70.drew | apply IsS70.set_0 | apply IsS70.set_1 | refine IsS70.far ?_ NB298_306.out _) | exact HI298.out)⟩
                                          have n2_ : Aside0 (Below w.heap.size w ((((w65.setCell ⟨gb306, 0, none⟩ (.int .i64 ((rd_T42 l1 x66_3).f0))).setCell ⟨gb306, 1, none⟩ (.int .i64 ((rd_T42 l1 x66_3).f1))).setCell ⟨gb306, 2, none⟩ (.string ((rd_T42 l1 x66_3).f2))).setCell ⟨gb306, 3, none⟩ (.bool ((rd_T42 l1 x66_3).f3)))) := ⟨by repeat (first | (with_reducible first | exact HB.out | apply below_alloc | apply pw_below_drewN | apply below_drew1 | refine below_set ?_ (IsS70.ge HI298.out) | refine below_set ?_ GE306.out) | exact HB.out)⟩
                                          (try clear BK306)
                                          (try clear HI298)
                                          (try clear HB)
                                          generalize ((((w65.setCell ⟨gb306, 0, none⟩ (.int .i64 ((rd_T42 l1 x66_3).f0))).setCell ⟨gb306, 1, none⟩ (.int .i64 ((rd_T42 l1 x66_3).f1))).setCell ⟨gb306, 2, none⟩ (.string ((rd_T42 l1 x66_3).f2))).setCell ⟨gb306, 3, none⟩ (.bool ((rd_T42 l1 x66_3).f3))) = w72 at n0_ n1_ n2_ ⊢
                                          have BK306 := n0_
                                          have HI298 := n1_
                                          have HB := n2_
                                          clear n0_ n1_ n2_
                                          have n0_ := Aside0.mk (blk_drew BK306.out)
                                          have n1_ := Aside0.mk (IsS70.drew HI298.out)
                                          have n2_ := Aside0.mk (below_drew1 HB.out)
                                          clear BK306
                                          clear HI298
                                          clear HB
                                          have BK306 := n0_
                                          have HI298 := n1_
                                          have HB := n2_
                                          clear n0_ n1_ n2_
                                          refine start_ (n := 12) (S := fun w' => w'.cell? ⟨gb306, 0, none⟩ = some (.int .i64 ((rd_T42 l1 x66_3).f0)) ∧ w'.cell? ⟨gb306, 1, none⟩ = some (.int .i64 ((rd_T42 l1 x66_3).f1)) ∧ w'.cell? ⟨gb306, 2, none⟩ = some (.string ((rd_T42 l1 x66_3).f2)) ∧ w'.cell? ⟨gb306, 3, none⟩ = some (.bool ((rd_T42 l1 x66_3).f3))) (ds := []) #[false, false, false, false, false, false, false, false, false, false, false, false] (by kernel_rfl) rfl rfl ⟨(blk_cell BK306.out 0).trans rfl, (blk_cell BK306.out 1).trans rfl, (blk_cell BK306.out 2).trans rfl, (blk_cell BK306.out 3).trans rfl⟩ (fun hHeld => ?_); refine with_tabW mailbaglaw01_OctetLays.tab26 mailbaglaw01_OctetLays.bits26 (fun HT_ HW_ => ?_)
                                          generalize w72.drew = w73 at BK306 HI298 HB hHeld ⊢
                                          refine pure_ (i := 0) (N := some 80) (v := ?_) (a' := ?_) #[true, false, false, false, false, false, false, false, false, false, false, false] rfl rfl (any_of HT_.out (by kernel_rfl)) (fun _ _ _ h => h) (Or.inl ⟨by rfl, ?_⟩) ?_ ?_
                                          rotate_left
                                          · intro w'
                                            go_simp
                                            with_reducible rfl
                                          rotate_left
                                          · simp only [Act.put, List.setIfInBounds_toArray, List.set_cons_zero, List.set_cons_succ, i64_w, i32_w]
                                            rfl
                                          refine pure_ (i := 2) (N := some 82) (v := ?_) (a' := ?_) #[true, false, true, false, false, false, false, false, false, false, false, false] rfl rfl (any_of HT_.out (by kernel_rfl)) (fun _ _ _ h => h) (Or.inl ⟨by rfl, ?_⟩) ?_ ?_
                                          rotate_left
                                          · intro w'
                                            go_simp
                                            with_reducible rfl
                                          rotate_left
                                          · simp only [Act.put, List.setIfInBounds_toArray, List.set_cons_zero, List.set_cons_succ, i64_w, i32_w]
                                            rfl
                                          refine take_ (i := 3) (N := some 83) (v := ?_) (a' := ?_) #[true, false, true, true, false, false, false, false, false, false, false, false] rfl rfl (take_ofW HT_.out HW_.out (by kernel_rfl)) (fun _ _ _ h => h) (Or.inl ⟨by rfl, ?_⟩) hHeld ?_ ?_
                                          rotate_left
                                          · rintro w' ⟨s0, s1, s2, s3⟩
                                            go_simp
                                            with_reducible rfl
                                          rotate_left
                                          · simp only [Act.put, List.setIfInBounds_toArray, List.set_cons_zero, List.set_cons_succ, i64_w, i32_w]
                                            rfl
                                          refine pure_ (i := 4) (N := some 84) (v := ?_) (a' := ?_) #[true, false, true, true, true, false, false, false, false, false, false, false] rfl rfl (any_of HT_.out (by kernel_rfl)) (fun _ _ _ h => h) (Or.inl ⟨by rfl, ?_⟩) ?_ ?_
                                          rotate_left
                                          · intro w'
                                            go_simp
                                            with_reducible rfl
                                          rotate_left
                                          · simp only [Act.put, List.setIfInBounds_toArray, List.set_cons_zero, List.set_cons_succ, i64_w, i32_w]
                                            rfl
                                          refine pure_ (i := 5) (N := some 85) (v := ?_) (a' := ?_) #[true, false, true, true, true, true, false, false, false, false, false, false] rfl rfl (any_of HT_.out (by kernel_rfl)) (fun _ _ _ h => h) (Or.inl ⟨by rfl, ?_⟩) ?_ ?_
                                          rotate_left
                                          · intro w'
                                            go_simp
                                            with_reducible rfl
                                          rotate_left
                                          · simp only [Act.put, List.setIfInBounds_toArray, List.set_cons_zero, List.set_cons_succ, i64_w, i32_w]
                                            rfl
                                          refine one_ (i := 1) (N := some 81) #[true, true, true, true, true, true, false, false, false, false, false, false] rfl rfl (one_of HT_.out (by kernel_rfl)) (by decide) (fun K hK => ?_)
                                          refine goes_ Try.func25 (by kernel_rfl) rfl #[.pointer (some ⟨g298, 0, none⟩), .int .i64 4611686018427387904] (by rfl) rfl rfl (by (try simp only [List.map_toArray, List.map_cons, List.map_nil]); first | done | rfl | (simp only [List.length_drop, List.length_take]; rfl)) ?_
                                          with_reducible refine (octet_Reader_Num.calls k3 g298 x299000_3 x299001_3 4611686018427387904 t307 t308 t309 w _ ?side1 ?side2 A68.out).mono ?_
                                          (case side1 => repeat (first | (with_reducible first | exact HI298.out | apply IsS70.alloc | apply IsS70.drewN | apply IsS70.drew | apply IsS70.set_0 | apply IsS70.set_1 | refine IsS70.far ?_ NB298_306.out _) | exact HI298.out))
                                          (case side2 => repeat (first | (with_reducible first | exact HB.out | apply below_alloc | apply pw_below_drewN | apply below_drew1 | refine below_set ?_ (IsS70.ge HI298.out) | refine below_set ?_ GE306.out) | exact HB.out))
                                          rintro e w74 ⟨rfl, hi, hb, hk⟩
                                          refine ⟨_, rfl, ?_⟩
                                          have n0_ := Aside0.mk (KeepBut.blk hk (g' := gb306) (o := .cells #[.int .i64 ((rd_T42 l1 x66_3).f0), .int .i64 ((rd_T42 l1 x66_3).f1), .string ((rd_T42 l1 x66_3).f2), .bool ((rd_T42 l1 x66_3).f3)] 42 (0, 0)) (by (with_reducible repeat (first | refine blk_drewN ?_ _ | refine blk_drew ?_ | refine blk_alloc ?_ _)); exact BK306.out) NB306_298.out (by simp))
                                          have n1_ := Aside0.mk (hb)
                                          have n2_ := Aside0.mk (hi)
                                          clear BK306
                                          clear HB
                                          clear HI298
                                          have BK306 := n0_
                                          have HB := n1_
                                          have HI298 := n2_
                                          clear n0_ n1_ n2_
                                          (try clear hb)
                                          (try clear hb2)
                                          (try clear hk)
                                          (try clear hi)
                                          refine hK.out _ _ ⟨(blk_cell BK306.out 0).trans rfl, (blk_cell BK306.out 1).trans rfl, (blk_cell BK306.out 2).trans rfl, (blk_cell BK306.out 3).trans rfl⟩ (fun hHeld => ?_)
                                          clear hK K
                                          refine norm_ (a' := ?_) ?_ ?_
                                          rotate_left
                                          · show Act.put _ (some 81) _ = _
                                            simp only [Act.put, List.setIfInBounds_toArray, List.set_cons_zero, List.set_cons_succ, i64_w, i32_w]
                                            rfl
                                          refine pure_ (i := 6) (N := some 86) (v := ?_) (a' := ?_) #[true, true, true, true, true, true, true, false, false, false, false, false] rfl rfl (any_of HT_.out (by kernel_rfl)) (fun _ _ _ h => h) (Or.inl ⟨by rfl, ?_⟩) ?_ ?_
                                          rotate_left
                                          · intro w'
                                            go_simp
                                            with_reducible rfl
                                          rotate_left
                                          · simp only [Act.put, List.setIfInBounds_toArray, List.set_cons_zero, List.set_cons_succ, i64_w, i32_w]
                                            rfl
                                          refine pure_ (i := 7) (N := some 87) (v := ?_) (a' := ?_) #[true, true, true, true, true, true, true, true, false, false, false, false] rfl rfl (any_of HT_.out (by kernel_rfl)) (fun _ _ _ h => h) (Or.inl ⟨by rfl, ?_⟩) ?_ ?_
                                          rotate_left
                                          · intro w'
                                            go_simp
                                            with_reducible rfl
                                          rotate_left
                                          · simp only [Act.put, List.setIfInBounds_toArray, List.set_cons_zero, List.set_cons_succ, i64_w, i32_w]
                                            rfl
                                          refine pure_ (i := 8) (N := some 88) (v := undef) (a' := ?_) #[true, true, true, true, true, true, true, true, true, false, false, false] rfl rfl (any_of HT_.out (by kernel_rfl)) (fun _ _ _ h => h) (Or.inr ⟨by rfl, rfl⟩) ?_ ?_
                                          rotate_left
                                          · simp only [Act.put, List.setIfInBounds_toArray, List.set_cons_zero, List.set_cons_succ, i64_w, i32_w]
                                            rfl
                                          refine pure_ (i := 9) (N := some 89) (v := undef) (a' := ?_) #[true, true, true, true, true, true, true, true, true, true, false, false] rfl rfl (any_of HT_.out (by kernel_rfl)) (fun _ _ _ h => h) (Or.inr ⟨by rfl, rfl⟩) ?_ ?_
                                          rotate_left
                                          · simp only [Act.put, List.setIfInBounds_toArray, List.set_cons_zero, List.set_cons_succ, i64_w, i32_w]
                                            rfl
                                          refine pure_ (i := 10) (N := some 90) (v := undef) (a' := ?_) #[true, true, true, true, true, true, true, true, true, true, true, false] rfl rfl (any_of HT_.out (by kernel_rfl)) (fun _ _ _ h => h) (Or.inr ⟨by rfl, rfl⟩) ?_ ?_
                                          rotate_left
                                          · simp only [Act.put, List.setIfInBounds_toArray, List.set_cons_zero, List.set_cons_succ, i64_w, i32_w]
                                            rfl
                                          refine pure_ (i := 11) (N := some 91) (v := ?_) (a' := ?_) #[true, true, true, true, true, true, true, true, true, true, true, true] rfl rfl (any_of HT_.out (by kernel_rfl)) (fun _ _ _ h => h) (Or.inl ⟨by rfl, ?_⟩) ?_ ?_
                                          rotate_left
                                          · intro w'
                                            go_simp
                                            with_reducible rfl
                                          rotate_left
                                          · simp only [Act.put, List.setIfInBounds_toArray, List.set_cons_zero, List.set_cons_succ, i64_w, i32_w]
                                            rfl
                                          refine done_ (done_of HT_.out (by kernel_rfl)) ?_
                                          try go_wp2
                                          go_meet
                                          case rel => exact ⟨_, (false), (t308), (t309), (by first | rfl | (simp; done) | (simp [*]; done)), H', ⟨by have := HJ4.out; have := HK2.out; have := HK3.out; first | omega | exact Nat.le_refl _⟩, ⟨by (with_reducible repeat (first | refine blk_drewN ?_ _ | refine blk_drew ?_ | refine blk_alloc ?_ _)); exact BK306.out⟩, ⟨by repeat (first | (with_reducible first | exact HI298.out | apply IsS70.alloc | apply IsS70.drewN | apply IsS70.drew | apply IsS70.set_0 | apply IsS70.set_1 | refine IsS70.far ?_ NB298_306.out _) | exact HI298.out)⟩, ⟨by repeat (first | (with_reducible first | exact HB.out | apply below_alloc | apply pw_below_drewN | apply below_drew1 | refine below_set ?_ (IsS70.ge HI298.out) | refine below_set ?_ GE306.out) | exact HB.out)⟩⟩
                                        · rw [if_neg c71] at H
                                          have c71b0 : (t307 == (ji70)) = false := beq_eq_false_iff_ne.mpr c71
                                          have c71b1 : (t307 != (ji70)) = true := bne_iff_ne.mpr c71
                                          (first | rw [c71b0] | (simp only [i64_w, i32_w]; rw [c71b0]) | skip)
                                          have H' := Aside0.mk H
                                          clear H
                                          try go_wp2
                                          have n0_ : Aside0 (((((w65.setCell ⟨gb306, 0, none⟩ (.int .i64 ((rd_T42 l1 x66_3).f0))).setCell ⟨gb306, 1, none⟩ (.int .i64 ((rd_T42 l1 x66_3).f1))).setCell ⟨gb306, 2, none⟩ (.string ((rd_T42 l1 x66_3).f2))).setCell ⟨gb306, 3, none⟩ (.bool ((rd_T42 l1 x66_3).f3))).heap[gb306]? = some (.cells #[.int .i64 ((rd_T42 l1 x66_3).f0), .int .i64 ((rd_T42 l1 x66_3).f1), .string ((rd_T42 l1 x66_3).f2), .bool ((rd_T42 l1 x66_3).f3)] 42 (0, 0))) := ⟨by (with_reducible repeat (first | refine blk_drewN ?_ _ | refine blk_drew ?_ | refine blk_alloc ?_ _)); refine blk_put (cs := #[.int .i64 ((rd_T42 l1 x66_3).f0), .int .i64 ((rd_T42 l1 x66_3).f1), .string ((rd_T42 l1 x66_3).f2), .bool false]) ?_ 3 _ rfl; (with_reducible repeat (first | refine blk_drewN ?_ _ | refine blk_drew ?_ | refine blk_alloc ?_ _)); refine blk_put (cs := #[.int .i64 ((rd_T42 l1 x66_3).f0), .int .i64 ((rd_T42 l1 x66_3).f1), .string (⟨#[]⟩ : ByteArray), .bool false]) ?_ 2 _ rfl; (with_reducible repeat (first | refine blk_drewN ?_ _ | refine blk_drew ?_ | refine blk_alloc ?_ _)); refine blk_put (cs := #[.int .i64 ((rd_T42 l1 x66_3).f0), .int .i64 0, .string (⟨#[]⟩ : ByteArray), .bool false]) ?_ 1 _ rfl; (with_reducible repeat (first | refine blk_drewN ?_ _ | refine blk_drew ?_ | refine blk_alloc ?_ _)); refine blk_put (cs := #[.int .i64 0, .int .i64 0, .string (⟨#[]⟩ : ByteArray), .bool false]) ?_ 0 _ rfl; (with_reducible repeat (first | refine blk_drewN ?_ _ | refine blk_drew ?_ | refine blk_alloc ?_ _)); exact BK306.out⟩
                                          have n1_ : Aside0 (IsS70 w ((((w65.setCell ⟨gb306, 0, none⟩ (.int .i64 ((rd_T42 l1 x66_3).f0))).setCell ⟨gb306, 1, none⟩ (.int .i64 ((rd_T42 l1 x66_3).f1))).setCell ⟨gb306, 2, none⟩ (.string ((rd_T42 l1 x66_3).f2))).setCell ⟨gb306, 3, none⟩ (.bool ((rd_T42 l1 x66_3).f3))) g298 x299000_3 x299001_3) := ⟨by repeat (first | (with_reducible first | exact HI298.out | apply IsS70.alloc | apply IsS70.drewN | apply IsS70.drew | apply IsS70.set_0 | apply IsS70.set_1 | refine IsS70.far ?_ NB298_306.out _) | exact HI298.out)⟩
                                          have n2_ : Aside0 (Below w.heap.size w ((((w65.setCell ⟨gb306, 0, none⟩ (.int .i64 ((rd_T42 l1 x66_3).f0))).setCell ⟨gb306, 1, none⟩ (.int .i64 ((rd_T42 l1 x66_3).f1))).setCell ⟨gb306, 2, none⟩ (.string ((rd_T42 l1 x66_3).f2))).setCell ⟨gb306, 3, none⟩ (.bool ((rd_T42 l1 x66_3).f3)))) := ⟨by repeat (first | (with_reducible first | exact HB.out | apply below_alloc | apply pw_below_drewN | apply below_drew1 | refine below_set ?_ (IsS70.ge HI298.out) | refine below_set ?_ GE306.out) | exact HB.out)⟩
                                          (try clear BK306)
                                          (try clear HI298)
                                          (try clear HB)
                                          generalize ((((w65.setCell ⟨gb306, 0, none⟩ (.int .i64 ((rd_T42 l1 x66_3).f0))).setCell ⟨gb306, 1, none⟩ (.int .i64 ((rd_T42 l1 x66_3).f1))).setCell ⟨gb306, 2, none⟩ (.string ((rd_T42 l1 x66_3).f2))).setCell ⟨gb306, 3, none⟩ (.bool ((rd_T42 l1 x66_3).f3))) = w75 at n0_ n1_ n2_ ⊢
                                          have BK306 := n0_
                                          have HI298 := n1_
                                          have HB := n2_
                                          clear n0_ n1_ n2_
                                          have n0_ := Aside0.mk (blk_drew BK306.out)
                                          have n1_ := Aside0.mk (IsS70.drew HI298.out)
                                          have n2_ := Aside0.mk (below_drew1 HB.out)
                                          clear BK306
                                          clear HI298
                                          clear HB
                                          have BK306 := n0_
                                          have HI298 := n1_
                                          have HB := n2_
                                          clear n0_ n1_ n2_
                                          refine start_ (n := 12) (S := fun w' => w'.cell? ⟨gb306, 0, none⟩ = some (.int .i64 ((rd_T42 l1 x66_3).f0)) ∧ w'.cell? ⟨gb306, 1, none⟩ = some (.int .i64 ((rd_T42 l1 x66_3).f1)) ∧ w'.cell? ⟨gb306, 2, none⟩ = some (.string ((rd_T42 l1 x66_3).f2)) ∧ w'.cell? ⟨gb306, 3, none⟩ = some (.bool ((rd_T42 l1 x66_3).f3))) (ds := []) #[false, false, false, false, false, false, false, false, false, false, false, false] (by kernel_rfl) rfl rfl ⟨(blk_cell BK306.out 0).trans rfl, (blk_cell BK306.out 1).trans rfl, (blk_cell BK306.out 2).trans rfl, (blk_cell BK306.out 3).trans rfl⟩ (fun hHeld => ?_); refine with_tabW mailbaglaw01_OctetLays.tab26 mailbaglaw01_OctetLays.bits26 (fun HT_ HW_ => ?_)
                                          generalize w75.drew = w76 at BK306 HI298 HB hHeld ⊢
                                          refine pure_ (i := 0) (N := some 80) (v := ?_) (a' := ?_) #[true, false, false, false, false, false, false, false, false, false, false, false] rfl rfl (any_of HT_.out (by kernel_rfl)) (fun _ _ _ h => h) (Or.inl ⟨by rfl, ?_⟩) ?_ ?_
                                          rotate_left
                                          · intro w'
                                            go_simp
                                            with_reducible rfl
                                          rotate_left
                                          · simp only [Act.put, List.setIfInBounds_toArray, List.set_cons_zero, List.set_cons_succ, i64_w, i32_w]
                                            rfl
                                          refine pure_ (i := 2) (N := some 82) (v := ?_) (a' := ?_) #[true, false, true, false, false, false, false, false, false, false, false, false] rfl rfl (any_of HT_.out (by kernel_rfl)) (fun _ _ _ h => h) (Or.inl ⟨by rfl, ?_⟩) ?_ ?_
                                          rotate_left
                                          · intro w'
                                            go_simp
                                            with_reducible rfl
                                          rotate_left
                                          · simp only [Act.put, List.setIfInBounds_toArray, List.set_cons_zero, List.set_cons_succ, i64_w, i32_w]
                                            rfl
                                          refine take_ (i := 3) (N := some 83) (v := ?_) (a' := ?_) #[true, false, true, true, false, false, false, false, false, false, false, false] rfl rfl (take_ofW HT_.out HW_.out (by kernel_rfl)) (fun _ _ _ h => h) (Or.inl ⟨by rfl, ?_⟩) hHeld ?_ ?_
                                          rotate_left
                                          · rintro w' ⟨s0, s1, s2, s3⟩
                                            go_simp
                                            with_reducible rfl
                                          rotate_left
                                          · simp only [Act.put, List.setIfInBounds_toArray, List.set_cons_zero, List.set_cons_succ, i64_w, i32_w]
                                            rfl
                                          refine pure_ (i := 4) (N := some 84) (v := ?_) (a' := ?_) #[true, false, true, true, true, false, false, false, false, false, false, false] rfl rfl (any_of HT_.out (by kernel_rfl)) (fun _ _ _ h => h) (Or.inl ⟨by rfl, ?_⟩) ?_ ?_
                                          rotate_left
                                          · intro w'
                                            go_simp
                                            with_reducible rfl
                                          rotate_left
                                          · simp only [Act.put, List.setIfInBounds_toArray, List.set_cons_zero, List.set_cons_succ, i64_w, i32_w]
                                            rfl
                                          refine pure_ (i := 5) (N := some 85) (v := ?_) (a' := ?_) #[true, false, true, true, true, true, false, false, false, false, false, false] rfl rfl (any_of HT_.out (by kernel_rfl)) (fun _ _ _ h => h) (Or.inl ⟨by rfl, ?_⟩) ?_ ?_
                                          rotate_left
                                          · intro w'
                                            go_simp
                                            with_reducible rfl
                                          rotate_left
                                          · simp only [Act.put, List.setIfInBounds_toArray, List.set_cons_zero, List.set_cons_succ, i64_w, i32_w]
                                            rfl
                                          refine one_ (i := 1) (N := some 81) #[true, true, true, true, true, true, false, false, false, false, false, false] rfl rfl (one_of HT_.out (by kernel_rfl)) (by decide) (fun K hK => ?_)
                                          refine goes_ Try.func25 (by kernel_rfl) rfl #[.pointer (some ⟨g298, 0, none⟩), .int .i64 4611686018427387904] (by rfl) rfl rfl (by (try simp only [List.map_toArray, List.map_cons, List.map_nil]); first | done | rfl | (simp only [List.length_drop, List.length_take]; rfl)) ?_
                                          with_reducible refine (octet_Reader_Num.calls k3 g298 x299000_3 x299001_3 4611686018427387904 t307 t308 t309 w _ ?side1 ?side2 A68.out).mono ?_
                                          (case side1 => repeat (first | (with_reducible first | exact HI298.out | apply IsS70.alloc | apply IsS70.drewN | apply IsS70.drew | apply IsS70.set_0 | apply IsS70.set_1 | refine IsS70.far ?_ NB298_306.out _) | exact HI298.out))
                                          (case side2 => repeat (first | (with_reducible first | exact HB.out | apply below_alloc | apply pw_below_drewN | apply below_drew1 | refine below_set ?_ (IsS70.ge HI298.out) | refine below_set ?_ GE306.out) | exact HB.out))
                                          rintro e w77 ⟨rfl, hi, hb, hk⟩
                                          refine ⟨_, rfl, ?_⟩
                                          have n0_ := Aside0.mk (KeepBut.blk hk (g' := gb306) (o := .cells #[.int .i64 ((rd_T42 l1 x66_3).f0), .int .i64 ((rd_T42 l1 x66_3).f1), .string ((rd_T42 l1 x66_3).f2), .bool ((rd_T42 l1 x66_3).f3)] 42 (0, 0)) (by (with_reducible repeat (first | refine blk_drewN ?_ _ | refine blk_drew ?_ | refine blk_alloc ?_ _)); exact BK306.out) NB306_298.out (by simp))
                                          have n1_ := Aside0.mk (hb)
                                          have n2_ := Aside0.mk (hi)
                                          clear BK306
                                          clear HB
                                          clear HI298
                                          have BK306 := n0_
                                          have HB := n1_
                                          have HI298 := n2_
                                          clear n0_ n1_ n2_
                                          (try clear hb)
                                          (try clear hb2)
                                          (try clear hk)
                                          (try clear hi)
                                          refine hK.out _ _ ⟨(blk_cell BK306.out 0).trans rfl, (blk_cell BK306.out 1).trans rfl, (blk_cell BK306.out 2).trans rfl, (blk_cell BK306.out 3).trans rfl⟩ (fun hHeld => ?_)
                                          clear hK K
                                          refine norm_ (a' := ?_) ?_ ?_
                                          rotate_left
                                          · show Act.put _ (some 81) _ = _
                                            simp only [Act.put, List.setIfInBounds_toArray, List.set_cons_zero, List.set_cons_succ, i64_w, i32_w]
                                            rfl
                                          refine pure_ (i := 6) (N := some 86) (v := ?_) (a' := ?_) #[true, true, true, true, true, true, true, false, false, false, false, false] rfl rfl (any_of HT_.out (by kernel_rfl)) (fun _ _ _ h => h) (Or.inl ⟨by rfl, ?_⟩) ?_ ?_
                                          rotate_left
                                          · intro w'
                                            go_simp
                                            with_reducible rfl
                                          rotate_left
                                          · simp only [Act.put, List.setIfInBounds_toArray, List.set_cons_zero, List.set_cons_succ, i64_w, i32_w]
                                            rfl
                                          refine pure_ (i := 7) (N := some 87) (v := ?_) (a' := ?_) #[true, true, true, true, true, true, true, true, false, false, false, false] rfl rfl (any_of HT_.out (by kernel_rfl)) (fun _ _ _ h => h) (Or.inl ⟨by rfl, ?_⟩) ?_ ?_
                                          rotate_left
                                          · intro w'
                                            go_simp
                                            with_reducible rfl
                                          rotate_left
                                          · simp only [Act.put, List.setIfInBounds_toArray, List.set_cons_zero, List.set_cons_succ, i64_w, i32_w]
                                            rfl
                                          refine pure_ (i := 8) (N := some 88) (v := ?_) (a' := ?_) #[true, true, true, true, true, true, true, true, true, false, false, false] rfl rfl (any_of HT_.out (by kernel_rfl)) (fun _ _ _ h => h) (Or.inl ⟨by rfl, ?_⟩) ?_ ?_
                                          rotate_left
                                          · intro w'
                                            go_simp
                                            with_reducible rfl
                                          rotate_left
                                          · simp only [Act.put, List.setIfInBounds_toArray, List.set_cons_zero, List.set_cons_succ, i64_w, i32_w]
                                            rfl
                                          refine take_ (i := 9) (N := some 89) (v := ?_) (a' := ?_) #[true, true, true, true, true, true, true, true, true, true, false, false] rfl rfl (take_ofW HT_.out HW_.out (by kernel_rfl)) (fun _ _ _ h => h) (Or.inl ⟨by rfl, ?_⟩) hHeld ?_ ?_
                                          rotate_left
                                          · rintro w' ⟨s0, s1, s2, s3⟩
                                            go_simp
                                            with_reducible rfl
                                          rotate_left
                                          · simp only [Act.put, List.setIfInBounds_toArray, List.set_cons_zero, List.set_cons_succ, i64_w, i32_w]
                                            rfl
                                          refine pure_ (i := 10) (N := some 90) (v := ?_) (a' := ?_) #[true, true, true, true, true, true, true, true, true, true, true, false] rfl rfl (any_of HT_.out (by kernel_rfl)) (fun _ _ _ h => h) (Or.inl ⟨by rfl, ?_⟩) ?_ ?_
                                          rotate_left
                                          · intro w'
                                            go_simp
                                            with_reducible rfl
                                          rotate_left
                                          · simp only [Act.put, List.setIfInBounds_toArray, List.set_cons_zero, List.set_cons_succ, i64_w, i32_w]
                                            rfl
                                          refine pure_ (i := 11) (N := some 91) (v := ?_) (a' := ?_) #[true, true, true, true, true, true, true, true, true, true, true, true] rfl rfl (any_of HT_.out (by kernel_rfl)) (fun _ _ _ h => h) (Or.inl ⟨by rfl, ?_⟩) ?_ ?_
                                          rotate_left
                                          · intro w'
                                            go_simp
                                            with_reducible rfl
                                          rotate_left
                                          · simp only [Act.put, List.setIfInBounds_toArray, List.set_cons_zero, List.set_cons_succ, i64_w, i32_w]
                                            rfl
                                          refine done_ (done_of HT_.out (by kernel_rfl)) ?_
                                          try go_wp2
                                          go_meet
                                          case rel => exact ⟨_, (decide (((rd_T42 l1 x66_3).f1) ≤ 4611686018427387904)), (t308), (t309), (by first | rfl | (simp; done) | (simp [*]; done)), H', ⟨by have := HJ4.out; have := HK2.out; have := HK3.out; first | omega | exact Nat.le_refl _⟩, ⟨by (with_reducible repeat (first | refine blk_drewN ?_ _ | refine blk_drew ?_ | refine blk_alloc ?_ _)); exact BK306.out⟩, ⟨by repeat (first | (with_reducible first | exact HI298.out | apply IsS70.alloc | apply IsS70.drewN | apply IsS70.drew | apply IsS70.set_0 | apply IsS70.set_1 | refine IsS70.far ?_ NB298_306.out _) | exact HI298.out)⟩, ⟨by repeat (first | (with_reducible first | exact HB.out | apply below_alloc | apply pw_below_drewN | apply below_drew1 | refine below_set ?_ (IsS70.ge HI298.out) | refine below_set ?_ GE306.out) | exact HB.out)⟩⟩
                                      case rest =>
                                        clear HC64
                                        try clear c1
                                        try clear c2
                                        try clear p2
                                        try clear q2
                                        try clear hx2
                                        try clear c3
                                        try clear p3
                                        try clear q3
                                        try clear hx3
                                        try clear c4
                                        try clear hcv4
                                        try clear c5
                                        try clear q5
                                        try clear hcv5
                                        try clear c6
                                        try clear p6
                                        try clear c7
                                        try clear c8
                                        try clear c9
                                        try clear c11
                                        try clear c12
                                        try clear c16
                                        try clear c16b0
                                        try clear c17
                                        try clear c17b0
                                        try clear c18
                                        try clear c18b0
                                        try clear c19
                                        try clear c19b0
                                        try clear c19b1
                                        try clear c20
                                        try clear c25
                                        try clear c27
                                        try clear c27b0
                                        try clear c27b1
                                        try clear c28
                                        try clear p28
                                        try clear q28
                                        try clear hx28
                                        try clear c29
                                        try clear c30
                                        try clear p30
                                        try clear q30
                                        try clear hx30
                                        try clear c31
                                        try clear c43
                                        try clear c43b0
                                        try clear c43b1
                                        try clear c43b2
                                        try clear c44
                                        try clear c44b0
                                        try clear c44b1
                                        try clear c45
                                        try clear c45b0
                                        try clear c45b1
                                        try clear c46
                                        try clear c46b0
                                        try clear c46b1
                                        try clear hcv49
                                        try clear hcv50
                                        try clear hcv51
                                        try clear hcv52
                                        try clear c55
                                        try clear q55
                                        try clear hcv57
                                        try clear hcv58
                                        try clear c60
                                        try clear c60b0
                                        try clear c61
                                        try clear c61b0
                                        try clear c62
                                        try clear c62b0
                                        try clear c63
                                        try clear c63b0
                                        try clear c63b1
                                        try clear c66
                                        try clear c71
                                        try clear c71b0
                                        try clear c71b1
                                        try clear hcz22_0
                                        try clear hcz22_1
                                        try clear hcz22_2
                                        try clear hcz22_3
                                        try clear hcz24_0
                                        try clear hcz24_1
                                        try clear hcz24_2
                                        try clear hcz24_3
                                        try clear hcz30_0
                                        try clear hcz30_1
                                        try clear hcz30_2
                                        try clear hcz30_3
                                        try clear hcz32_0
                                        try clear hcz32_1
                                        try clear hcz32_2
                                        try clear hcz32_3
                                        try clear hcz37_0
                                        try clear hcz37_1
                                        try clear hcz37_2
                                        try clear hcz37_3
                                        try clear hcz39_0
                                        try clear hcz39_1
                                        try clear hcz39_2
                                        try clear hcz39_3
                                        try clear hcz67_0
                                        try clear hcz67_1
                                        try clear hcz67_2
                                        try clear hcz67_3
                                        try clear hfz22_0
                                        try clear hfz22_1
                                        try clear hfz22_2
                                        try clear hfz22_3
                                        try clear hfz24_0
                                        try clear hfz24_1
                                        try clear hfz24_2
                                        try clear hfz24_3
                                        try clear hfz30_0
                                        try clear hfz30_1
                                        try clear hfz30_2
                                        try clear hfz30_3
                                        try clear hfz32_0
                                        try clear hfz32_1
                                        try clear hfz32_2
                                        try clear hfz32_3
                                        try clear hfz37_0
                                        try clear hfz37_1
                                        try clear hfz37_2
                                        try clear hfz37_3
                                        try clear hfz39_0
                                        try clear hfz39_1
                                        try clear hfz39_2
                                        try clear hfz39_3
                                        try clear hfz67_0
                                        try clear hfz67_1
                                        try clear hfz67_2
                                        try clear hfz67_3
                                        try clear hx280_0
                                        try clear hx280_1
                                        try clear hx280_2
                                        try clear hx280_3
                                        try clear hx305_0
                                        try clear hx305_1
                                        try clear hx305_2
                                        try clear hx305_3
                                        try clear p2
                                        try clear p28
                                        try clear p280
                                        try clear p305
                                        try clear p6
                                        try clear q055
                                        try clear q2
                                        try clear q28
                                        try clear q280
                                        try clear q305
                                        try clear q5
                                        try clear q55
                                        obtain ⟨kq, x91_63, x299000_63, x299001_63, rfl, HA, HJ63, BK306, HI298, HB⟩ := hcut
                                        cases kq with
                                        | zero => exact absurd HA.out (by simp [mailbaglaw01_OctetLays.j3])
                                        | succ kj63 =>
                                          have H := HA.out
                                          clear HA
                                          simp only [mailbaglaw01_OctetLays.j3] at H
                                          by_cases c78 : x91_63 = true
                                          · subst c78
                                            have H1 : (some false) = some r := by rw [if_pos rfl] at H; exact H
                                            clear H
                                            have H := H1
                                            clear H1
                                            obtain rfl := Option.some.inj H
                                            go_wp2
                                            go_ret
                                            exact ⟨by first | rfl | (simp [errW_none, errW_some] <;> rfl) | (simp [*, errW_none, errW_some] <;> rfl), by repeat (first | (with_reducible first | exact HB.out | apply below_alloc | apply pw_below_drewN | apply below_drew1 | refine below_set ?_ (IsS70.ge HI298.out) | refine below_set ?_ GE306.out) | exact HB.out)⟩
                                          · replace c78 := Bool.eq_false_iff.mpr c78
                                            subst c78
                                            have H1 : (if ((rd_T42 l1 x66_3).f1) > 4611686018427387904 then ((octet_Reader_Err.f x299000_63 x299001_63).bind fun bt310 => (some (bt310.1 == 2))) else (mailbaglaw01_OctetLays.l1 kj63 l1 (l1.length : Int) (wrap64 (x66_3 + 1)) x299000_63 x299001_63)) = some r := by rw [if_neg (show ¬ (false = true) by decide)] at H; exact H
                                            clear H
                                            have H := H1
                                            clear H1
                                            by_cases c79 : ((rd_T42 l1 x66_3).f1) > 4611686018427387904
                                            · rw [if_pos c79] at H
                                              have c79b0 : decide (4611686018427387904 < ((rd_T42 l1 x66_3).f1)) = true := decide_eq_true c79
                                              clear c79
                                              replace H := Option.bind_eq_some_iff.mp H
                                              obtain ⟨⟨t310, t311, t312⟩, A800, H⟩ := H
                                              replace H : (some (t310 == 2)) = some r := H
                                              have A80 := Aside0.mk A800
                                              clear A800
                                              obtain rfl := Option.some.inj H
                                              have hnb81 := NB306_298.out
                                              have hnc81 := NB298_306.out
                                              have hcz82_0 : wc.cell? ⟨gb306, 0, none⟩ = some (.int .i64 ((rd_T42 l1 x66_3).f0)) := (blk_cell BK306.out 0).trans rfl
                                              have hcz82_1 : wc.cell? ⟨gb306, 1, none⟩ = some (.int .i64 ((rd_T42 l1 x66_3).f1)) := (blk_cell BK306.out 1).trans rfl
                                              have hcz82_2 : wc.cell? ⟨gb306, 2, none⟩ = some (.string ((rd_T42 l1 x66_3).f2)) := (blk_cell BK306.out 2).trans rfl
                                              have hcz82_3 : wc.cell? ⟨gb306, 3, none⟩ = some (.bool ((rd_T42 l1 x66_3).f3)) := (blk_cell BK306.out 3).trans rfl
                                              have hfz82_0 := blk_frozen BK306.out 0
                                              have hfz82_1 := blk_frozen BK306.out 1
                                              have hfz82_2 := blk_frozen BK306.out 2
                                              have hfz82_3 := blk_frozen BK306.out 3
                                              go_wp2_with (first | ((with_reducible refine gate_callee (f := 22) rfl ?_); refine goesL_ (some 96) rfl rfl Try.func22 (by kernel_rfl) rfl #[.pointer (some ⟨g298, 0, none⟩)] rfl (by (try simp only [List.map_toArray, List.map_cons, List.map_nil]); first | done | rfl | (simp only [List.length_drop, List.length_take]; rfl)) ?_; (with_reducible refine (octet_Reader_Err.calls g298 x299000_63 x299001_63 t310 t311 t312 w _ ?side1 ?side2 A80.out).mono ?_); (case side1 => repeat (first | (with_reducible first | exact HI298.out | apply IsS70.alloc | apply IsS70.drewN | apply IsS70.drew | apply IsS70.set_0 | apply IsS70.set_1 | refine IsS70.far ?_ NB298_306.out _) | exact HI298.out)); (case side2 => repeat (first | (with_reducible first | exact HB.out | apply below_alloc | apply pw_below_drewN | apply below_drew1 | refine below_set ?_ (IsS70.ge HI298.out) | refine below_set ?_ GE306.out) | exact HB.out)); rintro e w83 ⟨rfl, hi, hb, hk⟩; refine ⟨_, rfl, ?_⟩; have n0_ := Aside0.mk (KeepBut.blk hk (g' := gb306) (o := .cells #[.int .i64 ((rd_T42 l1 x66_3).f0), .int .i64 ((rd_T42 l1 x66_3).f1), .string ((rd_T42 l1 x66_3).f2), .bool ((rd_T42 l1 x66_3).f3)] 42 (0, 0)) (by (with_reducible repeat (first | refine blk_drewN ?_ _ | refine blk_drew ?_ | refine blk_alloc ?_ _)); exact BK306.out) NB306_298.out (by simp)); have n1_ := Aside0.mk (hb); have n2_ := Aside0.mk (hi); clear BK306; clear HB; clear HI298; have BK306 := n0_; have HB := n1_; have HI298 := n2_; clear n0_ n1_ n2_; (try clear hb); (try clear hb2); (try clear hk); (try clear hi)))
                                              go_ret
                                              exact ⟨by first | rfl | (simp [errW_none, errW_some] <;> rfl) | (simp [*, errW_none, errW_some] <;> rfl), by repeat (first | (with_reducible first | exact HB.out | apply below_alloc | apply pw_below_drewN | apply below_drew1 | refine below_set ?_ (IsS70.ge HI298.out) | refine below_set ?_ GE306.out) | exact HB.out)⟩
                                            · rw [if_neg c79] at H
                                              have c79b0 : decide (4611686018427387904 < ((rd_T42 l1 x66_3).f1)) = false := decide_eq_false c79
                                              clear c79
                                              have H' := Aside0.mk H
                                              clear H
                                              have hnb84 := NB306_298.out
                                              have hnc84 := NB298_306.out
                                              have hcz85_0 : wc.cell? ⟨gb306, 0, none⟩ = some (.int .i64 ((rd_T42 l1 x66_3).f0)) := (blk_cell BK306.out 0).trans rfl
                                              have hcz85_1 : wc.cell? ⟨gb306, 1, none⟩ = some (.int .i64 ((rd_T42 l1 x66_3).f1)) := (blk_cell BK306.out 1).trans rfl
                                              have hcz85_2 : wc.cell? ⟨gb306, 2, none⟩ = some (.string ((rd_T42 l1 x66_3).f2)) := (blk_cell BK306.out 2).trans rfl
                                              have hcz85_3 : wc.cell? ⟨gb306, 3, none⟩ = some (.bool ((rd_T42 l1 x66_3).f3)) := (blk_cell BK306.out 3).trans rfl
                                              have hfz85_0 := blk_frozen BK306.out 0
                                              have hfz85_1 := blk_frozen BK306.out 1
                                              have hfz85_2 := blk_frozen BK306.out 2
                                              have hfz85_3 := blk_frozen BK306.out 3
                                              go_wp2
                                              go_roundg kj63
                                              case measure => have := HJ4.out; have := HK2.out; have := HK3.out; have := HJ63.out; omega
                                              case rel => exact ⟨(wrap64 (x66_3 + 1)), (x299000_63), (x299001_63), (by first | rfl | (simp; done) | (simp [*]; done)), H', ⟨by have := HJ4.out; have := HK2.out; have := HK3.out; have := HJ63.out; omega⟩, ⟨by repeat (first | (with_reducible first | exact HI298.out | apply IsS70.alloc | apply IsS70.drewN | apply IsS70.drew | apply IsS70.set_0 | apply IsS70.set_1 | refine IsS70.far ?_ NB298_306.out _) | exact HI298.out)⟩, ⟨by repeat (first | (with_reducible first | exact HB.out | apply below_alloc | apply pw_below_drewN | apply below_drew1 | refine below_set ?_ (IsS70.ge HI298.out) | refine below_set ?_ GE306.out) | exact HB.out)⟩⟩
                                    · rw [if_neg c63] at H
                                      have c63b0 : ((Go.bits .and .i64 ((rd_T42 l1 x66_3).f0) 3) == 0) = false := beq_eq_false_iff_ne.mpr c63
                                      have c63b1 : ((Go.bits .and .i64 ((rd_T42 l1 x66_3).f0) 3) != 0) = true := bne_iff_ne.mpr c63
                                      by_cases c86 : (Go.bits .and .i64 ((rd_T42 l1 x66_3).f0) 3) = 1
                                      · rw [if_pos c86] at H
                                        have c86b0 : ((Go.bits .and .i64 ((rd_T42 l1 x66_3).f0) 3) == 1) = true := beq_iff_eq.mpr c86
                                        have c86b1 : ((Go.bits .and .i64 ((rd_T42 l1 x66_3).f0) 3) != 1) = false := bne_eq_false_iff_eq.mpr c86
                                        clear c86
                                        replace H := Option.bind_eq_some_iff.mp H
                                        obtain ⟨⟨t313, t314, t315⟩, A870, H⟩ := H
                                        replace H : (if t313.toList = ((rd_T42 l1 x66_3).f2).toList then (mailbaglaw01_OctetLays.l1 k3 l1 (l1.length : Int) (wrap64 (x66_3 + 1)) t314 t315) else (some false)) = some r := H
                                        have A87 := Aside0.mk A870
                                        clear A870
                                        by_cases c88 : t313.toList = ((rd_T42 l1 x66_3).f2).toList
                                        · rw [if_pos c88] at H
                                          have c88b0 : (t313.toList == ((rd_T42 l1 x66_3).f2).toList) = true := beq_iff_eq.mpr c88
                                          have c88b1 : (t313.toList != ((rd_T42 l1 x66_3).f2).toList) = false := bne_eq_false_iff_eq.mpr c88
                                          clear c88
                                          have H' := Aside0.mk H
                                          clear H
                                          have p305 : 0 ≤ (x66_3 : Int) := of_decide_eq_true (by first | (with_reducible assumption) | assumption)
                                          have q305 : x66_3 < (l1.length : Int) := of_decide_eq_true (by first | (with_reducible assumption) | assumption)
                                          obtain ⟨ad305, e305, hx305_0, hx305_1, hx305_2, hx305_3⟩ := at_T42 HR1.out x66_3 p305 q305
                                          cases e305
                                          replace hx305_0 := (HB.out.cell (World.block_lt_of_cell? w _ hx305_0)).trans hx305_0
                                          replace hx305_1 := (HB.out.cell (World.block_lt_of_cell? w _ hx305_1)).trans hx305_1
                                          replace hx305_2 := (HB.out.cell (World.block_lt_of_cell? w _ hx305_2)).trans hx305_2
                                          replace hx305_3 := (HB.out.cell (World.block_lt_of_cell? w _ hx305_3)).trans hx305_3
                                          replace p305 := eq_true p305
                                          replace q305 := eq_true q305
                                          try go_wp2_with (first | ((with_reducible refine gate_dst (N := 10) rfl ?_); (try (refine gate_guard (by rfl) ?_; dsimp only)); refine box_event ?hg (N := 10) ?hd (cs := #[.int .i64 0, .int .i64 0, .string (⟨#[]⟩ : ByteArray), .bool false]) (t := 42) ?hr ?_; (case hd => rfl); (case hg => rfl); (case hr => first | (go_simp; done) | (go_simp; rfl)); intro gb306 hg w89 hbox hb; have n0_ := Aside0.mk (IsS70.below (by repeat (first | (with_reducible first | exact HI298.out | apply IsS70.alloc | apply IsS70.drewN | apply IsS70.drew | apply IsS70.set_0 | apply IsS70.set_1) | exact HI298.out)) hb); have n1_ := Aside0.mk (below_step (by repeat (first | (with_reducible first | exact HB.out | apply below_alloc | apply pw_below_drewN | apply below_drew1 | refine below_set ?_ (IsS70.ge HI298.out)) | exact HB.out)) hb); have n2_ := Aside0.mk (hbox); have n3_ := Aside0.mk ((by rw [hg]; exact (below_size (by repeat (first | (with_reducible first | exact HB.out | apply below_alloc | apply pw_below_drewN | apply below_drew1 | refine below_set ?_ (IsS70.ge HI298.out)) | exact HB.out))) : w.heap.size ≤ gb306)); have n4_ := Aside0.mk ((by rw [hg]; exact (below_size (by repeat (first | (with_reducible first | exact HB.out | apply below_alloc | apply pw_below_drewN | apply below_drew1 | refine below_set ?_ (IsS70.ge HI298.out)) | exact HB.out))) : w.heap.size ≤ gb306)); have n5_ := Aside0.mk ((by rw [hg]; exact Nat.ne_of_lt (IsS70.lt (show IsS70 w _ g298 x299000_3 x299001_3 from by repeat (first | (with_reducible first | exact HI298.out | apply IsS70.alloc | apply IsS70.drewN | apply IsS70.drew | apply IsS70.set_0 | apply IsS70.set_1) | exact HI298.out))) : g298 ≠ gb306)); have n6_ := Aside0.mk ((by rw [hg]; exact Nat.ne_of_gt (IsS70.lt (show IsS70 w _ g298 x299000_3 x299001_3 from by repeat (first | (with_reducible first | exact HI298.out | apply IsS70.alloc | apply IsS70.drewN | apply IsS70.drew | apply IsS70.set_0 | apply IsS70.set_1) | exact HI298.out))) : gb306 ≠ g298)); clear HI298; clear HB; have HI298 := n0_; have HB := n1_; have BK306 := n2_; have GW306 := n3_; have GE306 := n4_; have NB298_306 := n5_; have NB306_298 := n6_; clear n0_ n1_ n2_ n3_ n4_ n5_ n6_; clear hb hbox hg; have hnb90 := NB306_298.out; have hnc90 := NB298_306.out; have hcz91_0 : w89.cell? ⟨gb306, 0, none⟩ = some (.int .i64 0) := (blk_cell BK306.out 0).trans rfl; have hcz91_1 : w89.cell? ⟨gb306, 1, none⟩ = some (.int .i64 0) := (blk_cell BK306.out 1).trans rfl; have hcz91_2 : w89.cell? ⟨gb306, 2, none⟩ = some (.string (⟨#[]⟩ : ByteArray)) := (blk_cell BK306.out 2).trans rfl; have hcz91_3 : w89.cell? ⟨gb306, 3, none⟩ = some (.bool false) := (blk_cell BK306.out 3).trans rfl; have hfz91_0 := blk_frozen BK306.out 0; have hfz91_1 := blk_frozen BK306.out 1; have hfz91_2 := blk_frozen BK306.out 2; have hfz91_3 := blk_frozen BK306.out 3))
                                          have n0_ : Aside0 (((((w89.setCell ⟨gb306, 0, none⟩ (.int .i64 ((rd_T42 l1 x66_3).f0))).setCell ⟨gb306, 1, none⟩ (.int .i64 ((rd_T42 l1 x66_3).f1))).setCell ⟨gb306, 2, none⟩ (.string ((rd_T42 l1 x66_3).f2))).setCell ⟨gb306, 3, none⟩ (.bool ((rd_T42 l1 x66_3).f3))).heap[gb306]? = some (.cells #[.int .i64 ((rd_T42 l1 x66_3).f0), .int .i64 ((rd_T42 l1 x66_3).f1), .string ((rd_T42 l1 x66_3).f2), .bool ((rd_T42 l1 x66_3).f3)] 42 (0, 0))) := ⟨by (with_reducible repeat (first | refine blk_drewN ?_ _ | refine blk_drew ?_ | refine blk_alloc ?_ _)); refine blk_put (cs := #[.int .i64 ((rd_T42 l1 x66_3).f0), .int .i64 ((rd_T42 l1 x66_3).f1), .string ((rd_T42 l1 x66_3).f2), .bool false]) ?_ 3 _ rfl; (with_reducible repeat (first | refine blk_drewN ?_ _ | refine blk_drew ?_ | refine blk_alloc ?_ _)); refine blk_put (cs := #[.int .i64 ((rd_T42 l1 x66_3).f0), .int .i64 ((rd_T42 l1 x66_3).f1), .string (⟨#[]⟩ : ByteArray), .bool false]) ?_ 2 _ rfl; (with_reducible repeat (first | refine blk_drewN ?_ _ | refine blk_drew ?_ | refine blk_alloc ?_ _)); refine blk_put (cs := #[.int .i64 ((rd_T42 l1 x66_3).f0), .int .i64 0, .string (⟨#[]⟩ : ByteArray), .bool false]) ?_ 1 _ rfl; (with_reducible repeat (first | refine blk_drewN ?_ _ | refine blk_drew ?_ | refine blk_alloc ?_ _)); refine blk_put (cs := #[.int .i64 0, .int .i64 0, .string (⟨#[]⟩ : ByteArray), .bool false]) ?_ 0 _ rfl; (with_reducible repeat (first | refine blk_drewN ?_ _ | refine blk_drew ?_ | refine blk_alloc ?_ _)); exact BK306.out⟩
                                          have n1_ : Aside0 (IsS70 w ((((w89.setCell ⟨gb306, 0, none⟩ (.int .i64 ((rd_T42 l1 x66_3).f0))).setCell ⟨gb306, 1, none⟩ (.int .i64 ((rd_T42 l1 x66_3).f1))).setCell ⟨gb306, 2, none⟩ (.string ((rd_T42 l1 x66_3).f2))).setCell ⟨gb306, 3, none⟩ (.bool ((rd_T42 l1 x66_3).f3))) g298 x299000_3 x299001_3) := ⟨by repeat (first | (with_reducible first | exact HI298.out | apply IsS70.alloc | apply IsS70.drewN | apply IsS70.drew | apply IsS70.set_0 | apply IsS70.set_1 | refine IsS70.far ?_ NB298_306.out _) | exact HI298.out)⟩
                                          have n2_ : Aside0 (Below w.heap.size w ((((w89.setCell ⟨gb306, 0, none⟩ (.int .i64 ((rd_T42 l1 x66_3).f0))).setCell ⟨gb306, 1, none⟩ (.int .i64 ((rd_T42 l1 x66_3).f1))).setCell ⟨gb306, 2, none⟩ (.string ((rd_T42 l1 x66_3).f2))).setCell ⟨gb306, 3, none⟩ (.bool ((rd_T42 l1 x66_3).f3)))) := ⟨by repeat (first | (with_reducible first | exact HB.out | apply below_alloc | apply pw_below_drewN | apply below_drew1 | refine below_set ?_ (IsS70.ge HI298.out) | refine below_set ?_ GE306.out) | exact HB.out)⟩
                                          (try clear BK306)
                                          (try clear HI298)
                                          (try clear HB)
                                          generalize ((((w89.setCell ⟨gb306, 0, none⟩ (.int .i64 ((rd_T42 l1 x66_3).f0))).setCell ⟨gb306, 1, none⟩ (.int .i64 ((rd_T42 l1 x66_3).f1))).setCell ⟨gb306, 2, none⟩ (.string ((rd_T42 l1 x66_3).f2))).setCell ⟨gb306, 3, none⟩ (.bool ((rd_T42 l1 x66_3).f3))) = w92 at n0_ n1_ n2_ ⊢
                                          have BK306 := n0_
                                          have HI298 := n1_
                                          have HB := n2_
                                          clear n0_ n1_ n2_
                                          have n0_ := Aside0.mk (blk_drew BK306.out)
                                          have n1_ := Aside0.mk (IsS70.drew HI298.out)
                                          have n2_ := Aside0.mk (below_drew1 HB.out)
                                          clear BK306
                                          clear HI298
                                          clear HB
                                          have BK306 := n0_
                                          have HI298 := n1_
                                          have HB := n2_
                                          clear n0_ n1_ n2_
                                          refine start_ (n := 5) (S := fun w' => w'.cell? ⟨gb306, 0, none⟩ = some (.int .i64 ((rd_T42 l1 x66_3).f0)) ∧ w'.cell? ⟨gb306, 1, none⟩ = some (.int .i64 ((rd_T42 l1 x66_3).f1)) ∧ w'.cell? ⟨gb306, 2, none⟩ = some (.string ((rd_T42 l1 x66_3).f2)) ∧ w'.cell? ⟨gb306, 3, none⟩ = some (.bool ((rd_T42 l1 x66_3).f3))) (ds := []) #[false, false, false, false, false] (by kernel_rfl) rfl rfl ⟨(blk_cell BK306.out 0).trans rfl, (blk_cell BK306.out 1).trans rfl, (blk_cell BK306.out 2).trans rfl, (blk_cell BK306.out 3).trans rfl⟩ (fun hHeld => ?_)
                                          generalize w92.drew = w93 at BK306 HI298 HB hHeld ⊢
                                          refine pure_ (i := 0) (N := some 100) (v := ?_) (a' := ?_) #[true, false, false, false, false] rfl rfl (by kernel_rfl) (fun _ _ _ h => h) (Or.inl ⟨by rfl, ?_⟩) ?_ ?_
                                          rotate_left
                                          · intro w'
                                            go_simp
                                            with_reducible rfl
                                          rotate_left
                                          · simp only [Act.put, List.setIfInBounds_toArray, List.set_cons_zero, List.set_cons_succ, i64_w, i32_w]
                                            rfl
                                          refine pure_ (i := 2) (N := some 102) (v := ?_) (a' := ?_) #[true, false, true, false, false] rfl rfl (by kernel_rfl) (fun _ _ _ h => h) (Or.inl ⟨by rfl, ?_⟩) ?_ ?_
                                          rotate_left
                                          · intro w'
                                            go_simp
                                            with_reducible rfl
                                          rotate_left
                                          · simp only [Act.put, List.setIfInBounds_toArray, List.set_cons_zero, List.set_cons_succ, i64_w, i32_w]
                                            rfl
                                          refine take_ (i := 3) (N := some 103) (v := ?_) (a' := ?_) #[true, false, true, true, false] rfl rfl (by kernel_rfl) (fun _ _ _ h => h) (Or.inl ⟨by rfl, ?_⟩) hHeld ?_ ?_
                                          rotate_left
                                          · rintro w' ⟨s0, s1, s2, s3⟩
                                            go_simp
                                            with_reducible rfl
                                          rotate_left
                                          · simp only [Act.put, List.setIfInBounds_toArray, List.set_cons_zero, List.set_cons_succ, i64_w, i32_w]
                                            rfl
                                          refine one_ (i := 1) (N := some 101) #[true, true, true, true, false] rfl rfl (by kernel_rfl) (by decide) (fun K hK => ?_)
                                          refine goes_ Try.func26 (by kernel_rfl) rfl #[.pointer (some ⟨g298, 0, none⟩), .int .i64 300] (by rfl) rfl rfl (by (try simp only [List.map_toArray, List.map_cons, List.map_nil]); first | done | rfl | (simp only [List.length_drop, List.length_take]; rfl)) ?_
                                          with_reducible refine (octet_Reader_Text.calls k3 g298 x299000_3 x299001_3 300 t313 t314 t315 w _ ?side1 ?side2 A87.out).mono ?_
                                          (case side1 => repeat (first | (with_reducible first | exact HI298.out | apply IsS70.alloc | apply IsS70.drewN | apply IsS70.drew | apply IsS70.set_0 | apply IsS70.set_1 | refine IsS70.far ?_ NB298_306.out _) | exact HI298.out))
                                          (case side2 => repeat (first | (with_reducible first | exact HB.out | apply below_alloc | apply pw_below_drewN | apply below_drew1 | refine below_set ?_ (IsS70.ge HI298.out) | refine below_set ?_ GE306.out) | exact HB.out))
                                          rintro e w94 ⟨rfl, hi, hb, hk⟩
                                          refine ⟨_, rfl, ?_⟩
                                          have n0_ := Aside0.mk (KeepBut.blk hk (g' := gb306) (o := .cells #[.int .i64 ((rd_T42 l1 x66_3).f0), .int .i64 ((rd_T42 l1 x66_3).f1), .string ((rd_T42 l1 x66_3).f2), .bool ((rd_T42 l1 x66_3).f3)] 42 (0, 0)) (by (with_reducible repeat (first | refine blk_drewN ?_ _ | refine blk_drew ?_ | refine blk_alloc ?_ _)); exact BK306.out) NB306_298.out (by simp))
                                          have n1_ := Aside0.mk (hb)
                                          have n2_ := Aside0.mk (hi)
                                          clear BK306
                                          clear HB
                                          clear HI298
                                          have BK306 := n0_
                                          have HB := n1_
                                          have HI298 := n2_
                                          clear n0_ n1_ n2_
                                          (try clear hb)
                                          (try clear hb2)
                                          (try clear hk)
                                          (try clear hi)
                                          refine hK.out _ _ ⟨(blk_cell BK306.out 0).trans rfl, (blk_cell BK306.out 1).trans rfl, (blk_cell BK306.out 2).trans rfl, (blk_cell BK306.out 3).trans rfl⟩ (fun hHeld => ?_)
                                          clear hK K
                                          refine norm_ (a' := ?_) ?_ ?_
                                          rotate_left
                                          · show Act.put _ (some 101) _ = _
                                            simp only [Act.put, List.setIfInBounds_toArray, List.set_cons_zero, List.set_cons_succ, i64_w, i32_w]
                                            rfl
                                          refine pure_ (i := 4) (N := some 104) (v := ?_) (a' := ?_) #[true, true, true, true, true] rfl rfl (by kernel_rfl) (fun _ _ _ h => h) (Or.inl ⟨by rfl, ?_⟩) ?_ ?_
                                          rotate_left
                                          · intro w'
                                            go_simp
                                            with_reducible rfl
                                          rotate_left
                                          · simp only [Act.put, List.setIfInBounds_toArray, List.set_cons_zero, List.set_cons_succ, i64_w, i32_w]
                                            rfl
                                          refine done_ (by kernel_rfl) ?_
                                          try go_wp2
                                          go_roundg k3
                                          case measure => have := HJ4.out; have := HK2.out; have := HK3.out; omega
                                          case rel => exact ⟨(wrap64 (x66_3 + 1)), (t314), (t315), (by first | rfl | (simp; done) | (simp [*]; done)), H', ⟨by have := HJ4.out; have := HK2.out; have := HK3.out; omega⟩, ⟨by repeat (first | (with_reducible first | exact HI298.out | apply IsS70.alloc | apply IsS70.drewN | apply IsS70.drew | apply IsS70.set_0 | apply IsS70.set_1 | refine IsS70.far ?_ NB298_306.out _) | exact HI298.out)⟩, ⟨by repeat (first | (with_reducible first | exact HB.out | apply below_alloc | apply pw_below_drewN | apply below_drew1 | refine below_set ?_ (IsS70.ge HI298.out) | refine below_set ?_ GE306.out) | exact HB.out)⟩⟩
                                        · rw [if_neg c88] at H
                                          have c88b0 : (t313.toList == ((rd_T42 l1 x66_3).f2).toList) = false := beq_eq_false_iff_ne.mpr c88
                                          have c88b1 : (t313.toList != ((rd_T42 l1 x66_3).f2).toList) = true := bne_iff_ne.mpr c88
                                          obtain rfl := Option.some.inj H
                                          have p305 : 0 ≤ (x66_3 : Int) := of_decide_eq_true (by first | (with_reducible assumption) | assumption)
                                          have q305 : x66_3 < (l1.length : Int) := of_decide_eq_true (by first | (with_reducible assumption) | assumption)
                                          obtain ⟨ad305, e305, hx305_0, hx305_1, hx305_2, hx305_3⟩ := at_T42 HR1.out x66_3 p305 q305
                                          cases e305
                                          replace hx305_0 := (HB.out.cell (World.block_lt_of_cell? w _ hx305_0)).trans hx305_0
                                          replace hx305_1 := (HB.out.cell (World.block_lt_of_cell? w _ hx305_1)).trans hx305_1
                                          replace hx305_2 := (HB.out.cell (World.block_lt_of_cell? w _ hx305_2)).trans hx305_2
                                          replace hx305_3 := (HB.out.cell (World.block_lt_of_cell? w _ hx305_3)).trans hx305_3
                                          replace p305 := eq_true p305
                                          replace q305 := eq_true q305
                                          try go_wp2_with (first | ((with_reducible refine gate_dst (N := 10) rfl ?_); (try (refine gate_guard (by rfl) ?_; dsimp only)); refine box_event ?hg (N := 10) ?hd (cs := #[.int .i64 0, .int .i64 0, .string (⟨#[]⟩ : ByteArray), .bool false]) (t := 42) ?hr ?_; (case hd => rfl); (case hg => rfl); (case hr => first | (go_simp; done) | (go_simp; rfl)); intro gb306 hg w95 hbox hb; have n0_ := Aside0.mk (IsS70.below (by repeat (first | (with_reducible first | exact HI298.out | apply IsS70.alloc | apply IsS70.drewN | apply IsS70.drew | apply IsS70.set_0 | apply IsS70.set_1) | exact HI298.out)) hb); have n1_ := Aside0.mk (below_step (by repeat (first | (with_reducible first | exact HB.out | apply below_alloc | apply pw_below_drewN | apply below_drew1 | refine below_set ?_ (IsS70.ge HI298.out)) | exact HB.out)) hb); have n2_ := Aside0.mk (hbox); have n3_ := Aside0.mk ((by rw [hg]; exact (below_size (by repeat (first | (with_reducible first | exact HB.out | apply below_alloc | apply pw_below_drewN | apply below_drew1 | refine below_set ?_ (IsS70.ge HI298.out)) | exact HB.out))) : w.heap.size ≤ gb306)); have n4_ := Aside0.mk ((by rw [hg]; exact (below_size (by repeat (first | (with_reducible first | exact HB.out | apply below_alloc | apply pw_below_drewN | apply below_drew1 | refine below_set ?_ (IsS70.ge HI298.out)) | exact HB.out))) : w.heap.size ≤ gb306)); have n5_ := Aside0.mk ((by rw [hg]; exact Nat.ne_of_lt (IsS70.lt (show IsS70 w _ g298 x299000_3 x299001_3 from by repeat (first | (with_reducible first | exact HI298.out | apply IsS70.alloc | apply IsS70.drewN | apply IsS70.drew | apply IsS70.set_0 | apply IsS70.set_1) | exact HI298.out))) : g298 ≠ gb306)); have n6_ := Aside0.mk ((by rw [hg]; exact Nat.ne_of_gt (IsS70.lt (show IsS70 w _ g298 x299000_3 x299001_3 from by repeat (first | (with_reducible first | exact HI298.out | apply IsS70.alloc | apply IsS70.drewN | apply IsS70.drew | apply IsS70.set_0 | apply IsS70.set_1) | exact HI298.out))) : gb306 ≠ g298)); clear HI298; clear HB; have HI298 := n0_; have HB := n1_; have BK306 := n2_; have GW306 := n3_; have GE306 := n4_; have NB298_306 := n5_; have NB306_298 := n6_; clear n0_ n1_ n2_ n3_ n4_ n5_ n6_; clear hb hbox hg; have hnb96 := NB306_298.out; have hnc96 := NB298_306.out; have hcz97_0 : w95.cell? ⟨gb306, 0, none⟩ = some (.int .i64 0) := (blk_cell BK306.out 0).trans rfl; have hcz97_1 : w95.cell? ⟨gb306, 1, none⟩ = some (.int .i64 0) := (blk_cell BK306.out 1).trans rfl; have hcz97_2 : w95.cell? ⟨gb306, 2, none⟩ = some (.string (⟨#[]⟩ : ByteArray)) := (blk_cell BK306.out 2).trans rfl; have hcz97_3 : w95.cell? ⟨gb306, 3, none⟩ = some (.bool false) := (blk_cell BK306.out 3).trans rfl; have hfz97_0 := blk_frozen BK306.out 0; have hfz97_1 := blk_frozen BK306.out 1; have hfz97_2 := blk_frozen BK306.out 2; have hfz97_3 := blk_frozen BK306.out 3))
                                          have n0_ : Aside0 (((((w95.setCell ⟨gb306, 0, none⟩ (.int .i64 ((rd_T42 l1 x66_3).f0))).setCell ⟨gb306, 1, none⟩ (.int .i64 ((rd_T42 l1 x66_3).f1))).setCell ⟨gb306, 2, none⟩ (.string ((rd_T42 l1 x66_3).f2))).setCell ⟨gb306, 3, none⟩ (.bool ((rd_T42 l1 x66_3).f3))).heap[gb306]? = some (.cells #[.int .i64 ((rd_T42 l1 x66_3).f0), .int .i64 ((rd_T42 l1 x66_3).f1), .string ((rd_T42 l1 x66_3).f2), .bool ((rd_T42 l1 x66_3).f3)] 42 (0, 0))) := ⟨by (with_reducible repeat (first | refine blk_drewN ?_ _ | refine blk_drew ?_ | refine blk_alloc ?_ _)); refine blk_put (cs := #[.int .i64 ((rd_T42 l1 x66_3).f0), .int .i64 ((rd_T42 l1 x66_3).f1), .string ((rd_T42 l1 x66_3).f2), .bool false]) ?_ 3 _ rfl; (with_reducible repeat (first | refine blk_drewN ?_ _ | refine blk_drew ?_ | refine blk_alloc ?_ _)); refine blk_put (cs := #[.int .i64 ((rd_T42 l1 x66_3).f0), .int .i64 ((rd_T42 l1 x66_3).f1), .string (⟨#[]⟩ : ByteArray), .bool false]) ?_ 2 _ rfl; (with_reducible repeat (first | refine blk_drewN ?_ _ | refine blk_drew ?_ | refine blk_alloc ?_ _)); refine blk_put (cs := #[.int .i64 ((rd_T42 l1 x66_3).f0), .int .i64 0, .string (⟨#[]⟩ : ByteArray), .bool false]) ?_ 1 _ rfl; (with_reducible repeat (first | refine blk_drewN ?_ _ | refine blk_drew ?_ | refine blk_alloc ?_ _)); refine blk_put (cs := #[.int .i64 0, .int .i64 0, .string (⟨#[]⟩ : ByteArray), .bool false]) ?_ 0 _ rfl; (with_reducible repeat (first | refine blk_drewN ?_ _ | refine blk_drew ?_ | refine blk_alloc ?_ _)); exact BK306.out⟩
                                          have n1_ : Aside0 (IsS70 w ((((w95.setCell ⟨gb306, 0, none⟩ (.int .i64 ((rd_T42 l1 x66_3).f0))).setCell ⟨gb306, 1, none⟩ (.int .i64 ((rd_T42 l1 x66_3).f1))).setCell ⟨gb306, 2, none⟩ (.string ((rd_T42 l1 x66_3).f2))).setCell ⟨gb306, 3, none⟩ (.bool ((rd_T42 l1 x66_3).f3))) g298 x299000_3 x299001_3) := ⟨by repeat (first | (with_reducible first | exact HI298.out | apply IsS70.alloc | apply IsS70.drewN | apply IsS70.drew | apply IsS70.set_0 | apply IsS70.set_1 | refine IsS70.far ?_ NB298_306.out _) | exact HI298.out)⟩
                                          have n2_ : Aside0 (Below w.heap.size w ((((w95.setCell ⟨gb306, 0, none⟩ (.int .i64 ((rd_T42 l1 x66_3).f0))).setCell ⟨gb306, 1, none⟩ (.int .i64 ((rd_T42 l1 x66_3).f1))).setCell ⟨gb306, 2, none⟩ (.string ((rd_T42 l1 x66_3).f2))).setCell ⟨gb306, 3, none⟩ (.bool ((rd_T42 l1 x66_3).f3)))) := ⟨by repeat (first | (with_reducible first | exact HB.out | apply below_alloc | apply pw_below_drewN | apply below_drew1 | refine below_set ?_ (IsS70.ge HI298.out) | refine below_set ?_ GE306.out) | exact HB.out)⟩
                                          (try clear BK306)
                                          (try clear HI298)
                                          (try clear HB)
                                          generalize ((((w95.setCell ⟨gb306, 0, none⟩ (.int .i64 ((rd_T42 l1 x66_3).f0))).setCell ⟨gb306, 1, none⟩ (.int .i64 ((rd_T42 l1 x66_3).f1))).setCell ⟨gb306, 2, none⟩ (.string ((rd_T42 l1 x66_3).f2))).setCell ⟨gb306, 3, none⟩ (.bool ((rd_T42 l1 x66_3).f3))) = w98 at n0_ n1_ n2_ ⊢
                                          have BK306 := n0_
                                          have HI298 := n1_
                                          have HB := n2_
                                          clear n0_ n1_ n2_
                                          have n0_ := Aside0.mk (blk_drew BK306.out)
                                          have n1_ := Aside0.mk (IsS70.drew HI298.out)
                                          have n2_ := Aside0.mk (below_drew1 HB.out)
                                          clear BK306
                                          clear HI298
                                          clear HB
                                          have BK306 := n0_
                                          have HI298 := n1_
                                          have HB := n2_
                                          clear n0_ n1_ n2_
                                          refine start_ (n := 5) (S := fun w' => w'.cell? ⟨gb306, 0, none⟩ = some (.int .i64 ((rd_T42 l1 x66_3).f0)) ∧ w'.cell? ⟨gb306, 1, none⟩ = some (.int .i64 ((rd_T42 l1 x66_3).f1)) ∧ w'.cell? ⟨gb306, 2, none⟩ = some (.string ((rd_T42 l1 x66_3).f2)) ∧ w'.cell? ⟨gb306, 3, none⟩ = some (.bool ((rd_T42 l1 x66_3).f3))) (ds := []) #[false, false, false, false, false] (by kernel_rfl) rfl rfl ⟨(blk_cell BK306.out 0).trans rfl, (blk_cell BK306.out 1).trans rfl, (blk_cell BK306.out 2).trans rfl, (blk_cell BK306.out 3).trans rfl⟩ (fun hHeld => ?_)
                                          generalize w98.drew = w99 at BK306 HI298 HB hHeld ⊢
                                          refine pure_ (i := 0) (N := some 100) (v := ?_) (a' := ?_) #[true, false, false, false, false] rfl rfl (by kernel_rfl) (fun _ _ _ h => h) (Or.inl ⟨by rfl, ?_⟩) ?_ ?_
                                          rotate_left
                                          · intro w'
                                            go_simp
                                            with_reducible rfl
                                          rotate_left
                                          · simp only [Act.put, List.setIfInBounds_toArray, List.set_cons_zero, List.set_cons_succ, i64_w, i32_w]
                                            rfl
                                          refine pure_ (i := 2) (N := some 102) (v := ?_) (a' := ?_) #[true, false, true, false, false] rfl rfl (by kernel_rfl) (fun _ _ _ h => h) (Or.inl ⟨by rfl, ?_⟩) ?_ ?_
                                          rotate_left
                                          · intro w'
                                            go_simp
                                            with_reducible rfl
                                          rotate_left
                                          · simp only [Act.put, List.setIfInBounds_toArray, List.set_cons_zero, List.set_cons_succ, i64_w, i32_w]
                                            rfl
                                          refine take_ (i := 3) (N := some 103) (v := ?_) (a' := ?_) #[true, false, true, true, false] rfl rfl (by kernel_rfl) (fun _ _ _ h => h) (Or.inl ⟨by rfl, ?_⟩) hHeld ?_ ?_
                                          rotate_left
                                          · rintro w' ⟨s0, s1, s2, s3⟩
                                            go_simp
                                            with_reducible rfl
                                          rotate_left
                                          · simp only [Act.put, List.setIfInBounds_toArray, List.set_cons_zero, List.set_cons_succ, i64_w, i32_w]
                                            rfl
                                          refine one_ (i := 1) (N := some 101) #[true, true, true, true, false] rfl rfl (by kernel_rfl) (by decide) (fun K hK => ?_)
                                          refine goes_ Try.func26 (by kernel_rfl) rfl #[.pointer (some ⟨g298, 0, none⟩), .int .i64 300] (by rfl) rfl rfl (by (try simp only [List.map_toArray, List.map_cons, List.map_nil]); first | done | rfl | (simp only [List.length_drop, List.length_take]; rfl)) ?_
                                          with_reducible refine (octet_Reader_Text.calls k3 g298 x299000_3 x299001_3 300 t313 t314 t315 w _ ?side1 ?side2 A87.out).mono ?_
                                          (case side1 => repeat (first | (with_reducible first | exact HI298.out | apply IsS70.alloc | apply IsS70.drewN | apply IsS70.drew | apply IsS70.set_0 | apply IsS70.set_1 | refine IsS70.far ?_ NB298_306.out _) | exact HI298.out))
                                          (case side2 => repeat (first | (with_reducible first | exact HB.out | apply below_alloc | apply pw_below_drewN | apply below_drew1 | refine below_set ?_ (IsS70.ge HI298.out) | refine below_set ?_ GE306.out) | exact HB.out))
                                          rintro e w100 ⟨rfl, hi, hb, hk⟩
                                          refine ⟨_, rfl, ?_⟩
                                          have n0_ := Aside0.mk (KeepBut.blk hk (g' := gb306) (o := .cells #[.int .i64 ((rd_T42 l1 x66_3).f0), .int .i64 ((rd_T42 l1 x66_3).f1), .string ((rd_T42 l1 x66_3).f2), .bool ((rd_T42 l1 x66_3).f3)] 42 (0, 0)) (by (with_reducible repeat (first | refine blk_drewN ?_ _ | refine blk_drew ?_ | refine blk_alloc ?_ _)); exact BK306.out) NB306_298.out (by simp))
                                          have n1_ := Aside0.mk (hb)
                                          have n2_ := Aside0.mk (hi)
                                          clear BK306
                                          clear HB
                                          clear HI298
                                          have BK306 := n0_
                                          have HB := n1_
                                          have HI298 := n2_
                                          clear n0_ n1_ n2_
                                          (try clear hb)
                                          (try clear hb2)
                                          (try clear hk)
                                          (try clear hi)
                                          refine hK.out _ _ ⟨(blk_cell BK306.out 0).trans rfl, (blk_cell BK306.out 1).trans rfl, (blk_cell BK306.out 2).trans rfl, (blk_cell BK306.out 3).trans rfl⟩ (fun hHeld => ?_)
                                          clear hK K
                                          refine norm_ (a' := ?_) ?_ ?_
                                          rotate_left
                                          · show Act.put _ (some 101) _ = _
                                            simp only [Act.put, List.setIfInBounds_toArray, List.set_cons_zero, List.set_cons_succ, i64_w, i32_w]
                                            rfl
                                          refine pure_ (i := 4) (N := some 104) (v := ?_) (a' := ?_) #[true, true, true, true, true] rfl rfl (by kernel_rfl) (fun _ _ _ h => h) (Or.inl ⟨by rfl, ?_⟩) ?_ ?_
                                          rotate_left
                                          · intro w'
                                            go_simp
                                            with_reducible rfl
                                          rotate_left
                                          · simp only [Act.put, List.setIfInBounds_toArray, List.set_cons_zero, List.set_cons_succ, i64_w, i32_w]
                                            rfl
                                          refine done_ (by kernel_rfl) ?_
                                          try go_wp2
                                          go_ret
                                          exact ⟨by first | rfl | (simp [errW_none, errW_some] <;> rfl) | (simp [*, errW_none, errW_some] <;> rfl), by repeat (first | (with_reducible first | exact HB.out | apply below_alloc | apply pw_below_drewN | apply below_drew1 | refine below_set ?_ (IsS70.ge HI298.out) | refine below_set ?_ GE306.out) | exact HB.out)⟩
                                      · rw [if_neg c86] at H
                                        have c86b0 : ((Go.bits .and .i64 ((rd_T42 l1 x66_3).f0) 3) == 1) = false := beq_eq_false_iff_ne.mpr c86
                                        have c86b1 : ((Go.bits .and .i64 ((rd_T42 l1 x66_3).f0) 3) != 1) = true := bne_iff_ne.mpr c86
                                        replace H := Option.bind_eq_some_iff.mp H
                                        obtain ⟨⟨t316, t317, t318⟩, A1010, H⟩ := H
                                        replace H : (if (t316 != ((rd_T42 l1 x66_3).f3)) = true then (some false) else (mailbaglaw01_OctetLays.l1 k3 l1 (l1.length : Int) (wrap64 (x66_3 + 1)) t317 t318)) = some r := H
                                        have A101 := Aside0.mk A1010
                                        clear A1010
                                        by_cases c102 : (t316 != ((rd_T42 l1 x66_3).f3)) = true
                                        · rw [if_pos c102] at H
                                          have c102b0 : (t316 != ((rd_T42 l1 x66_3).f3)) = true := c102
                                          (try (have c102b1 : decide (t316 = ((rd_T42 l1 x66_3).f3)) = false := by simpa using c102))
                                          (try (have c102b2 : (t316 == ((rd_T42 l1 x66_3).f3)) = false := by simpa using c102))
                                          (try (have c102b3 : ¬ (t316 = ((rd_T42 l1 x66_3).f3)) := by simpa using c102))
                                          clear c102
                                          obtain rfl := Option.some.inj H
                                          have p305 : 0 ≤ (x66_3 : Int) := of_decide_eq_true (by first | (with_reducible assumption) | assumption)
                                          have q305 : x66_3 < (l1.length : Int) := of_decide_eq_true (by first | (with_reducible assumption) | assumption)
                                          obtain ⟨ad305, e305, hx305_0, hx305_1, hx305_2, hx305_3⟩ := at_T42 HR1.out x66_3 p305 q305
                                          cases e305
                                          replace hx305_0 := (HB.out.cell (World.block_lt_of_cell? w _ hx305_0)).trans hx305_0
                                          replace hx305_1 := (HB.out.cell (World.block_lt_of_cell? w _ hx305_1)).trans hx305_1
                                          replace hx305_2 := (HB.out.cell (World.block_lt_of_cell? w _ hx305_2)).trans hx305_2
                                          replace hx305_3 := (HB.out.cell (World.block_lt_of_cell? w _ hx305_3)).trans hx305_3
                                          replace p305 := eq_true p305
                                          replace q305 := eq_true q305
                                          try go_wp2_with (first | ((with_reducible refine gate_dst (N := 10) rfl ?_); (try (refine gate_guard (by rfl) ?_; dsimp only)); refine box_event ?hg (N := 10) ?hd (cs := #[.int .i64 0, .int .i64 0, .string (⟨#[]⟩ : ByteArray), .bool false]) (t := 42) ?hr ?_; (case hd => rfl); (case hg => rfl); (case hr => first | (go_simp; done) | (go_simp; rfl)); intro gb306 hg w103 hbox hb; have n0_ := Aside0.mk (IsS70.below (by repeat (first | (with_reducible first | exact HI298.out | apply IsS70.alloc | apply IsS70.drewN | apply IsS70.drew | apply IsS70.set_0 | apply IsS70.set_1) | exact HI298.out)) hb); have n1_ := Aside0.mk (below_step (by repeat (first | (with_reducible first | exact HB.out | apply below_alloc | apply pw_below_drewN | apply below_drew1 | refine below_set ?_ (IsS70.ge HI298.out)) | exact HB.out)) hb); have n2_ := Aside0.mk (hbox); have n3_ := Aside0.mk ((by rw [hg]; exact (below_size (by repeat (first | (with_reducible first | exact HB.out | apply below_alloc | apply pw_below_drewN | apply below_drew1 | refine below_set ?_ (IsS70.ge HI298.out)) | exact HB.out))) : w.heap.size ≤ gb306)); have n4_ := Aside0.mk ((by rw [hg]; exact (below_size (by repeat (first | (with_reducible first | exact HB.out | apply below_alloc | apply pw_below_drewN | apply below_drew1 | refine below_set ?_ (IsS70.ge HI298.out)) | exact HB.out))) : w.heap.size ≤ gb306)); have n5_ := Aside0.mk ((by rw [hg]; exact Nat.ne_of_lt (IsS70.lt (show IsS70 w _ g298 x299000_3 x299001_3 from by repeat (first | (with_reducible first | exact HI298.out | apply IsS70.alloc | apply IsS70.drewN | apply IsS70.drew | apply IsS70.set_0 | apply IsS70.set_1) | exact HI298.out))) : g298 ≠ gb306)); have n6_ := Aside0.mk ((by rw [hg]; exact Nat.ne_of_gt (IsS70.lt (show IsS70 w _ g298 x299000_3 x299001_3 from by repeat (first | (with_reducible first | exact HI298.out | apply IsS70.alloc | apply IsS70.drewN | apply IsS70.drew | apply IsS70.set_0 | apply IsS70.set_1) | exact HI298.out))) : gb306 ≠ g298)); clear HI298; clear HB; have HI298 := n0_; have HB := n1_; have BK306 := n2_; have GW306 := n3_; have GE306 := n4_; have NB298_306 := n5_; have NB306_298 := n6_; clear n0_ n1_ n2_ n3_ n4_ n5_ n6_; clear hb hbox hg; have hnb104 := NB306_298.out; have hnc104 := NB298_306.out; have hcz105_0 : w103.cell? ⟨gb306, 0, none⟩ = some (.int .i64 0) := (blk_cell BK306.out 0).trans rfl; have hcz105_1 : w103.cell? ⟨gb306, 1, none⟩ = some (.int .i64 0) := (blk_cell BK306.out 1).trans rfl; have hcz105_2 : w103.cell? ⟨gb306, 2, none⟩ = some (.string (⟨#[]⟩ : ByteArray)) := (blk_cell BK306.out 2).trans rfl; have hcz105_3 : w103.cell? ⟨gb306, 3, none⟩ = some (.bool false) := (blk_cell BK306.out 3).trans rfl; have hfz105_0 := blk_frozen BK306.out 0; have hfz105_1 := blk_frozen BK306.out 1; have hfz105_2 := blk_frozen BK306.out 2; have hfz105_3 := blk_frozen BK306.out 3))
                                          have n0_ : Aside0 (((((w103.setCell ⟨gb306, 0, none⟩ (.int .i64 ((rd_T42 l1 x66_3).f0))).setCell ⟨gb306, 1, none⟩ (.int .i64 ((rd_T42 l1 x66_3).f1))).setCell ⟨gb306, 2, none⟩ (.string ((rd_T42 l1 x66_3).f2))).setCell ⟨gb306, 3, none⟩ (.bool ((rd_T42 l1 x66_3).f3))).heap[gb306]? = some (.cells #[.int .i64 ((rd_T42 l1 x66_3).f0), .int .i64 ((rd_T42 l1 x66_3).f1), .string ((rd_T42 l1 x66_3).f2), .bool ((rd_T42 l1 x66_3).f3)] 42 (0, 0))) := ⟨by (with_reducible repeat (first | refine blk_drewN ?_ _ | refine blk_drew ?_ | refine blk_alloc ?_ _)); refine blk_put (cs := #[.int .i64 ((rd_T42 l1 x66_3).f0), .int .i64 ((rd_T42 l1 x66_3).f1), .string ((rd_T42 l1 x66_3).f2), .bool false]) ?_ 3 _ rfl; (with_reducible repeat (first | refine blk_drewN ?_ _ | refine blk_drew ?_ | refine blk_alloc ?_ _)); refine blk_put (cs := #[.int .i64 ((rd_T42 l1 x66_3).f0), .int .i64 ((rd_T42 l1 x66_3).f1), .string (⟨#[]⟩ : ByteArray), .bool false]) ?_ 2 _ rfl; (with_reducible repeat (first | refine blk_drewN ?_ _ | refine blk_drew ?_ | refine blk_alloc ?_ _)); refine blk_put (cs := #[.int .i64 ((rd_T42 l1 x66_3).f0), .int .i64 0, .string (⟨#[]⟩ : ByteArray), .bool false]) ?_ 1 _ rfl; (with_reducible repeat (first | refine blk_drewN ?_ _ | refine blk_drew ?_ | refine blk_alloc ?_ _)); refine blk_put (cs := #[.int .i64 0, .int .i64 0, .string (⟨#[]⟩ : ByteArray), .bool false]) ?_ 0 _ rfl; (with_reducible repeat (first | refine blk_drewN ?_ _ | refine blk_drew ?_ | refine blk_alloc ?_ _)); exact BK306.out⟩
                                          have n1_ : Aside0 (IsS70 w ((((w103.setCell ⟨gb306, 0, none⟩ (.int .i64 ((rd_T42 l1 x66_3).f0))).setCell ⟨gb306, 1, none⟩ (.int .i64 ((rd_T42 l1 x66_3).f1))).setCell ⟨gb306, 2, none⟩ (.string ((rd_T42 l1 x66_3).f2))).setCell ⟨gb306, 3, none⟩ (.bool ((rd_T42 l1 x66_3).f3))) g298 x299000_3 x299001_3) := ⟨by repeat (first | (with_reducible first | exact HI298.out | apply IsS70.alloc | apply IsS70.drewN | apply IsS70.drew | apply IsS70.set_0 | apply IsS70.set_1 | refine IsS70.far ?_ NB298_306.out _) | exact HI298.out)⟩
                                          have n2_ : Aside0 (Below w.heap.size w ((((w103.setCell ⟨gb306, 0, none⟩ (.int .i64 ((rd_T42 l1 x66_3).f0))).setCell ⟨gb306, 1, none⟩ (.int .i64 ((rd_T42 l1 x66_3).f1))).setCell ⟨gb306, 2, none⟩ (.string ((rd_T42 l1 x66_3).f2))).setCell ⟨gb306, 3, none⟩ (.bool ((rd_T42 l1 x66_3).f3)))) := ⟨by repeat (first | (with_reducible first | exact HB.out | apply below_alloc | apply pw_below_drewN | apply below_drew1 | refine below_set ?_ (IsS70.ge HI298.out) | refine below_set ?_ GE306.out) | exact HB.out)⟩
                                          (try clear BK306)
                                          (try clear HI298)
                                          (try clear HB)
                                          generalize ((((w103.setCell ⟨gb306, 0, none⟩ (.int .i64 ((rd_T42 l1 x66_3).f0))).setCell ⟨gb306, 1, none⟩ (.int .i64 ((rd_T42 l1 x66_3).f1))).setCell ⟨gb306, 2, none⟩ (.string ((rd_T42 l1 x66_3).f2))).setCell ⟨gb306, 3, none⟩ (.bool ((rd_T42 l1 x66_3).f3))) = w106 at n0_ n1_ n2_ ⊢
                                          have BK306 := n0_
                                          have HI298 := n1_
                                          have HB := n2_
                                          clear n0_ n1_ n2_
                                          have n0_ := Aside0.mk (blk_drew BK306.out)
                                          have n1_ := Aside0.mk (IsS70.drew HI298.out)
                                          have n2_ := Aside0.mk (below_drew1 HB.out)
                                          clear BK306
                                          clear HI298
                                          clear HB
                                          have BK306 := n0_
                                          have HI298 := n1_
                                          have HB := n2_
                                          clear n0_ n1_ n2_
                                          refine start_ (n := 5) (S := fun w' => w'.cell? ⟨gb306, 0, none⟩ = some (.int .i64 ((rd_T42 l1 x66_3).f0)) ∧ w'.cell? ⟨gb306, 1, none⟩ = some (.int .i64 ((rd_T42 l1 x66_3).f1)) ∧ w'.cell? ⟨gb306, 2, none⟩ = some (.string ((rd_T42 l1 x66_3).f2)) ∧ w'.cell? ⟨gb306, 3, none⟩ = some (.bool ((rd_T42 l1 x66_3).f3))) (ds := []) #[false, false, false, false, false] (by kernel_rfl) rfl rfl ⟨(blk_cell BK306.out 0).trans rfl, (blk_cell BK306.out 1).trans rfl, (blk_cell BK306.out 2).trans rfl, (blk_cell BK306.out 3).trans rfl⟩ (fun hHeld => ?_)
                                          generalize w106.drew = w107 at BK306 HI298 HB hHeld ⊢
                                          refine pure_ (i := 0) (N := some 73) (v := ?_) (a' := ?_) #[true, false, false, false, false] rfl rfl (by kernel_rfl) (fun _ _ _ h => h) (Or.inl ⟨by rfl, ?_⟩) ?_ ?_
                                          rotate_left
                                          · intro w'
                                            go_simp
                                            with_reducible rfl
                                          rotate_left
                                          · simp only [Act.put, List.setIfInBounds_toArray, List.set_cons_zero, List.set_cons_succ, i64_w, i32_w]
                                            rfl
                                          refine pure_ (i := 2) (N := some 75) (v := ?_) (a' := ?_) #[true, false, true, false, false] rfl rfl (by kernel_rfl) (fun _ _ _ h => h) (Or.inl ⟨by rfl, ?_⟩) ?_ ?_
                                          rotate_left
                                          · intro w'
                                            go_simp
                                            with_reducible rfl
                                          rotate_left
                                          · simp only [Act.put, List.setIfInBounds_toArray, List.set_cons_zero, List.set_cons_succ, i64_w, i32_w]
                                            rfl
                                          refine take_ (i := 3) (N := some 76) (v := ?_) (a' := ?_) #[true, false, true, true, false] rfl rfl (by kernel_rfl) (fun _ _ _ h => h) (Or.inl ⟨by rfl, ?_⟩) hHeld ?_ ?_
                                          rotate_left
                                          · rintro w' ⟨s0, s1, s2, s3⟩
                                            go_simp
                                            with_reducible rfl
                                          rotate_left
                                          · simp only [Act.put, List.setIfInBounds_toArray, List.set_cons_zero, List.set_cons_succ, i64_w, i32_w]
                                            rfl
                                          refine one_ (i := 1) (N := some 74) #[true, true, true, true, false] rfl rfl (by kernel_rfl) (by decide) (fun K hK => ?_)
                                          refine goes_ Try.func27 (by kernel_rfl) rfl #[.pointer (some ⟨g298, 0, none⟩)] (by rfl) rfl rfl (by (try simp only [List.map_toArray, List.map_cons, List.map_nil]); first | done | rfl | (simp only [List.length_drop, List.length_take]; rfl)) ?_
                                          with_reducible refine (octet_Reader_Flag.calls g298 x299000_3 x299001_3 t316 t317 t318 w _ ?side1 ?side2 A101.out).mono ?_
                                          (case side1 => repeat (first | (with_reducible first | exact HI298.out | apply IsS70.alloc | apply IsS70.drewN | apply IsS70.drew | apply IsS70.set_0 | apply IsS70.set_1 | refine IsS70.far ?_ NB298_306.out _) | exact HI298.out))
                                          (case side2 => repeat (first | (with_reducible first | exact HB.out | apply below_alloc | apply pw_below_drewN | apply below_drew1 | refine below_set ?_ (IsS70.ge HI298.out) | refine below_set ?_ GE306.out) | exact HB.out))
                                          rintro e w108 ⟨rfl, hi, hb, hk⟩
                                          refine ⟨_, rfl, ?_⟩
                                          have n0_ := Aside0.mk (KeepBut.blk hk (g' := gb306) (o := .cells #[.int .i64 ((rd_T42 l1 x66_3).f0), .int .i64 ((rd_T42 l1 x66_3).f1), .string ((rd_T42 l1 x66_3).f2), .bool ((rd_T42 l1 x66_3).f3)] 42 (0, 0)) (by (with_reducible repeat (first | refine blk_drewN ?_ _ | refine blk_drew ?_ | refine blk_alloc ?_ _)); exact BK306.out) NB306_298.out (by simp))
                                          have n1_ := Aside0.mk (hb)
                                          have n2_ := Aside0.mk (hi)
                                          clear BK306
                                          clear HB
                                          clear HI298
                                          have BK306 := n0_
                                          have HB := n1_
                                          have HI298 := n2_
                                          clear n0_ n1_ n2_
                                          (try clear hb)
                                          (try clear hb2)
                                          (try clear hk)
                                          (try clear hi)
                                          refine hK.out _ _ ⟨(blk_cell BK306.out 0).trans rfl, (blk_cell BK306.out 1).trans rfl, (blk_cell BK306.out 2).trans rfl, (blk_cell BK306.out 3).trans rfl⟩ (fun hHeld => ?_)
                                          clear hK K
                                          refine norm_ (a' := ?_) ?_ ?_
                                          rotate_left
                                          · show Act.put _ (some 74) _ = _
                                            simp only [Act.put, List.setIfInBounds_toArray, List.set_cons_zero, List.set_cons_succ, i64_w, i32_w]
                                            rfl
                                          refine pure_ (i := 4) (N := some 77) (v := ?_) (a' := ?_) #[true, true, true, true, true] rfl rfl (by kernel_rfl) (fun _ _ _ h => h) (Or.inl ⟨by rfl, ?_⟩) ?_ ?_
                                          rotate_left
                                          · intro w'
                                            go_simp
                                            with_reducible rfl
                                          rotate_left
                                          · simp only [Act.put, List.setIfInBounds_toArray, List.set_cons_zero, List.set_cons_succ, i64_w, i32_w]
                                            rfl
                                          refine done_ (by kernel_rfl) ?_
                                          try go_wp2
                                          go_ret
                                          exact ⟨by first | rfl | (simp [errW_none, errW_some] <;> rfl) | (simp [*, errW_none, errW_some] <;> rfl), by repeat (first | (with_reducible first | exact HB.out | apply below_alloc | apply pw_below_drewN | apply below_drew1 | refine below_set ?_ (IsS70.ge HI298.out) | refine below_set ?_ GE306.out) | exact HB.out)⟩
                                        · rw [if_neg c102] at H
                                          have c102b0 : (t316 != ((rd_T42 l1 x66_3).f3)) = false := by simpa using c102
                                          (try (have c102b1 : decide (t316 = ((rd_T42 l1 x66_3).f3)) = true := by simpa using c102))
                                          (try (have c102b2 : (t316 == ((rd_T42 l1 x66_3).f3)) = true := by simpa using c102))
                                          clear c102
                                          have H' := Aside0.mk H
                                          clear H
                                          have p305 : 0 ≤ (x66_3 : Int) := of_decide_eq_true (by first | (with_reducible assumption) | assumption)
                                          have q305 : x66_3 < (l1.length : Int) := of_decide_eq_true (by first | (with_reducible assumption) | assumption)
                                          obtain ⟨ad305, e305, hx305_0, hx305_1, hx305_2, hx305_3⟩ := at_T42 HR1.out x66_3 p305 q305
                                          cases e305
                                          replace hx305_0 := (HB.out.cell (World.block_lt_of_cell? w _ hx305_0)).trans hx305_0
                                          replace hx305_1 := (HB.out.cell (World.block_lt_of_cell? w _ hx305_1)).trans hx305_1
                                          replace hx305_2 := (HB.out.cell (World.block_lt_of_cell? w _ hx305_2)).trans hx305_2
                                          replace hx305_3 := (HB.out.cell (World.block_lt_of_cell? w _ hx305_3)).trans hx305_3
                                          replace p305 := eq_true p305
                                          replace q305 := eq_true q305
                                          try go_wp2_with (first | ((with_reducible refine gate_dst (N := 10) rfl ?_); (try (refine gate_guard (by rfl) ?_; dsimp only)); refine box_event ?hg (N := 10) ?hd (cs := #[.int .i64 0, .int .i64 0, .string (⟨#[]⟩ : ByteArray), .bool false]) (t := 42) ?hr ?_; (case hd => rfl); (case hg => rfl); (case hr => first | (go_simp; done) | (go_simp; rfl)); intro gb306 hg w109 hbox hb; have n0_ := Aside0.mk (IsS70.below (by repeat (first | (with_reducible first | exact HI298.out | apply IsS70.alloc | apply IsS70.drewN | apply IsS70.drew | apply IsS70.set_0 | apply IsS70.set_1) | exact HI298.out)) hb); have n1_ := Aside0.mk (below_step (by repeat (first | (with_reducible first | exact HB.out | apply below_alloc | apply pw_below_drewN | apply below_drew1 | refine below_set ?_ (IsS70.ge HI298.out)) | exact HB.out)) hb); have n2_ := Aside0.mk (hbox); have n3_ := Aside0.mk ((by rw [hg]; exact (below_size (by repeat (first | (with_reducible first | exact HB.out | apply below_alloc | apply pw_below_drewN | apply below_drew1 | refine below_set ?_ (IsS70.ge HI298.out)) | exact HB.out))) : w.heap.size ≤ gb306)); have n4_ := Aside0.mk ((by rw [hg]; exact (below_size (by repeat (first | (with_reducible first | exact HB.out | apply below_alloc | apply pw_below_drewN | apply below_drew1 | refine below_set ?_ (IsS70.ge HI298.out)) | exact HB.out))) : w.heap.size ≤ gb306)); have n5_ := Aside0.mk ((by rw [hg]; exact Nat.ne_of_lt (IsS70.lt (show IsS70 w _ g298 x299000_3 x299001_3 from by repeat (first | (with_reducible first | exact HI298.out | apply IsS70.alloc | apply IsS70.drewN | apply IsS70.drew | apply IsS70.set_0 | apply IsS70.set_1) | exact HI298.out))) : g298 ≠ gb306)); have n6_ := Aside0.mk ((by rw [hg]; exact Nat.ne_of_gt (IsS70.lt (show IsS70 w _ g298 x299000_3 x299001_3 from by repeat (first | (with_reducible first | exact HI298.out | apply IsS70.alloc | apply IsS70.drewN | apply IsS70.drew | apply IsS70.set_0 | apply IsS70.set_1) | exact HI298.out))) : gb306 ≠ g298)); clear HI298; clear HB; have HI298 := n0_; have HB := n1_; have BK306 := n2_; have GW306 := n3_; have GE306 := n4_; have NB298_306 := n5_; have NB306_298 := n6_; clear n0_ n1_ n2_ n3_ n4_ n5_ n6_; clear hb hbox hg; have hnb110 := NB306_298.out; have hnc110 := NB298_306.out; have hcz111_0 : w109.cell? ⟨gb306, 0, none⟩ = some (.int .i64 0) := (blk_cell BK306.out 0).trans rfl; have hcz111_1 : w109.cell? ⟨gb306, 1, none⟩ = some (.int .i64 0) := (blk_cell BK306.out 1).trans rfl; have hcz111_2 : w109.cell? ⟨gb306, 2, none⟩ = some (.string (⟨#[]⟩ : ByteArray)) := (blk_cell BK306.out 2).trans rfl; have hcz111_3 : w109.cell? ⟨gb306, 3, none⟩ = some (.bool false) := (blk_cell BK306.out 3).trans rfl; have hfz111_0 := blk_frozen BK306.out 0; have hfz111_1 := blk_frozen BK306.out 1; have hfz111_2 := blk_frozen BK306.out 2; have hfz111_3 := blk_frozen BK306.out 3))
                                          have n0_ : Aside0 (((((w109.setCell ⟨gb306, 0, none⟩ (.int .i64 ((rd_T42 l1 x66_3).f0))).setCell ⟨gb306, 1, none⟩ (.int .i64 ((rd_T42 l1 x66_3).f1))).setCell ⟨gb306, 2, none⟩ (.string ((rd_T42 l1 x66_3).f2))).setCell ⟨gb306, 3, none⟩ (.bool ((rd_T42 l1 x66_3).f3))).heap[gb306]? = some (.cells #[.int .i64 ((rd_T42 l1 x66_3).f0), .int .i64 ((rd_T42 l1 x66_3).f1), .string ((rd_T42 l1 x66_3).f2), .bool ((rd_T42 l1 x66_3).f3)] 42 (0, 0))) := ⟨by (with_reducible repeat (first | refine blk_drewN ?_ _ | refine blk_drew ?_ | refine blk_alloc ?_ _)); refine blk_put (cs := #[.int .i64 ((rd_T42 l1 x66_3).f0), .int .i64 ((rd_T42 l1 x66_3).f1), .string ((rd_T42 l1 x66_3).f2), .bool false]) ?_ 3 _ rfl; (with_reducible repeat (first | refine blk_drewN ?_ _ | refine blk_drew ?_ | refine blk_alloc ?_ _)); refine blk_put (cs := #[.int .i64 ((rd_T42 l1 x66_3).f0), .int .i64 ((rd_T42 l1 x66_3).f1), .string (⟨#[]⟩ : ByteArray), .bool false]) ?_ 2 _ rfl; (with_reducible repeat (first | refine blk_drewN ?_ _ | refine blk_drew ?_ | refine blk_alloc ?_ _)); refine blk_put (cs := #[.int .i64 ((rd_T42 l1 x66_3).f0), .int .i64 0, .string (⟨#[]⟩ : ByteArray), .bool false]) ?_ 1 _ rfl; (with_reducible repeat (first | refine blk_drewN ?_ _ | refine blk_drew ?_ | refine blk_alloc ?_ _)); refine blk_put (cs := #[.int .i64 0, .int .i64 0, .string (⟨#[]⟩ : ByteArray), .bool false]) ?_ 0 _ rfl; (with_reducible repeat (first | refine blk_drewN ?_ _ | refine blk_drew ?_ | refine blk_alloc ?_ _)); exact BK306.out⟩
                                          have n1_ : Aside0 (IsS70 w ((((w109.setCell ⟨gb306, 0, none⟩ (.int .i64 ((rd_T42 l1 x66_3).f0))).setCell ⟨gb306, 1, none⟩ (.int .i64 ((rd_T42 l1 x66_3).f1))).setCell ⟨gb306, 2, none⟩ (.string ((rd_T42 l1 x66_3).f2))).setCell ⟨gb306, 3, none⟩ (.bool ((rd_T42 l1 x66_3).f3))) g298 x299000_3 x299001_3) := ⟨by repeat (first | (with_reducible first | exact HI298.out | apply IsS70.alloc | apply IsS70.drewN | apply IsS70.drew | apply IsS70.set_0 | apply IsS70.set_1 | refine IsS70.far ?_ NB298_306.out _) | exact HI298.out)⟩
                                          have n2_ : Aside0 (Below w.heap.size w ((((w109.setCell ⟨gb306, 0, none⟩ (.int .i64 ((rd_T42 l1 x66_3).f0))).setCell ⟨gb306, 1, none⟩ (.int .i64 ((rd_T42 l1 x66_3).f1))).setCell ⟨gb306, 2, none⟩ (.string ((rd_T42 l1 x66_3).f2))).setCell ⟨gb306, 3, none⟩ (.bool ((rd_T42 l1 x66_3).f3)))) := ⟨by repeat (first | (with_reducible first | exact HB.out | apply below_alloc | apply pw_below_drewN | apply below_drew1 | refine below_set ?_ (IsS70.ge HI298.out) | refine below_set ?_ GE306.out) | exact HB.out)⟩
                                          (try clear BK306)
                                          (try clear HI298)
                                          (try clear HB)
                                          generalize ((((w109.setCell ⟨gb306, 0, none⟩ (.int .i64 ((rd_T42 l1 x66_3).f0))).setCell ⟨gb306, 1, none⟩ (.int .i64 ((rd_T42 l1 x66_3).f1))).setCell ⟨gb306, 2, none⟩ (.string ((rd_T42 l1 x66_3).f2))).setCell ⟨gb306, 3, none⟩ (.bool ((rd_T42 l1 x66_3).f3))) = w112 at n0_ n1_ n2_ ⊢
                                          have BK306 := n0_
                                          have HI298 := n1_
                                          have HB := n2_
                                          clear n0_ n1_ n2_
                                          have n0_ := Aside0.mk (blk_drew BK306.out)
                                          have n1_ := Aside0.mk (IsS70.drew HI298.out)
                                          have n2_ := Aside0.mk (below_drew1 HB.out)
                                          clear BK306
                                          clear HI298
                                          clear HB
                                          have BK306 := n0_
                                          have HI298 := n1_
                                          have HB := n2_
                                          clear n0_ n1_ n2_
                                          refine start_ (n := 5) (S := fun w' => w'.cell? ⟨gb306, 0, none⟩ = some (.int .i64 ((rd_T42 l1 x66_3).f0)) ∧ w'.cell? ⟨gb306, 1, none⟩ = some (.int .i64 ((rd_T42 l1 x66_3).f1)) ∧ w'.cell? ⟨gb306, 2, none⟩ = some (.string ((rd_T42 l1 x66_3).f2)) ∧ w'.cell? ⟨gb306, 3, none⟩ = some (.bool ((rd_T42 l1 x66_3).f3))) (ds := []) #[false, false, false, false, false] (by kernel_rfl) rfl rfl ⟨(blk_cell BK306.out 0).trans rfl, (blk_cell BK306.out 1).trans rfl, (blk_cell BK306.out 2).trans rfl, (blk_cell BK306.out 3).trans rfl⟩ (fun hHeld => ?_)
                                          generalize w112.drew = w113 at BK306 HI298 HB hHeld ⊢
                                          refine pure_ (i := 0) (N := some 73) (v := ?_) (a' := ?_) #[true, false, false, false, false] rfl rfl (by kernel_rfl) (fun _ _ _ h => h) (Or.inl ⟨by rfl, ?_⟩) ?_ ?_
                                          rotate_left
                                          · intro w'
                                            go_simp
                                            with_reducible rfl
                                          rotate_left
                                          · simp only [Act.put, List.setIfInBounds_toArray, List.set_cons_zero, List.set_cons_succ, i64_w, i32_w]
                                            rfl
                                          refine pure_ (i := 2) (N := some 75) (v := ?_) (a' := ?_) #[true, false, true, false, false] rfl rfl (by kernel_rfl) (fun _ _ _ h => h) (Or.inl ⟨by rfl, ?_⟩) ?_ ?_
                                          rotate_left
                                          · intro w'
                                            go_simp
                                            with_reducible rfl
                                          rotate_left
                                          · simp only [Act.put, List.setIfInBounds_toArray, List.set_cons_zero, List.set_cons_succ, i64_w, i32_w]
                                            rfl
                                          refine take_ (i := 3) (N := some 76) (v := ?_) (a' := ?_) #[true, false, true, true, false] rfl rfl (by kernel_rfl) (fun _ _ _ h => h) (Or.inl ⟨by rfl, ?_⟩) hHeld ?_ ?_
                                          rotate_left
                                          · rintro w' ⟨s0, s1, s2, s3⟩
                                            go_simp
                                            with_reducible rfl
                                          rotate_left
                                          · simp only [Act.put, List.setIfInBounds_toArray, List.set_cons_zero, List.set_cons_succ, i64_w, i32_w]
                                            rfl
                                          refine one_ (i := 1) (N := some 74) #[true, true, true, true, false] rfl rfl (by kernel_rfl) (by decide) (fun K hK => ?_)
                                          refine goes_ Try.func27 (by kernel_rfl) rfl #[.pointer (some ⟨g298, 0, none⟩)] (by rfl) rfl rfl (by (try simp only [List.map_toArray, List.map_cons, List.map_nil]); first | done | rfl | (simp only [List.length_drop, List.length_take]; rfl)) ?_
                                          with_reducible refine (octet_Reader_Flag.calls g298 x299000_3 x299001_3 t316 t317 t318 w _ ?side1 ?side2 A101.out).mono ?_
                                          (case side1 => repeat (first | (with_reducible first | exact HI298.out | apply IsS70.alloc | apply IsS70.drewN | apply IsS70.drew | apply IsS70.set_0 | apply IsS70.set_1 | refine IsS70.far ?_ NB298_306.out _) | exact HI298.out))
                                          (case side2 => repeat (first | (with_reducible first | exact HB.out | apply below_alloc | apply pw_below_drewN | apply below_drew1 | refine below_set ?_ (IsS70.ge HI298.out) | refine below_set ?_ GE306.out) | exact HB.out))
                                          rintro e w114 ⟨rfl, hi, hb, hk⟩
                                          refine ⟨_, rfl, ?_⟩
                                          have n0_ := Aside0.mk (KeepBut.blk hk (g' := gb306) (o := .cells #[.int .i64 ((rd_T42 l1 x66_3).f0), .int .i64 ((rd_T42 l1 x66_3).f1), .string ((rd_T42 l1 x66_3).f2), .bool ((rd_T42 l1 x66_3).f3)] 42 (0, 0)) (by (with_reducible repeat (first | refine blk_drewN ?_ _ | refine blk_drew ?_ | refine blk_alloc ?_ _)); exact BK306.out) NB306_298.out (by simp))
                                          have n1_ := Aside0.mk (hb)
                                          have n2_ := Aside0.mk (hi)
                                          clear BK306
                                          clear HB
                                          clear HI298
                                          have BK306 := n0_
                                          have HB := n1_
                                          have HI298 := n2_
                                          clear n0_ n1_ n2_
                                          (try clear hb)
                                          (try clear hb2)
                                          (try clear hk)
                                          (try clear hi)
                                          refine hK.out _ _ ⟨(blk_cell BK306.out 0).trans rfl, (blk_cell BK306.out 1).trans rfl, (blk_cell BK306.out 2).trans rfl, (blk_cell BK306.out 3).trans rfl⟩ (fun hHeld => ?_)
                                          clear hK K
                                          refine norm_ (a' := ?_) ?_ ?_
                                          rotate_left
                                          · show Act.put _ (some 74) _ = _
                                            simp only [Act.put, List.setIfInBounds_toArray, List.set_cons_zero, List.set_cons_succ, i64_w, i32_w]
                                            rfl
                                          refine pure_ (i := 4) (N := some 77) (v := ?_) (a' := ?_) #[true, true, true, true, true] rfl rfl (by kernel_rfl) (fun _ _ _ h => h) (Or.inl ⟨by rfl, ?_⟩) ?_ ?_
                                          rotate_left
                                          · intro w'
                                            go_simp
                                            with_reducible rfl
                                          rotate_left
                                          · simp only [Act.put, List.setIfInBounds_toArray, List.set_cons_zero, List.set_cons_succ, i64_w, i32_w]
                                            rfl
                                          refine done_ (by kernel_rfl) ?_
                                          try go_wp2
                                          go_roundg k3
                                          case measure => have := HJ4.out; have := HK2.out; have := HK3.out; omega
                                          case rel => exact ⟨(wrap64 (x66_3 + 1)), (t317), (t318), (by first | rfl | (simp; done) | (simp [*]; done)), H', ⟨by have := HJ4.out; have := HK2.out; have := HK3.out; omega⟩, ⟨by repeat (first | (with_reducible first | exact HI298.out | apply IsS70.alloc | apply IsS70.drewN | apply IsS70.drew | apply IsS70.set_0 | apply IsS70.set_1 | refine IsS70.far ?_ NB298_306.out _) | exact HI298.out)⟩, ⟨by repeat (first | (with_reducible first | exact HB.out | apply below_alloc | apply pw_below_drewN | apply below_drew1 | refine below_set ?_ (IsS70.ge HI298.out) | refine below_set ?_ GE306.out) | exact HB.out)⟩⟩
                                  · rw [if_neg c62] at H
                                    exact absurd H (by simp)
                                · rw [if_neg c61] at H
                                  exact absurd H (by simp)
                              · rw [if_neg c60] at H
                                have c60b0 : decide (x66_3 < (l1.length : Int)) = false := decide_eq_false c60
                                clear c60
                                replace H := Option.bind_eq_some_iff.mp H
                                obtain ⟨⟨t299, t300, t301⟩, A1150, H⟩ := H
                                replace H : (if t299 = 0 then ((octet_Reader_Left.f t300 t301).bind fun bt302 => (some (bt302.1 == 0))) else (some false)) = some r := H
                                have A115 := Aside0.mk A1150
                                clear A1150
                                by_cases c116 : t299 = 0
                                · rw [if_pos c116] at H
                                  have c116b0 : (t299 == 0) = true := beq_iff_eq.mpr c116
                                  have c116b1 : (t299 != 0) = false := bne_eq_false_iff_eq.mpr c116
                                  clear c116
                                  replace H := Option.bind_eq_some_iff.mp H
                                  obtain ⟨⟨t302, t303, t304⟩, A1170, H⟩ := H
                                  replace H : (some (t302 == 0)) = some r := H
                                  have A117 := Aside0.mk A1170
                                  clear A1170
                                  obtain rfl := Option.some.inj H
                                  go_wp2_with (first | ((with_reducible refine gate_callee (f := 24) rfl ?_); refine goesL_ (some 107) rfl rfl Try.func24 (by kernel_rfl) rfl #[.pointer (some ⟨g298, 0, none⟩)] rfl (by (try simp only [List.map_toArray, List.map_cons, List.map_nil]); first | done | rfl | (simp only [List.length_drop, List.length_take]; rfl)) ?_; (with_reducible refine (octet_Reader_End.calls g298 x299000_3 x299001_3 t299 t300 t301 w _ ?side1 ?side2 A115.out).mono ?_); (case side1 => repeat (first | (with_reducible first | exact HI298.out | apply IsS70.alloc | apply IsS70.drewN | apply IsS70.drew | apply IsS70.set_0 | apply IsS70.set_1) | exact HI298.out)); (case side2 => repeat (first | (with_reducible first | exact HB.out | apply below_alloc | apply pw_below_drewN | apply below_drew1 | refine below_set ?_ (IsS70.ge HI298.out)) | exact HB.out)); rintro e w118 ⟨rfl, hi, hb, hk⟩; refine ⟨_, rfl, ?_⟩; have n0_ := Aside0.mk (hb); have n1_ := Aside0.mk (hi); clear HB; clear HI298; have HB := n0_; have HI298 := n1_; clear n0_ n1_; (try clear hb); (try clear hb2); (try clear hk); (try clear hi)) | (go_at_call 23; (with_reducible refine (octet_Reader_Left.calls g298 t300 t301 t302 t303 t304 w _ ?side1 ?side2 A117.out).mono ?_); (case side1 => repeat (first | (with_reducible first | exact HI298.out | apply IsS70.alloc | apply IsS70.drewN | apply IsS70.drew | apply IsS70.set_0 | apply IsS70.set_1) | exact HI298.out)); (case side2 => repeat (first | (with_reducible first | exact HB.out | apply below_alloc | apply pw_below_drewN | apply below_drew1 | refine below_set ?_ (IsS70.ge HI298.out)) | exact HB.out)); rintro e w119 ⟨rfl, hi, hb, hk⟩; have n0_ := Aside0.mk (hb); have n1_ := Aside0.mk (hi); clear HB; clear HI298; have HB := n0_; have HI298 := n1_; clear n0_ n1_; (try clear hb); (try clear hb2); (try clear hk); (try clear hi)))
                                  go_ret
                                  exact ⟨by first | rfl | (simp [errW_none, errW_some] <;> rfl) | (simp [*, errW_none, errW_some] <;> rfl), by repeat (first | (with_reducible first | exact HB.out | apply below_alloc | apply pw_below_drewN | apply below_drew1 | refine below_set ?_ (IsS70.ge HI298.out)) | exact HB.out)⟩
                                · rw [if_neg c116] at H
                                  have c116b0 : (t299 == 0) = false := beq_eq_false_iff_ne.mpr c116
                                  have c116b1 : (t299 != 0) = true := bne_iff_ne.mpr c116
                                  obtain rfl := Option.some.inj H
                                  go_wp2_with (first | ((with_reducible refine gate_callee (f := 24) rfl ?_); refine goesL_ (some 107) rfl rfl Try.func24 (by kernel_rfl) rfl #[.pointer (some ⟨g298, 0, none⟩)] rfl (by (try simp only [List.map_toArray, List.map_cons, List.map_nil]); first | done | rfl | (simp only [List.length_drop, List.length_take]; rfl)) ?_; (with_reducible refine (octet_Reader_End.calls g298 x299000_3 x299001_3 t299 t300 t301 w _ ?side1 ?side2 A115.out).mono ?_); (case side1 => repeat (first | (with_reducible first | exact HI298.out | apply IsS70.alloc | apply IsS70.drewN | apply IsS70.drew | apply IsS70.set_0 | apply IsS70.set_1) | exact HI298.out)); (case side2 => repeat (first | (with_reducible first | exact HB.out | apply below_alloc | apply pw_below_drewN | apply below_drew1 | refine below_set ?_ (IsS70.ge HI298.out)) | exact HB.out)); rintro e w120 ⟨rfl, hi, hb, hk⟩; refine ⟨_, rfl, ?_⟩; have n0_ := Aside0.mk (hb); have n1_ := Aside0.mk (hi); clear HB; clear HI298; have HB := n0_; have HI298 := n1_; clear n0_ n1_; (try clear hb); (try clear hb2); (try clear hk); (try clear hi)))
                                  go_ret
                                  exact ⟨by first | rfl | (simp [errW_none, errW_some] <;> rfl) | (simp [*, errW_none, errW_some] <;> rfl), by repeat (first | (with_reducible first | exact HB.out | apply below_alloc | apply pw_below_drewN | apply below_drew1 | refine below_set ?_ (IsS70.ge HI298.out)) | exact HB.out)⟩
                        · rw [if_neg c46] at H
                          exact absurd H (by simp)
                      · rw [if_neg c45] at H
                        exact absurd H (by simp)
                    · rw [if_neg c44] at H
                      have c44b0 : ((strOfNums x5_2).toList == ((strOfNums l0) ++ t291).toList) = false := beq_eq_false_iff_ne.mpr c44
                      have c44b1 : ((strOfNums x5_2).toList != ((strOfNums l0) ++ t291).toList) = true := bne_iff_ne.mpr c44
                      obtain rfl := Option.some.inj H
                      try go_wp2
                      have n0_ := Aside0.mk (Kd.R_drew HO_5.out)
                      have n1_ := Aside0.mk (below_drew1 HB.out)
                      clear HO_5
                      clear HB
                      have HO_5 := n0_
                      have HB := n1_
                      clear n0_ n1_
                      have hcv122 := own_string (P := Try.prog) Try.underlying23 Try.underlying5 Try.underlying9 (Kd.own_of_R HO_5.out)
                      have hcv123 := fun nd_ : Nat => own_string (P := Try.prog) Try.underlying23 Try.underlying5 Try.underlying9 (Kd.own_of_R (Kd.R_drewN HO_5.out nd_))
                      have hcv124 := Kd.C_string (P := Try.prog) (A := A0) (c := c0) Try.underlying23 Try.underlying5 Try.underlying9 (Kd.C_below HR0.out HB.out)
                      have hcv125 := fun nd_ : Nat => Kd.C_string (P := Try.prog) (A := A0) (c := c0) Try.underlying23 Try.underlying5 Try.underlying9 (Kd.C_drewN (Kd.C_below HR0.out HB.out) nd_)
                      refine start_ (n := 8) (S := fun w' => Sem.run Try.prog (convert 23 9 u5) w' = .ok (.string (strOfNums x5_2)) w' ∧ Sem.run Try.prog (convert 23 9 (.slice A0 l0.length c0)) w' = .ok (.string (strOfNums l0)) w') (ds := []) #[false, false, false, false, false, false, false, false] (by kernel_rfl) rfl rfl ⟨(own_string (P := Try.prog) Try.underlying23 Try.underlying5 Try.underlying9 (Kd.own_of_R HO_5.out)), (Kd.C_string (P := Try.prog) (A := A0) (c := c0) Try.underlying23 Try.underlying5 Try.underlying9 (Kd.C_below HR0.out HB.out))⟩ (fun hHeld => ?_); refine with_tabW mailbaglaw01_OctetLays.tab16 mailbaglaw01_OctetLays.bits16 (fun HT_ HW_ => ?_)
                      generalize wr.drew = w121 at HO_5 HB hHeld ⊢
                      refine pure_ (i := 0) (N := some 50) (v := ?_) (a' := ?_) #[true, false, false, false, false, false, false, false] rfl rfl (any_of HT_.out (by kernel_rfl)) (fun _ _ _ h => h) (Or.inl ⟨by rfl, ?_⟩) ?_ ?_
                      rotate_left
                      · intro w'
                        go_simp
                        with_reducible rfl
                      rotate_left
                      · simp only [Act.put, List.setIfInBounds_toArray, List.set_cons_zero, List.set_cons_succ, i64_w, i32_w]
                        rfl
                      refine pure_ (i := 2) (N := some 52) (v := ?_) (a' := ?_) #[true, false, true, false, false, false, false, false] rfl rfl (any_of HT_.out (by kernel_rfl)) (fun _ _ _ h => h) (Or.inl ⟨by rfl, ?_⟩) ?_ ?_
                      rotate_left
                      · intro w'
                        go_simp
                        with_reducible rfl
                      rotate_left
                      · simp only [Act.put, List.setIfInBounds_toArray, List.set_cons_zero, List.set_cons_succ, i64_w, i32_w]
                        rfl
                      refine pure_ (i := 4) (N := some 54) (v := ?_) (a' := ?_) #[true, false, true, false, true, false, false, false] rfl rfl (any_of HT_.out (by kernel_rfl)) (fun _ _ _ h => h) (Or.inl ⟨by rfl, ?_⟩) ?_ ?_
                      rotate_left
                      · intro w'
                        go_simp
                        with_reducible rfl
                      rotate_left
                      · simp only [Act.put, List.setIfInBounds_toArray, List.set_cons_zero, List.set_cons_succ, i64_w, i32_w]
                        rfl
                      refine take_ (i := 1) (N := some 51) (v := ?_) (a' := ?_) #[true, true, true, false, true, false, false, false] rfl rfl (take_ofW HT_.out HW_.out (by kernel_rfl)) (fun _ _ _ h => h) (Or.inl ⟨by rfl, ?_⟩) hHeld ?_ ?_
                      rotate_left
                      · rintro w' ⟨s0, s1⟩
                        go_simp
                        with_reducible rfl
                      rotate_left
                      · simp only [Act.put, List.setIfInBounds_toArray, List.set_cons_zero, List.set_cons_succ, i64_w, i32_w]
                        rfl
                      refine take_ (i := 3) (N := some 53) (v := ?_) (a' := ?_) #[true, true, true, true, true, false, false, false] rfl rfl (take_ofW HT_.out HW_.out (by kernel_rfl)) (fun _ _ _ h => h) (Or.inl ⟨by rfl, ?_⟩) hHeld ?_ ?_
                      rotate_left
                      · rintro w' ⟨s0, s1⟩
                        go_simp
                        with_reducible rfl
                      rotate_left
                      · simp only [Act.put, List.setIfInBounds_toArray, List.set_cons_zero, List.set_cons_succ, i64_w, i32_w]
                        rfl
                      refine one_ (i := 5) (N := some 55) #[true, true, true, true, true, true, false, false] rfl rfl (one_of HT_.out (by kernel_rfl)) (by decide) (fun K hK => ?_)
                      refine goes_ Try.func28 (by kernel_rfl) rfl #[.slice A1 l1.length c1] (by rfl) rfl rfl (by (try simp only [List.map_toArray, List.map_cons, List.map_nil]); first | done | rfl | (simp only [List.length_drop, List.length_take]; rfl)) ?_
                      with_reducible refine (mailbaglaw01_lay.calls k2 _ _ l1 t291 _ ?side1 ?side2 A42.out).mono ?_
                      (case side1 => repeat (first | exact (Kd.C_below HR1.out HB.out) | (with_reducible refine Kd.C_alloc ?_ _) | (with_reducible refine Kd.C_drewN ?_ _) | (with_reducible refine Kd.C_drew ?_)))
                      (case side2 => exact HC1.out)
                      rintro e w126 ⟨rfl, hb⟩
                      refine ⟨_, rfl, ?_⟩
                      have n0_ := Aside0.mk (Kd.R_below (by (with_reducible repeat (first | apply Kd.R_alloc | apply Kd.R_drewN | apply Kd.R_drew)); exact HO_5.out) hb)
                      have n1_ := Aside0.mk (below_step (by repeat (first | (with_reducible first | exact HB.out | apply below_alloc | apply pw_below_drewN | apply below_drew1) | exact HB.out)) hb)
                      clear HO_5
                      clear HB
                      have HO_5 := n0_
                      have HB := n1_
                      clear n0_ n1_
                      (try clear hb)
                      (try clear hb2)
                      (try clear hk)
                      (try clear hi)
                      refine hK.out _ _ ⟨(own_string (P := Try.prog) Try.underlying23 Try.underlying5 Try.underlying9 (Kd.own_of_R HO_5.out)), (Kd.C_string (P := Try.prog) (A := A0) (c := c0) Try.underlying23 Try.underlying5 Try.underlying9 (Kd.C_below HR0.out HB.out))⟩ (fun hHeld => ?_)
                      clear hK K
                      refine norm_ (a' := ?_) ?_ ?_
                      rotate_left
                      · show Act.put _ (some 55) _ = _
                        simp only [Act.put, List.setIfInBounds_toArray, List.set_cons_zero, List.set_cons_succ, i64_w, i32_w]
                        rfl
                      refine pure_ (i := 6) (N := some 56) (v := ?_) (a' := ?_) #[true, true, true, true, true, true, true, false] rfl rfl (any_of HT_.out (by kernel_rfl)) (fun _ _ _ h => h) (Or.inl ⟨by rfl, ?_⟩) ?_ ?_
                      rotate_left
                      · intro w'
                        go_simp
                        with_reducible rfl
                      rotate_left
                      · simp only [Act.put, List.setIfInBounds_toArray, List.set_cons_zero, List.set_cons_succ, i64_w, i32_w]
                        rfl
                      refine pure_ (i := 7) (N := some 57) (v := ?_) (a' := ?_) #[true, true, true, true, true, true, true, true] rfl rfl (any_of HT_.out (by kernel_rfl)) (fun _ _ _ h => h) (Or.inl ⟨by rfl, ?_⟩) ?_ ?_
                      rotate_left
                      · intro w'
                        go_simp
                        with_reducible rfl
                      rotate_left
                      · simp only [Act.put, List.setIfInBounds_toArray, List.set_cons_zero, List.set_cons_succ, i64_w, i32_w]
                        rfl
                      refine done_ (done_of HT_.out (by kernel_rfl)) ?_
                      try go_wp2
                      go_ret
                      exact ⟨by first | rfl | (simp [errW_none, errW_some] <;> rfl) | (simp [*, errW_none, errW_some] <;> rfl), by repeat (first | (with_reducible first | exact HB.out | apply below_alloc | apply pw_below_drewN | apply below_drew1) | exact HB.out)⟩
                  · rw [if_neg c43] at H
                    exact absurd H (by simp)
          · rw [if_neg c12] at H
            exact absurd H (by simp)
  · replace c4 := Bool.eq_false_iff.mpr c4
    subst c4
    have H1 : (some false) = some r := by rw [if_neg (show ¬ (false = true) by decide)] at H; exact H
    clear H
    have H := H1
    clear H1
    obtain rfl := Option.some.inj H
    go_enter Try.func9, Try.ntmps9
    go_wp2_with (first | ((with_reducible refine gate_callee (f := 16) rfl ?_); refine goesL_ (some 11) rfl rfl Try.func16 (by kernel_rfl) rfl #[] rfl (by (try simp only [List.map_toArray, List.map_cons, List.map_nil]); first | done | rfl | (simp only [List.length_drop, List.length_take]; rfl)) ?_; (with_reducible refine (mailbaglaw01_head.calls k  false _ A3.out).mono ?_); rintro e w128 ⟨rfl, hb⟩; refine ⟨_, rfl, ?_⟩; have n0_ := Aside0.mk (below_step (by repeat (first | (with_reducible first | exact HB.out | apply below_alloc | apply pw_below_drewN | apply below_drew1) | exact HB.out)) hb); clear HB; have HB := n0_; clear n0_; (try clear hb); (try clear hb2); (try clear hk); (try clear hi)))
    go_ret
    exact ⟨by first | rfl | (simp [errW_none, errW_some] <;> rfl) | (simp [*, errW_none, errW_some] <;> rfl), by repeat (first | (with_reducible first | exact HB.out | apply below_alloc | apply pw_below_drewN | apply below_drew1) | exact HB.out)⟩

end Go.Proofs.Ythpgpljpadlegaa.Q
