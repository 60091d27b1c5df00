/- Texts as long as may be, in each place; one longer is none. -/
import Derived.Test.YthpgpljpadlegaaWireC
import Derived.Test.YthpgpljpadlegaaQxf12
namespace Go.Proofs.Ythpgpljpadlegaa.Pure
open Go Go.RowKit Go.Proofs.Ythpgpljpadlegaa.Q Go.Proofs.Ythpgpljpadlegaa.Oct Go.Proofs.Ythpgpljpadlegaa.Plain Go.Proofs.Ythpgpljpadlegaa.Wire Go.Proofs.YthpgpljpadlegaaW.PrintWords Go.Proofs.YthpgpljpadlegaaW.PrintLast Go.Proofs.YthpgpljpadlegaaW.PrintMore
set_option linter.unusedVariables false
set_option linter.unusedSimpArgs false

theorem long_j0 (x : Int) (a b c d : ByteArray) (h : (x > 4096 ∧ ¬ RightP 5 a b c d 0 0) ∨ (¬ x > 4096 ∧ RightP 5 a b c d 0 0)) : Ev (fun k => mailbaglaw18_WireLong.j0 k x 5 a b c d 0 0) true := by
  refine Ev.step (f := fun k => (wire_Ask_Encode.f k 5 a b c d 0 0).bind fun bt447 => (if x > 4096 then (if bt447.2 = 1 then (if bt447.1.toList = ([] : List UInt8) then ((wire_Ask_Right.f 5 a b c d 0 0).bind fun t449 => (some (!t449))) else (some false)) else (some false)) else ((wire_ReadAsk.f k bt447.1).bind fun bt450 => (if bt447.2 = 0 then (if bt450.2.2.2.2.2.2.2 = 0 then (some (bt450.1 == 5 && (bt450.2.1.toList == a.toList && (bt450.2.2.1.toList == b.toList && (bt450.2.2.2.1.toList == c.toList && (bt450.2.2.2.2.1.toList == d.toList && (bt450.2.2.2.2.2.1 == 0 && (bt450.2.2.2.2.2.2.1 == 0)))))))) else (some false)) else (some false))))) (fun k => by rw [mailbaglaw18_WireLong.j0]) ?_
  refine Ev.bind (encode_tells 5 a b c d 0 0) ?_
  rcases h with ⟨hx, hr⟩ | ⟨hx, hr⟩
  · have e : (⟨#[]⟩ : ByteArray).toList = ([] : List UInt8) := by rw [toList_mk]
    simp only [if_pos hx, if_neg hr, if_true, right_tells, decide_eq_false hr, Option.bind_some, Bool.not_false, e]
    exact Ev.now _
  · simp only [if_neg hx, if_pos hr, if_true]
    refine Ev.bind (readAsk_enc hr) ?_
    simp only [if_true, BEq.rfl, Bool.and_self]
    exact Ev.now _
theorem strOfNums_size (l : List Int) : (strOfNums l).size = l.length := by simp [strOfNums, ByteArray.size]
theorem WireLong : mailbaglaw18_WireLong.Pure := by
  intro a0 a1 w0 w1
  have hE : Ev (fun k => mailbaglaw18_WireLong.f k a0 a1) true := by
    have hn := mask_le a0 15 (by omega) (by omega)
    unfold mailbaglaw18_WireLong.f
    generalize Go.bits .and .i64 a0 15 = v at hn
    generalize Go.bits .and .i64 a1 3 = w
    have e1 : wrap64 (4090 + v) = 4090 + v := wrap64_small (by omega) (by omega)
    rw [e1]
    have p0 : (0 : Int) ≤ 4090 + v := by omega
    have p1 : ((4090 + v : Int)).toNat ≤ 281474976710656 := by omega
    refine Ev.bind head_tells ?_
    simp only [if_true, if_pos p0, if_pos p1, Option.bind_some]
    have hs : (strOfNums (List.replicate ((4090 + v : Int)).toNat 0)).size = ((4090 + v : Int)).toNat := by rw [strOfNums_size, List.length_replicate]
    generalize strOfNums (List.replicate ((4090 + v : Int)).toNat 0) = s at hs
    have hz : (⟨#[]⟩ : ByteArray).size = 0 := rfl
    by_cases c0 : w = 0
    · simp only [if_pos c0]
      refine long_j0 _ _ _ _ _ ?_
      simp only [RightP, hz, hs]; omega
    · simp only [if_neg c0]
      by_cases c1 : w = 1
      · simp only [if_pos c1]
        refine long_j0 _ _ _ _ _ ?_
        simp only [RightP, hz, hs]; omega
      · simp only [if_neg c1]
        by_cases c2 : w = 2
        · simp only [if_pos c2]
          refine long_j0 _ _ _ _ _ ?_
          simp only [RightP, hz, hs]; omega
        · simp only [if_neg c2]
          refine long_j0 _ _ _ _ _ ?_
          simp only [RightP, hz, hs]; omega
  obtain ⟨k, h⟩ := hE
  exact ⟨k, h k (Nat.le_refl k)⟩
end Go.Proofs.Ythpgpljpadlegaa.Pure
