/- An answer of an error is that error alone, for every error. -/
import Derived.Test.YthpgpljpadlegaaWireB
import Derived.Test.YthpgpljpadlegaaQxf14
namespace Go.Proofs.Ythpgpljpadlegaa.Pure
open Go Go.RowKit Go.Proofs.Ythpgpljpadlegaa.Q Go.Proofs.Ythpgpljpadlegaa.Oct Go.Proofs.Ythpgpljpadlegaa.Plain Go.Proofs.Ythpgpljpadlegaa.Wire Go.Proofs.YthpgpljpadlegaaW.PrintWords Go.Proofs.YthpgpljpadlegaaW.PrintLast Go.Proofs.YthpgpljpadlegaaW.PrintMore
set_option linter.unusedVariables false

theorem WireFails : mailbaglaw18_WireFails.Pure := by
  intro a0 a1 w0 w1
  have he := mask_le a0 511 (by omega) (by omega)
  have hn := mask_le a1 65535 (by omega) (by omega)
  have hE : Ev (fun k => mailbaglaw18_WireFails.f k a0 a1) true := by
    unfold mailbaglaw18_WireFails.f
    generalize Go.bits .and .i64 a0 511 = e at he
    generalize Go.bits .and .i64 a1 65535 = n at hn
    refine Ev.bind head_tells ?_
    simp only [if_true, wire_Fail.f, Option.bind_some]
    refine Ev.bind (aencode_tells e 0 [] (by omega) (by omega) (by simp [textsL_nil])) ?_
    refine Ev.bind (readAnswer_enc (l := []) he.1 (by omega) (by omega) (by omega) (by simp [textsL_nil])) ?_
    simp only [if_true]
    refine Ev.bind (same_tells e 0 [] e 0 [] (by simp)) ?_
    simp only [and_self, decide_true, if_true, List.length_nil]
    have p1 : ((0 : Nat) : Int) = 0 := rfl
    simp only [if_pos p1]
    refine Ev.bind (same_tells e 0 [] e n [] (by simp)) ?_
    have h : (decide (e = e ∧ 0 = n ∧ ([] : List ByteArray) = []) == (n == 0)) = true := by
      by_cases h : n = 0
      · subst h; simp
      · have h2 : ¬ (0 : Int) = n := fun e => h e.symm
        simp [h, h2]
    rw [h]
    exact Ev.now _
  obtain ⟨k, h⟩ := hE
  exact ⟨k, h k (Nat.le_refl k)⟩
end Go.Proofs.Ythpgpljpadlegaa.Pure
