/- A greater number's encoding is no shorter, and stands behind a lesser one's of as many bytes; for every two numbers. -/
import Derived.Test.YthpgpljpadlegaaOctMore
import Derived.Test.YthpgpljpadlegaaQxf3
namespace Go.Proofs.Ythpgpljpadlegaa.Pure
open Go Go.RowKit Go.Proofs.Ythpgpljpadlegaa.Q Go.Proofs.Ythpgpljpadlegaa.Oct Go.Proofs.Ythpgpljpadlegaa.Plain Go.Proofs.YthpgpljpadlegaaW.PrintWords Go.Proofs.YthpgpljpadlegaaW.PrintLast Go.Proofs.YthpgpljpadlegaaW.PrintMore
set_option linter.unusedVariables false

theorem grows_main (A B : Int) (hA : 0 ≤ A) (hA2 : A < 4611686018427387904) (hB : 0 ≤ B) (hB2 : B < 4611686018427387904) :
    Ev (fun k => (mailbaglaw01_head.f k).bind fun t110 => (if t110 = true then ((octet_Num.f k ([] : List Int) (mn A B)).bind fun t111 => ((octet_Num.f k ([] : List Int) (mx A B)).bind fun t114 => (if ((strOfNums t111).size : Int) ≤ ((strOfNums t114).size : Int) then (if ((Op.bytesLess ((strOfNums t114).toList) ((strOfNums t111).toList)) = true) then (some false) else (some (((strOfNums t111).toList == (strOfNums t114).toList) == (A == B)))) else (some false)))) else (some false))) true := by
  have hmn : 0 ≤ mn A B ∧ mn A B < 4611686018427387904 ∧ mn A B ≤ mx A B ∧ 0 ≤ mx A B ∧ mx A B < 4611686018427387904 ∧ (mn A B = mx A B ↔ A = B) := by unfold mn mx; split <;> split <;> omega
  obtain ⟨h1, h2, h3, h4, h5, h6⟩ := hmn
  generalize mn A B = m at *
  generalize mx A B = n at *
  refine Ev.bind head_tells ?_
  simp only [if_true]
  refine Ev.bind (num_tells [] m (by omega) (by simp)) ?_
  refine Ev.bind (num_tells [] n (by omega) (by simp)) ?_
  simp only [List.nil_append, str_nums, mkS_toList, mkS_size]
  have hle : (enc m.toNat).length ≤ (enc n.toNat).length := by
    have := be_mono (m := m.toNat) (n := n.toNat) (by omega)
    simp only [enc, List.length_cons]; omega
  have hless := less_enc (m := m.toNat) (n := n.toNat) (by omega) (by omega)
  have heq : (enc m.toNat == enc n.toNat) = (A == B) := by
    rw [Bool.eq_iff_iff]
    simp only [beq_iff_eq]
    constructor
    · intro h
      have := enc_inj (by omega) (by omega) h
      exact h6.1 (by omega)
    · intro h
      rw [h6.2 h]
  simp only [if_pos (show ((enc m.toNat).length : Int) ≤ ((enc n.toNat).length : Int) by omega), hless, Bool.false_eq_true, if_false, heq, beq_self_eq_true]
  exact Ev.now _
theorem OctetGrows : mailbaglaw01_OctetGrows.Pure := by
  intro a b _ _
  have h1 := mask_le a 4611686018427387903 (by omega) (by omega)
  have h2 := mask_le b 4611686018427387903 (by omega) (by omega)
  have h := grows_main (Go.bits .and .i64 a 4611686018427387903) (Go.bits .and .i64 b 4611686018427387903) h1.1 (by have := h1.2; omega) h2.1 (by have := h2.2; omega)
  exact h.rounds
end Go.Proofs.Ythpgpljpadlegaa.Pure
