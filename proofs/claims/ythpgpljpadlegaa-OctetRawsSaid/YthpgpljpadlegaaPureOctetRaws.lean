/- Raw bytes are read as they stand, none of fewer than one, and an error of more than there are; for every string and number. -/
import Derived.Test.YthpgpljpadlegaaOctMore
import Derived.Test.YthpgpljpadlegaaQxf6
namespace Go.Proofs.Ythpgpljpadlegaa.Pure
open Go Go.RowKit Go.Proofs.Ythpgpljpadlegaa.Q Go.Proofs.Ythpgpljpadlegaa.Oct Go.Proofs.Ythpgpljpadlegaa.Plain Go.Proofs.YthpgpljpadlegaaW.PrintWords Go.Proofs.YthpgpljpadlegaaW.PrintLast Go.Proofs.YthpgpljpadlegaaW.PrintMore
set_option linter.unusedVariables false

theorem raw_low (l : List UInt8) (n : Int) (h : n < 1) : Ev (fun k => octet_Reader_Raw.f k (mkS l) false n) ((⟨#[]⟩ : ByteArray), mkS l, false) := by
  refine Ev.step (f := fun _ => some ((⟨#[]⟩ : ByteArray), mkS l, false)) (fun k => ?_) (Ev.now _)
  rw [octet_Reader_Raw.f, if_neg (by decide), octet_Reader_Raw.j0, if_pos (by simpa using h)]
theorem raw_high (l : List UInt8) (n : Int) (h1 : 1 ≤ n) (h : (l.length : Int) < n) : Ev (fun k => octet_Reader_Raw.f k (mkS l) false n) ((⟨#[]⟩ : ByteArray), (⟨#[]⟩ : ByteArray), true) := by
  refine Ev.step (f := fun _ => some ((⟨#[]⟩ : ByteArray), (⟨#[]⟩ : ByteArray), true)) (fun k => ?_) (Ev.now _)
  rw [octet_Reader_Raw.f, if_neg (by decide), octet_Reader_Raw.j0, if_neg (by simp; omega), mkS_size, if_pos (by omega)]
  rfl
theorem raw_mid (l : List UInt8) (n : Int) (h1 : 1 ≤ n) (h : n ≤ (l.length : Int)) : Ev (fun k => octet_Reader_Raw.f k (mkS l) false n) (mkS (l.take n.toNat), mkS (l.drop n.toNat), false) := by
  refine Ev.step (f := fun _ => some (mkS (l.take n.toNat), mkS (l.drop n.toNat), false)) (fun k => ?_) (Ev.now _)
  rw [octet_Reader_Raw.f, if_neg (by decide), octet_Reader_Raw.j0, if_neg (by simp; omega), mkS_size, if_neg (by omega), if_pos (by omega), if_pos (by omega), ← mkS_size, mkS_from, mkS_to]
theorem OctetRaws : mailbaglaw01_OctetRaws.Pure := by
  intro s n _ hn
  have hw := wf_i64 hn
  refine Ev.rounds (g := fun k => mailbaglaw01_OctetRaws.f k s n) ?_
  unfold mailbaglaw01_OctetRaws.f
  refine Ev.bind head_tells ?_
  simp only [if_true]
  by_cases h1 : (s.size : Int) > 100
  · simp only [if_pos h1]; exact Ev.now _
  simp only [if_neg h1]
  obtain ⟨l, rfl⟩ : ∃ l, s = mkS l := ⟨s.data.toList, rfl⟩
  rw [mkS_size] at h1
  simp only [octet_Read.f, Option.bind_some, mkS_size]
  by_cases h2 : n < 1
  · refine Ev.bind (raw_low l n h2) ?_
    simp only [if_pos h2]
    have e1 := rerr_tells (some l)
    have e2 := rleft_tells (some l)
    have e : (⟨#[]⟩ : ByteArray).toList = [] := mkS_toList []
    simp only [S, B, Option.isNone_some] at e1 e2
    simp only [e, if_true, e1, Option.bind_some, Bool.false_eq_true, if_false, e2, Option.getD_some]
    refine Ev.congr (f := fun _ => some true) (fun k => ?_) (Ev.now _)
    simp
  simp only [if_neg h2]
  by_cases h3 : n > (l.length : Int)
  · refine Ev.bind (raw_high l n (by omega) (by omega)) ?_
    simp only [if_pos h3]
    have e1 := rerr_tells none
    have e2 := rleft_tells none
    have e : (⟨#[]⟩ : ByteArray).toList = [] := mkS_toList []
    simp only [S, B, Option.isNone_none] at e1 e2
    simp only [e, if_true, e1, Option.bind_some, e2, Option.getD_none]
    refine Ev.congr (f := fun _ => some true) (fun k => ?_) (Ev.now _)
    rfl
  · refine Ev.bind (raw_mid l n (by omega) (by omega)) ?_
    have p1 : (0 : Int) ≤ n := by omega
    have p2 : n ≤ (l.length : Int) := by omega
    have e1 := rleft_tells (some (l.drop n.toNat))
    have e2 := rend_tells (some (l.drop n.toNat))
    have e0 : ((mkS (l.take n.toNat)).toList) = ((mkS l).extract 0 n.toNat).toList := by rw [mkS_to]
    have e3 : wrap64 ((l.length : Int) - n) = (((l.drop n.toNat).length : Nat) : Int) := by rw [wrap64_small (by omega) (by omega), List.length_drop]; omega
    have e4 : (((if some (l.drop n.toNat) = some [] then (0 : Int) else 2) == 0) == (n == (l.length : Int))) = true := by
      by_cases h5 : n = (l.length : Int)
      · have : l.drop n.toNat = [] := List.drop_of_length_le (by omega)
        rw [this, if_pos rfl, h5]; simp
      · have : ¬ some (l.drop n.toNat) = some [] := by
          intro e
          injection e with e
          have := congrArg List.length e
          rw [List.length_drop] at this
          simp at this
          omega
        rw [if_neg this]
        have : (n == (l.length : Int)) = false := beq_eq_false_iff_ne.2 h5
        rw [this]; rfl
    simp only [S, B, Option.isNone_some] at e1 e2
    have e5 : (⟨#[]⟩ : ByteArray).toList = [] := mkS_toList []
    simp only [if_neg h3, if_pos p1, if_pos p2, e0, if_true, e1, Option.bind_some, Option.getD_some, e3, octet_Reader_Raw_nil.f, e5, e2, e4]
    exact Ev.now _
end Go.Proofs.Ythpgpljpadlegaa.Pure
