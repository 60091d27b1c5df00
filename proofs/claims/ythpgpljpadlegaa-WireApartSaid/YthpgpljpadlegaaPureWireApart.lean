/- Unlike questions have unlike bytes, and none is the beginning of the other. -/
import Derived.Test.YthpgpljpadlegaaWire
import Derived.Test.YthpgpljpadlegaaQxf5
namespace Go.Proofs.Ythpgpljpadlegaa.Pure
open Go Go.RowKit Go.Proofs.Ythpgpljpadlegaa.Q Go.Proofs.Ythpgpljpadlegaa.Oct Go.Proofs.Ythpgpljpadlegaa.Plain Go.Proofs.Ythpgpljpadlegaa.Wire Go.Proofs.YthpgpljpadlegaaW.PrintWords Go.Proofs.YthpgpljpadlegaaW.PrintLast Go.Proofs.YthpgpljpadlegaaW.PrintMore
set_option linter.unusedVariables false

theorem prefix_same {x y : List UInt8} (hx : ∀ u v, x ++ u = y ++ v → x = y) : x.take (min x.length y.length) = y.take (min x.length y.length) ↔ x = y := by
  refine ⟨fun h => ?_, fun h => by rw [h]⟩
  by_cases hl : x.length ≤ y.length
  · rw [Nat.min_eq_left hl, List.take_of_length_le (Nat.le_refl _)] at h
    exact hx (y.drop x.length) [] (by rw [List.append_nil]; conv => lhs; lhs; rw [h]
                                      exact List.take_append_drop _ _)
  · have hl' : y.length ≤ x.length := by omega
    rw [Nat.min_eq_right hl'] at h
    rw [List.take_of_length_le (Nat.le_refl y.length)] at h
    exact hx [] (x.drop y.length) (by rw [List.append_nil]; conv => rhs; lhs; rw [← h]
                                      exact (List.take_append_drop _ _).symm)
def sameB (o : Int) (a b c d : ByteArray) (n m : Int) (o' : Int) (a' b' c' d' : ByteArray) (n' m' : Int) : Bool :=
  (o == o' && (a.toList == a'.toList && (b.toList == b'.toList && (c.toList == c'.toList && (d.toList == d'.toList && (n == n' && (m == m')))))))
theorem sameB_iff (o : Int) (a b c d : ByteArray) (n m : Int) (o' : Int) (a' b' c' d' : ByteArray) (n' m' : Int) :
    sameB o a b c d n m o' a' b' c' d' n' m' = true ↔ o = o' ∧ a.data.toList = a'.data.toList ∧ b.data.toList = b'.data.toList ∧ c.data.toList = c'.data.toList ∧ d.data.toList = d'.data.toList ∧ n = n' ∧ m = m' := by
  simp only [sameB, Bool.and_eq_true, beq_iff_eq, toList_mk]
theorem askL_same {o o' : Int} {a b c d a' b' c' d' : ByteArray} {n m n' m' : Int} (h : RightP o a b c d n m) (h' : RightP o' a' b' c' d' n' m') :
    (askL o a b c d n m = askL o' a' b' c' d' n' m') ↔ sameB o a b c d n m o' a' b' c' d' n' m' = true := by
  rw [sameB_iff]
  refine ⟨fun e => ?_, fun ⟨e1, e2, e3, e4, e5, e6, e7⟩ => ?_⟩
  · obtain ⟨e1, e2, e3, e4, e5, e6, e7, _⟩ := askL_apart h h' (x := []) (y := []) (by rw [e])
    exact ⟨e1, e2, e3, e4, e5, e6, e7⟩
  · rw [askL, askL, e1, e2, e3, e4, e5, e6, e7]
theorem bool_same {p q : Bool} (h : p = true ↔ q = true) : (p == q) = true := by
  cases p <;> cases q <;> simp_all
theorem apart_tells (o : Int) (a b c d : ByteArray) (n m : Int) (o' : Int) (a' b' c' d' : ByteArray) (n' m' : Int) :
    Ev (fun k => mailbaglaw18_WireApart.f k o a b c d n m o' a' b' c' d' n' m') true := by
  unfold mailbaglaw18_WireApart.f
  refine Ev.bind head_tells ?_
  simp only [if_true]
  refine Ev.bind (encode_tells o a b c d n m) ?_
  refine Ev.bind (encode_tells o' a' b' c' d' n' m') ?_
  by_cases h : RightP o a b c d n m
  · by_cases h' : RightP o' a' b' c' d' n' m'
    · simp only [if_pos h, if_pos h', if_true]
      show Ev (fun _ => if (((mkS (askL o a b c d n m)).toList == (mkS (askL o' a' b' c' d' n' m')).toList) == sameB o a b c d n m o' a' b' c' d' n' m') = true then
        (if 0 ≤ mn ((mkS (askL o a b c d n m)).size : Int) ((mkS (askL o' a' b' c' d' n' m')).size : Int) then
          (if mn ((mkS (askL o a b c d n m)).size : Int) ((mkS (askL o' a' b' c' d' n' m')).size : Int) ≤ ((mkS (askL o a b c d n m)).size : Int) then
            (if mn ((mkS (askL o a b c d n m)).size : Int) ((mkS (askL o' a' b' c' d' n' m')).size : Int) ≤ ((mkS (askL o' a' b' c' d' n' m')).size : Int) then
              some ((((mkS (askL o a b c d n m)).extract 0 (mn ((mkS (askL o a b c d n m)).size : Int) ((mkS (askL o' a' b' c' d' n' m')).size : Int)).toNat).toList == ((mkS (askL o' a' b' c' d' n' m')).extract 0 (mn ((mkS (askL o a b c d n m)).size : Int) ((mkS (askL o' a' b' c' d' n' m')).size : Int)).toNat).toList) == sameB o a b c d n m o' a' b' c' d' n' m')
            else none) else none) else none) else some false) true
      have hs := askL_same h h'
      have hp := fun u v (e : askL o a b c d n m ++ u = askL o' a' b' c' d' n' m' ++ v) => show askL o a b c d n m = askL o' a' b' c' d' n' m' from hs.2 ((sameB_iff _ _ _ _ _ _ _ _ _ _ _ _ _ _).2 (by
        obtain ⟨e1, e2, e3, e4, e5, e6, e7, _⟩ := askL_apart h h' e
        exact ⟨e1, e2, e3, e4, e5, e6, e7⟩))
      have hq := prefix_same hp
      generalize askL o a b c d n m = x at *
      generalize askL o' a' b' c' d' n' m' = y at *
      generalize sameB o a b c d n m o' a' b' c' d' n' m' = q at *
      have hmn : mn ((mkS x).size : Int) ((mkS y).size : Int) = ((min x.length y.length : Nat) : Int) := by
        rw [mkS_size, mkS_size]; unfold mn; split <;> omega
      have p0 : (0 : Int) ≤ ((min x.length y.length : Nat) : Int) := by omega
      have p1 : ((min x.length y.length : Nat) : Int) ≤ ((mkS x).size : Int) := by rw [mkS_size]; omega
      have p2 : ((min x.length y.length : Nat) : Int) ≤ ((mkS y).size : Int) := by rw [mkS_size]; omega
      have b1 : (((mkS x).toList == (mkS y).toList) == q) = true := bool_same (by rw [beq_iff_eq, mkS_toList, mkS_toList]; exact hs)
      rw [hmn, if_pos b1, if_pos p0, if_pos p1, if_pos p2, Int.toNat_natCast, mkS_to, mkS_to, mkS_toList, mkS_toList]
      have b2 : ((x.take (min x.length y.length) == y.take (min x.length y.length)) == q) = true := bool_same (by rw [beq_iff_eq]; exact hq.trans hs)
      rw [b2]
      exact Ev.now _
    · have p1 : ¬ (1 : Int) = 0 := by omega
      simp only [if_pos h, if_neg h', if_neg p1, if_true]
      exact Ev.now _
  · have p1 : ¬ (1 : Int) = 0 := by omega
    simp only [if_neg h, if_neg p1]
    exact Ev.now _
end Go.Proofs.Ythpgpljpadlegaa.Pure
