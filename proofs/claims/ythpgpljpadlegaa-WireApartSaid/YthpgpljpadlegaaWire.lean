/- What wire's functions compute, in the words of the plain encoding. -/
import Derived.Test.YthpgpljpadlegaaOctMore
import Derived.Test.YthpgpljpadlegaaQxf18
import Derived.Test.YthpgpljpadlegaaQxf33
namespace Go.Proofs.Ythpgpljpadlegaa.Wire
open Go Go.RowKit Go.Proofs.Ythpgpljpadlegaa.Q Go.Proofs.Ythpgpljpadlegaa.Oct Go.Proofs.Ythpgpljpadlegaa.Plain Go.Proofs.YthpgpljpadlegaaW.PrintWords Go.Proofs.YthpgpljpadlegaaW.PrintLast Go.Proofs.YthpgpljpadlegaaW.PrintMore
set_option linter.unusedVariables false

theorem encT_apart {s t x y : List UInt8} (hs : s.length < 18446744073709551616) (ht : t.length < 18446744073709551616) (h : encT s ++ x = encT t ++ y) : s = t ∧ x = y := by
  have h1 := rdText_enc (most := max s.length t.length) x hs
  have h2 := rdText_enc (most := max s.length t.length) y ht
  rw [h, h2, if_neg (by omega), if_neg (by omega)] at h1
  injection h1 with h1
  injection h1 with e1 e2
  exact ⟨e1.symm, e2.symm⟩
def RightP (o : Int) (a b c d : ByteArray) (n m : Int) : Prop :=
  1 ≤ o ∧ o ≤ 19 ∧ 0 ≤ n ∧ n ≤ 1099511627776 ∧ 0 ≤ m ∧ m ≤ 1099511627776 ∧ a.size ≤ 4096 ∧ b.size ≤ 4096 ∧ c.size ≤ 4096 ∧ d.size ≤ 4096
instance (o : Int) (a b c d : ByteArray) (n m : Int) : Decidable (RightP o a b c d n m) := by unfold RightP; infer_instance
theorem anyLong4 (a b c d : ByteArray) : anyLong [a, b, c, d] = !decide (a.size ≤ 4096 ∧ b.size ≤ 4096 ∧ c.size ≤ 4096 ∧ d.size ≤ 4096) := by
  by_cases h : a.size ≤ 4096 ∧ b.size ≤ 4096 ∧ c.size ≤ 4096 ∧ d.size ≤ 4096
  · rw [decide_eq_true h]
    obtain ⟨h1, h2, h3, h4⟩ := h
    simp [anyLong]; omega
  · rw [decide_eq_false h]
    simp only [anyLong, List.any_cons, List.any_nil, Bool.or_false, Bool.not_false, Bool.or_eq_true, decide_eq_true_eq]
    omega
theorem right_tells (o : Int) (a b c d : ByteArray) (n m : Int) : wire_Ask_Right.f o a b c d n m = some (decide (RightP o a b c d n m)) := by
  unfold wire_Ask_Right.f slices_ContainsFunc_long.f
  rw [anyLong4]
  simp only [Option.bind_some, Bool.not_not]
  by_cases h : RightP o a b c d n m
  · rw [decide_eq_true h]
    obtain ⟨h1, h2, h3, h4, h5, h6, h7⟩ := h
    rw [if_pos h1, if_pos h2, if_pos h3, if_pos h4, if_pos h5, if_pos h6, decide_eq_true h7]
  · rw [decide_eq_false h]
    by_cases h1 : o ≥ 1
    · rw [if_pos h1]
      by_cases h2 : o ≤ 19
      · rw [if_pos h2]
        by_cases h3 : n ≥ 0
        · rw [if_pos h3]
          by_cases h4 : n ≤ 1099511627776
          · rw [if_pos h4]
            by_cases h5 : m ≥ 0
            · rw [if_pos h5]
              by_cases h6 : m ≤ 1099511627776
              · rw [if_pos h6, decide_eq_false (fun h7 => h ⟨h1, h2, h3, h4, h5, h6, h7⟩)]
              · rw [if_neg h6]
            · rw [if_neg h5]
          · rw [if_neg h4]
        · rw [if_neg h3]
      · rw [if_neg h2]
    · rw [if_neg h1]
/-- law's own right says the same. -/
theorem lawright_tells (o : Int) (a b c d : ByteArray) (n m : Int) : Ev (fun k => mailbaglaw18_right.f k o a b c d n m) (decide (RightP o a b c d n m)) := by
  have hfin : ∀ h7 : a.size ≤ 4096 ∧ b.size ≤ 4096 ∧ c.size ≤ 4096 ∧ d.size ≤ 4096, ∀ k, mailbaglaw18_right.l0 (k + 1) [a, b, c, d] 4 4 o a b c d n m = some (decide (RightP o a b c d n m)) := by
    intro h7 k
    rw [mailbaglaw18_right.l0, if_neg (by omega)]
    by_cases h : RightP o a b c d n m
    · rw [decide_eq_true h]
      obtain ⟨h1, h2, h3, h4, h5, h6, h7⟩ := h
      rw [if_pos h1, if_pos h2, if_pos h3, if_pos h4, if_pos h5, decide_eq_true h6]
    · rw [decide_eq_false h]
      by_cases h1 : o ≥ 1
      · rw [if_pos h1]
        by_cases h2 : o ≤ 19
        · rw [if_pos h2]
          by_cases h3 : n ≥ 0
          · rw [if_pos h3]
            by_cases h4 : n ≤ 1099511627776
            · rw [if_pos h4]
              by_cases h5 : m ≥ 0
              · rw [if_pos h5, decide_eq_false (fun h6 => h ⟨h1, h2, h3, h4, h5, h6, h7⟩)]
              · rw [if_neg h5]
            · rw [if_neg h4]
          · rw [if_neg h3]
        · rw [if_neg h2]
      · rw [if_neg h1]
  have e0 : rdOf ByteArray.empty [a, b, c, d] 0 = a := rfl
  have e1 : rdOf ByteArray.empty [a, b, c, d] 1 = b := rfl
  have e2 : rdOf ByteArray.empty [a, b, c, d] 2 = c := rfl
  have e3 : rdOf ByteArray.empty [a, b, c, d] 3 = d := rfl
  have w0 : wrap64 (0 + 1) = 1 := by decide +kernel
  have w1 : wrap64 (1 + 1) = 2 := by decide +kernel
  have w2 : wrap64 (2 + 1) = 3 := by decide +kernel
  have w3 : wrap64 (3 + 1) = 4 := by decide +kernel
  have hl : (([a, b, c, d] : List ByteArray).length : Int) = 4 := rfl
  have no : ∀ h : ¬ (a.size ≤ 4096 ∧ b.size ≤ 4096 ∧ c.size ≤ 4096 ∧ d.size ≤ 4096), decide (RightP o a b c d n m) = false := fun h => decide_eq_false fun ⟨_, _, _, _, _, _, h7⟩ => h h7
  refine Ev.congr (f := fun k => mailbaglaw18_right.l0 k [a, b, c, d] 4 0 o a b c d n m) (fun k => rfl) ?_
  by_cases h0 : a.size ≤ 4096
  · refine Ev.step (f := fun k => mailbaglaw18_right.l0 k [a, b, c, d] 4 1 o a b c d n m) (fun k => by rw [mailbaglaw18_right.l0, if_pos (by omega), if_pos (by omega), if_pos (by rw [hl]; omega), e0, if_neg (by omega), w0]) ?_
    by_cases h1 : b.size ≤ 4096
    · refine Ev.step (f := fun k => mailbaglaw18_right.l0 k [a, b, c, d] 4 2 o a b c d n m) (fun k => by rw [mailbaglaw18_right.l0, if_pos (by omega), if_pos (by omega), if_pos (by rw [hl]; omega), e1, if_neg (by omega), w1]) ?_
      by_cases h2 : c.size ≤ 4096
      · refine Ev.step (f := fun k => mailbaglaw18_right.l0 k [a, b, c, d] 4 3 o a b c d n m) (fun k => by rw [mailbaglaw18_right.l0, if_pos (by omega), if_pos (by omega), if_pos (by rw [hl]; omega), e2, if_neg (by omega), w2]) ?_
        by_cases h3 : d.size ≤ 4096
        · refine Ev.step (f := fun k => mailbaglaw18_right.l0 k [a, b, c, d] 4 4 o a b c d n m) (fun k => by rw [mailbaglaw18_right.l0, if_pos (by omega), if_pos (by omega), if_pos (by rw [hl]; omega), e3, if_neg (by omega), w3]) ?_
          exact Ev.step (f := fun _ => some (decide (RightP o a b c d n m))) (hfin ⟨h0, h1, h2, h3⟩) (Ev.now _)
        · rw [no (fun h => h3 h.2.2.2)]
          exact Ev.step (f := fun _ => some false) (fun k => by rw [mailbaglaw18_right.l0, if_pos (by omega), if_pos (by omega), if_pos (by rw [hl]; omega), e3, if_pos (by omega)]) (Ev.now _)
      · rw [no (fun h => h2 h.2.2.1)]
        exact Ev.step (f := fun _ => some false) (fun k => by rw [mailbaglaw18_right.l0, if_pos (by omega), if_pos (by omega), if_pos (by rw [hl]; omega), e2, if_pos (by omega)]) (Ev.now _)
    · rw [no (fun h => h1 h.2.1)]
      exact Ev.step (f := fun _ => some false) (fun k => by rw [mailbaglaw18_right.l0, if_pos (by omega), if_pos (by omega), if_pos (by rw [hl]; omega), e1, if_pos (by omega)]) (Ev.now _)
  · rw [no (fun h => h0 h.1)]
    exact Ev.step (f := fun _ => some false) (fun k => by rw [mailbaglaw18_right.l0, if_pos (by omega), if_pos (by omega), if_pos (by rw [hl]; omega), e0, if_pos (by omega)]) (Ev.now _)

/-- A question as it is laid. -/
def askL (o : Int) (a b c d : ByteArray) (n m : Int) : List UInt8 :=
  enc o.toNat ++ (encT a.data.toList ++ (encT b.data.toList ++ (encT c.data.toList ++ (encT d.data.toList ++ (enc n.toNat ++ enc m.toNat)))))
theorem encT_len {s : List UInt8} (h : s.length < 18446744073709551616) : (encT s).length ≤ 9 + s.length := by
  have := enc_len h
  rw [encT, List.length_append]; omega
theorem encT_pos (s : List UInt8) : 0 < (encT s).length := by
  have := enc_pos s.length
  rw [encT, List.length_append]; omega
theorem askL_len {o : Int} {a b c d : ByteArray} {n m : Int} (h : RightP o a b c d n m) : 0 < (askL o a b c d n m).length ∧ (askL o a b c d n m).length ≤ 16447 := by
  obtain ⟨h1, h2, h3, h4, h5, h6, h7, h8, h9, h10⟩ := h
  have l0 := enc_len (n := o.toNat) (by omega)
  have l1 := encT_len (s := a.data.toList) (by rw [dlen]; omega)
  have l2 := encT_len (s := b.data.toList) (by rw [dlen]; omega)
  have l3 := encT_len (s := c.data.toList) (by rw [dlen]; omega)
  have l4 := encT_len (s := d.data.toList) (by rw [dlen]; omega)
  have l5 := enc_len (n := n.toNat) (by omega)
  have l6 := enc_len (n := m.toNat) (by omega)
  have l7 := enc_pos o.toNat
  rw [dlen] at l1 l2 l3 l4
  rw [askL]
  simp only [List.length_append]
  omega
theorem askL_apart {o o' : Int} {a b c d a' b' c' d' : ByteArray} {n m n' m' : Int} (h : RightP o a b c d n m) (h' : RightP o' a' b' c' d' n' m') {x y : List UInt8}
    (e : askL o a b c d n m ++ x = askL o' a' b' c' d' n' m' ++ y) : o = o' ∧ a.data.toList = a'.data.toList ∧ b.data.toList = b'.data.toList ∧ c.data.toList = c'.data.toList ∧ d.data.toList = d'.data.toList ∧ n = n' ∧ m = m' ∧ x = y := by
  obtain ⟨h1, h2, h3, h4, h5, h6, h7, h8, h9, h10⟩ := h
  obtain ⟨g1, g2, g3, g4, g5, g6, g7, g8, g9, g10⟩ := h'
  simp only [askL, List.append_assoc] at e
  obtain ⟨e1, e⟩ := enc_apart (by omega) (by omega) e
  obtain ⟨e2, e⟩ := encT_apart (by rw [dlen]; omega) (by rw [dlen]; omega) e
  obtain ⟨e3, e⟩ := encT_apart (by rw [dlen]; omega) (by rw [dlen]; omega) e
  obtain ⟨e4, e⟩ := encT_apart (by rw [dlen]; omega) (by rw [dlen]; omega) e
  obtain ⟨e5, e⟩ := encT_apart (by rw [dlen]; omega) (by rw [dlen]; omega) e
  obtain ⟨e6, e⟩ := enc_apart (by omega) (by omega) e
  obtain ⟨e7, e⟩ := enc_apart (by omega) (by omega) e
  exact ⟨by omega, e2, e3, e4, e5, by omega, by omega, e⟩
theorem encode_tells (o : Int) (a b c d : ByteArray) (n m : Int) :
    Ev (fun k => wire_Ask_Encode.f k o a b c d n m) (if RightP o a b c d n m then (mkS (askL o a b c d n m), (0 : Int)) else ((⟨#[]⟩ : ByteArray), (1 : Int))) := by
  unfold wire_Ask_Encode.f
  rw [right_tells]
  simp only [Option.bind_some]
  by_cases h : RightP o a b c d n m
  · rw [if_pos h, decide_eq_true h]
    simp only [if_true]
    obtain ⟨h1, h2, h3, h4, h5, h6, h7, h8, h9, h10⟩ := h
    have l0 := enc_len (n := o.toNat) (by omega)
    have l1 := encT_len (s := a.data.toList) (by rw [dlen]; omega)
    have l2 := encT_len (s := b.data.toList) (by rw [dlen]; omega)
    have l3 := encT_len (s := c.data.toList) (by rw [dlen]; omega)
    have l4 := encT_len (s := d.data.toList) (by rw [dlen]; omega)
    have l5 := enc_len (n := n.toNat) (by omega)
    rw [dlen] at l1 l2 l3 l4
    have e0 : rdOf ByteArray.empty [a, b, c, d] 0 = a := rfl
    have e1 : rdOf ByteArray.empty [a, b, c, d] 1 = b := rfl
    have e2 : rdOf ByteArray.empty [a, b, c, d] 2 = c := rfl
    have e3 : rdOf ByteArray.empty [a, b, c, d] 3 = d := rfl
    have w0 : wrap64 (0 + 1) = 1 := by decide +kernel
    have w1 : wrap64 (1 + 1) = 2 := by decide +kernel
    have w2 : wrap64 (2 + 1) = 3 := by decide +kernel
    have w3 : wrap64 (3 + 1) = 4 := by decide +kernel
    have hl : (([a, b, c, d] : List ByteArray).length : Int) = 4 := rfl
    refine Ev.bind (num_tells [] o (by omega) (by simp)) ?_
    rw [List.nil_append]
    refine Ev.step (f := fun k => (octet_Text.f k (numsOf (enc o.toNat)) a).bind fun t => wire_Ask_Encode.l0 k t [a, b, c, d] 4 1 o a b c d n m) (fun k => by
      show wire_Ask_Encode.l0 (k + 1) (numsOf (enc o.toNat)) [a, b, c, d] 4 0 o a b c d n m = _
      rw [wire_Ask_Encode.l0, if_pos (by omega), if_pos (by omega), if_pos (by rw [hl]; omega), e0, w0]) ?_
    refine Ev.bind (text_tells _ a (by rw [numsOf_length]; omega)) ?_
    rw [← numsOf_append]
    refine Ev.step (f := fun k => (octet_Text.f k (numsOf (enc o.toNat ++ encT a.data.toList)) b).bind fun t => wire_Ask_Encode.l0 k t [a, b, c, d] 4 2 o a b c d n m) (fun k => by
      rw [wire_Ask_Encode.l0, if_pos (by omega), if_pos (by omega), if_pos (by rw [hl]; omega), e1, w1]) ?_
    refine Ev.bind (text_tells _ b (by rw [numsOf_length, List.length_append]; omega)) ?_
    rw [← numsOf_append]
    refine Ev.step (f := fun k => (octet_Text.f k (numsOf (enc o.toNat ++ encT a.data.toList ++ encT b.data.toList)) c).bind fun t => wire_Ask_Encode.l0 k t [a, b, c, d] 4 3 o a b c d n m) (fun k => by
      rw [wire_Ask_Encode.l0, if_pos (by omega), if_pos (by omega), if_pos (by rw [hl]; omega), e2, w2]) ?_
    refine Ev.bind (text_tells _ c (by rw [numsOf_length, List.length_append, List.length_append]; omega)) ?_
    rw [← numsOf_append]
    refine Ev.step (f := fun k => (octet_Text.f k (numsOf (enc o.toNat ++ encT a.data.toList ++ encT b.data.toList ++ encT c.data.toList)) d).bind fun t => wire_Ask_Encode.l0 k t [a, b, c, d] 4 4 o a b c d n m) (fun k => by
      rw [wire_Ask_Encode.l0, if_pos (by omega), if_pos (by omega), if_pos (by rw [hl]; omega), e3, w3]) ?_
    refine Ev.bind (text_tells _ d (by rw [numsOf_length, List.length_append, List.length_append, List.length_append]; omega)) ?_
    rw [← numsOf_append]
    have hL : (enc o.toNat ++ encT a.data.toList ++ encT b.data.toList ++ encT c.data.toList ++ encT d.data.toList).length ≤ 16429 := by simp only [List.length_append]; omega
    have hA : askL o a b c d n m = enc o.toNat ++ encT a.data.toList ++ encT b.data.toList ++ encT c.data.toList ++ encT d.data.toList ++ enc n.toNat ++ enc m.toNat := by simp [askL]
    rw [hA]
    clear hA
    generalize enc o.toNat ++ encT a.data.toList ++ encT b.data.toList ++ encT c.data.toList ++ encT d.data.toList = L at hL
    refine Ev.step (f := fun k => (octet_Num.f k (numsOf L) n).bind fun t388 => ((octet_Num.f k t388 m).bind fun t391 => (some (strOfNums t391, 0)))) (fun k => by
      rw [wire_Ask_Encode.l0, if_neg (by omega)]) ?_
    refine Ev.bind (num_tells _ n (by omega) (by rw [numsOf_length]; omega)) ?_
    rw [← numsOf_append]
    refine Ev.bind (num_tells _ m (by omega) (by rw [numsOf_length, List.length_append]; omega)) ?_
    rw [← numsOf_append, str_nums]
    exact Ev.now _
  · rw [if_neg h, decide_eq_false h]
    simp only [Bool.false_eq_true, if_false]
    exact Ev.now _
theorem enc_0 : enc 0 = [0] := by rw [enc, be_zero]; rfl
theorem enc_1 : enc 1 = [1, 1] := by
  have h : be 1 = [1] := be_val (l := [1]) (by simp)
  rw [enc, h]; rfl
theorem head_tells : Ev (fun k => mailbaglaw18_head.f k) true := by
  have h := encode_tells 1 (⟨#[]⟩ : ByteArray) (⟨#[]⟩ : ByteArray) (⟨#[]⟩ : ByteArray) (⟨#[]⟩ : ByteArray) 0 0
  rw [if_pos (by decide)] at h
  unfold mailbaglaw18_head.f
  refine Ev.bind h ?_
  have e : askL 1 (⟨#[]⟩ : ByteArray) (⟨#[]⟩ : ByteArray) (⟨#[]⟩ : ByteArray) (⟨#[]⟩ : ByteArray) 0 0 = [1, 1, 0, 0, 0, 0, 0, 0] := by
    have ee : encT (⟨#[]⟩ : ByteArray).data.toList = [0] := by show enc 0 ++ [] = [0]; rw [enc_0]; rfl
    rw [askL, ee]
    show enc 1 ++ ([0] ++ ([0] ++ ([0] ++ ([0] ++ (enc 0 ++ enc 0))))) = _
    rw [enc_0, enc_1]
    rfl
  rw [e]
  simp only [if_true, mkS_toList]
  exact Ev.now _
end Go.Proofs.Ythpgpljpadlegaa.Wire
