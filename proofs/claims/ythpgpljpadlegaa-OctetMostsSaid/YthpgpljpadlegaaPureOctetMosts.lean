/- Numbers and texts are read up to the limit that is given, and no further; behind an error there is nothing; for every input. -/
import Derived.Test.YthpgpljpadlegaaOctMore
import Derived.Test.YthpgpljpadlegaaQxf10
namespace Go.Proofs.Ythpgpljpadlegaa.Pure
open Go Go.RowKit Go.Proofs.Ythpgpljpadlegaa.Q Go.Proofs.Ythpgpljpadlegaa.Oct Go.Proofs.Ythpgpljpadlegaa.Plain Go.Proofs.YthpgpljpadlegaaW.PrintWords Go.Proofs.YthpgpljpadlegaaW.PrintLast Go.Proofs.YthpgpljpadlegaaW.PrintMore
set_option linter.unusedVariables false

theorem mosts_ok : Ev (fun k => mailbaglaw01_OctetMosts.j1 k true (S (some (encF true))) (B (some (encF true)))) true := by
  refine Ev.step (f := fun _ => some true) (fun k => ?_) (Ev.now _)
  rw [mailbaglaw01_OctetMosts.j1, if_pos rfl, rerr_tells]
  simp only [Option.bind_some, rend_tells, rleft_tells, rflag_tells]
  rfl
theorem mosts_not : Ev (fun k => mailbaglaw01_OctetMosts.j1 k false (S none) (B none)) true := by
  have h1 := rnum_tells none 9 (by omega)
  have h2 := rtext_tells none 9 (by omega)
  refine Ev.step (f := fun k => (octet_Reader_Num.f k (S none) (B none) 9).bind fun bt340 => (if bt340.1 = 0 then ((octet_Reader_Text.f k bt340.2.1 bt340.2.2 9).bind fun bt343 => (some (bt343.1.toList == ([] : List UInt8)))) else (some false))) (fun k => ?_) ?_
  · rw [mailbaglaw01_OctetMosts.j1, if_neg (by decide), rerr_tells]
    simp only [Option.bind_some, rend_tells, rleft_tells, rflag_tells]
    rfl
  · refine Ev.bind h1 ?_
    show Ev (fun k => (octet_Reader_Text.f k (S none) (B none) 9).bind fun bt343 => (some (bt343.1.toList == ([] : List UInt8)))) true
    refine Ev.bind h2 ?_
    refine Ev.congr (f := fun _ => some true) (fun k => ?_) (Ev.now _)
    have e : (mkS (got [] (none : Option (List UInt8 × List UInt8)))).toList = [] := mkS_toList []
    show some ((mkS (got [] (none : Option (List UInt8 × List UInt8)))).toList == ([] : List UInt8)) = _
    rw [e]
    rfl
theorem mosts_tail (ok : Bool) (st : Option (List UInt8)) (h : st = if ok then some (encF true) else none) : Ev (fun k => mailbaglaw01_OctetMosts.j1 k ok (S st) (B st)) true := by
  subst h
  cases ok
  · exact mosts_not
  · exact mosts_ok
theorem mosts_text (n most : Int) (s : ByteArray) (hs : s.size ≤ 200) (hm : most < 9223372036854775808) : Ev (fun k => mailbaglaw01_OctetMosts.j0 k n most s true (numsOf (encT s.data.toList)) (s.size : Int)) true := by
  have hl : s.data.toList.length = s.size := dlen s
  have hen := enc_len (n := s.size) (by omega)
  have h1 := rtext_tells (some (encT s.data.toList ++ encF true)) most hm
  simp only [Option.bind_some] at h1
  rw [rdText_enc _ (by omega), hl] at h1
  have hfl := flag_tells (numsOf (encT s.data.toList)) true (by rw [numsOf_length]; simp only [encT, List.length_append]; rw [hl]; omega)
  rw [← numsOf_append] at hfl
  refine Ev.step (f := fun k => (octet_Reader_Text.f k (S (some (encT s.data.toList ++ encF true))) (B (some (encT s.data.toList ++ encF true))) most).bind fun bt322 => (if (s.size : Int) ≤ (mx most 0) then (if bt322.1.toList = s.toList then (mailbaglaw01_OctetMosts.j1 k (decide ((s.size : Int) ≤ (mx most 0))) bt322.2.1 bt322.2.2) else (some false)) else (if bt322.1.toList = ([] : List UInt8) then (mailbaglaw01_OctetMosts.j1 k (decide ((s.size : Int) ≤ (mx most 0))) bt322.2.1 bt322.2.2) else (some false)))) (fun k => ?_) (Ev.bind h1 ?_)
  · rw [mailbaglaw01_OctetMosts.j0, hfl]
    simp only [Option.bind_some, str_nums, octet_Read.f, if_true]
    rfl
  · by_cases h : most.toNat < s.size
    · have p : ¬ (s.size : Int) ≤ mx most 0 := by rw [mx_zero]; omega
      simp only [if_pos h, if_neg p, decide_eq_false p]
      have e : (mkS (got [] (none : Option (List UInt8 × List UInt8)))).toList = [] := mkS_toList []
      simp only [e, if_true]
      exact mosts_tail false _ rfl
    · have p : (s.size : Int) ≤ mx most 0 := by rw [mx_zero]; omega
      simp only [if_neg h, if_pos p, decide_eq_true p]
      have e : (mkS (got [] (some (s.data.toList, encF true)))).toList = s.toList := rfl
      simp only [e, if_true]
      exact mosts_tail true _ rfl
theorem mosts_num (n most : Int) (s : ByteArray) (hn : 0 ≤ n) (hn2 : n ≤ 16777215) (hm : most < 9223372036854775808) : Ev (fun k => mailbaglaw01_OctetMosts.j0 k n most s false (numsOf (enc n.toNat)) n) true := by
  have hen := enc_len (n := n.toNat) (by omega)
  have h1 := rnum_tells (some (enc n.toNat ++ encF true)) most hm
  simp only [Option.bind_some] at h1
  rw [rdNum_enc _ (by omega)] at h1
  have hfl := flag_tells (numsOf (enc n.toNat)) true (by rw [numsOf_length]; omega)
  rw [← numsOf_append] at hfl
  refine Ev.step (f := fun k => (octet_Reader_Num.f k (S (some (enc n.toNat ++ encF true))) (B (some (enc n.toNat ++ encF true))) most).bind fun bt325 => (if n ≤ (mx most 0) then (if bt325.1 = n then (mailbaglaw01_OctetMosts.j1 k (decide (n ≤ (mx most 0))) bt325.2.1 bt325.2.2) else (some false)) else (if bt325.1 = 0 then (mailbaglaw01_OctetMosts.j1 k (decide (n ≤ (mx most 0))) bt325.2.1 bt325.2.2) else (some false)))) (fun k => ?_) (Ev.bind h1 ?_)
  · rw [mailbaglaw01_OctetMosts.j0, hfl]
    simp only [Option.bind_some, str_nums, octet_Read.f, Bool.false_eq_true, if_false]
    rfl
  · by_cases h : most.toNat < n.toNat
    · have p : ¬ n ≤ mx most 0 := by rw [mx_zero]; omega
      simp only [if_pos h, if_neg p, decide_eq_false p]
      have e : ((got 0 (none : Option (Nat × List UInt8)) : Nat) : Int) = 0 := rfl
      simp only [e, if_true]
      exact mosts_tail false _ rfl
    · have p : n ≤ mx most 0 := by rw [mx_zero]; omega
      simp only [if_neg h, if_pos p, decide_eq_true p]
      have e : ((got 0 (some (n.toNat, encF true)) : Nat) : Int) = n := by show ((n.toNat : Nat) : Int) = n; omega
      simp only [e, if_true]
      exact mosts_tail true _ rfl
theorem OctetMosts : mailbaglaw01_OctetMosts.Pure := by
  intro a0 most s text _ hm _
  have hw := wf_i64 hm
  have hn := mask_le a0 16777215 (by omega) (by omega)
  generalize hb : Go.bits .and .i64 a0 16777215 = n at hn
  refine Ev.rounds (g := fun k => mailbaglaw01_OctetMosts.f k a0 most s text) ?_
  unfold mailbaglaw01_OctetMosts.f
  rw [hb]
  refine Ev.bind head_tells ?_
  simp only [if_true]
  by_cases h1 : (s.size : Int) > 200
  · simp only [if_pos h1]; exact Ev.now _
  simp only [if_neg h1]
  refine Ev.bind (num_tells [] n (by omega) (by simp)) ?_
  rw [List.nil_append]
  cases text
  · simp only [Bool.false_eq_true, if_false]
    exact mosts_num n most s hn.1 hn.2 (by omega)
  · simp only [if_true]
    refine Ev.bind (text_tells [] s (by simp; omega)) ?_
    rw [List.nil_append]
    exact mosts_text n most s (by omega) (by omega)
end Go.Proofs.Ythpgpljpadlegaa.Pure
