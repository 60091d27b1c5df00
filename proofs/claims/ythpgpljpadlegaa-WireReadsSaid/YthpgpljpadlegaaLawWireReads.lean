/- By a program of this session, out of the translation as Lean prints it: what the Go code computes, and that it does. -/
import Derived.Test.YthpgpljpadlegaaRows
import Derived.Test.YthpgpljpadlegaaQxf15
import Derived.Test.YthpgpljpadlegaaWireB
import Derived.Test.YthpgpljpadlegaaWireC
import Derived.WalkKit
import Derived.ProofKit
import Derived.OpenShut
import Derived.ShutString
import Derived.ChangeOld
import Derived.Below
import Derived.SizedLaws
namespace Go.Proofs.Ythpgpljpadlegaa.Pure
open Go Go.RowKit Go.Proofs.Ythpgpljpadlegaa.Q Go.Proofs.Ythpgpljpadlegaa.Oct Go.Proofs.Ythpgpljpadlegaa.Plain Go.Proofs.Ythpgpljpadlegaa.Wire Go.Proofs.YthpgpljpadlegaaW.PrintWords Go.Proofs.YthpgpljpadlegaaW.PrintLast Go.Proofs.YthpgpljpadlegaaW.PrintMore
set_option linter.unusedVariables false
set_option linter.unusedSimpArgs false

theorem reads_j0w (s : ByteArray) (hs : s.size ≤ 21000) : Ev (fun k => mailbaglaw18_WireReads.j0 k s) true := by
  have h1 := rreadAnswer_tells s (by omega)
  refine Ev.step (f := fun k => (wire_ReadAnswer.f k s).bind fun bt569 => (if bt569.2.2.2 = 0 then ((wire_Answer_Encode.f k bt569.1 bt569.2.1 bt569.2.2.1).bind fun t576 => (some (t576.toList == s.toList))) else (if bt569.2.2.2 = 2 then ((wire_Answer_Same.f k bt569.1 bt569.2.1 bt569.2.2.1 0 0 ([] : List ByteArray)).bind fun t577 => (some t577)) else (some false)))) (fun k => by rw [mailbaglaw18_WireReads.j0]) ?_
  cases hq : rdAns s.data.toList with
  | none =>
    rw [hq] at h1
    refine Ev.bind h1 ?_
    have p : ¬ (2 : Int) = 0 := by omega
    simp only [if_neg p, if_true]
    exact Ev.bind (same_tells 0 0 [] 0 0 [] (by simp)) (Ev.now _)
  | some q =>
    obtain ⟨e, n, ss⟩ := q
    rw [hq] at h1
    refine Ev.bind h1 ?_
    simp only [if_true]
    obtain ⟨g1, g2, g3⟩ := rdAns_some hq
    have hl : (textsL (ss.map mkS)).length ≤ 21000 := by
      have := congrArg List.length g1
      rw [dlen, ansL] at this
      simp only [List.length_append] at this
      omega
    refine Ev.bind (aencode_tells (e : Int) (n : Int) (ss.map mkS) (by omega) (by omega) (by omega)) ?_
    rw [mkS_toList, ← g1, toList_mk]
    simp only [BEq.rfl]
    exact Ev.now _
theorem nil_toList : ((⟨#[]⟩ : ByteArray).toList == ([] : List UInt8)) = true := by rw [toList_mk]; rfl
theorem WireReads : mailbaglaw18_WireReads.Pure := by
  intro s w0
  have hE : Ev (fun k => mailbaglaw18_WireReads.f k s) true := by
    unfold mailbaglaw18_WireReads.f
    refine Ev.bind head_tells ?_
    simp only [if_true]
    by_cases hbig : (s.size : Int) > 21000
    · simp only [if_pos hbig]; exact Ev.now _
    · simp only [if_neg hbig]
      have hj := reads_j0w s (by omega)
      by_cases hl : (s.size : Int) > 20000
      · refine Ev.bind (readAsk_long_tells s hl) ?_
        have p0 : ¬ (4 : Int) = 0 := by omega
        have p2 : ¬ (4 : Int) = 2 := by omega
        have p3 : ((4 : Int) == 4) = true := rfl
        have p4 : (true != decide ((s.size : Int) > 20000)) = false := by rw [decide_eq_true hl]; rfl
        have p5 : ((0 : Int) == 0) = true := rfl
        simp only [noAsk, if_neg p0, if_neg p2, p3, p4, p5, nil_toList, Bool.not_true, Bool.or_self, Bool.false_eq_true, if_false, if_true]
        exact hj
      · refine Ev.bind (readAsk_tells s hl) ?_
        rcases askOut_cases s.data.toList with h1 | ⟨o, a, b, c, d, n, m, h1, hr, hL⟩
        · rw [h1]
          have p0 : ¬ (2 : Int) = 0 := by omega
          have p3 : ((2 : Int) == 4) = false := rfl
          have p4 : (false != decide ((s.size : Int) > 20000)) = false := by rw [decide_eq_false hl]; rfl
          have p5 : ((0 : Int) == 0) = true := rfl
          simp only [noAsk, if_neg p0, p3, p4, p5, nil_toList, Bool.not_true, Bool.or_self, Bool.false_eq_true, if_false, if_true]
          exact hj
        · rw [h1]
          simp only [if_true]
          have he := encode_tells o a b c d n m
          rw [if_pos hr, ← hL] at he
          refine Ev.bind he ?_
          simp only [mkS_of, if_true, right_tells, decide_eq_true hr, Option.bind_some]
          exact hj
  obtain ⟨k, h⟩ := hE
  exact ⟨k, h k (Nat.le_refl k)⟩
end Go.Proofs.Ythpgpljpadlegaa.Pure
namespace Go.Proofs.Ythpgpljpadlegaa.wireReads
open Go.ChangeShapes Go.WideShapes Go.ChangeAt Go.RowKit
open Go.ChangeMaps (open_string shut_string)
set_option linter.unusedVariables false
theorem own : ownKnob Try.prog.godebug = none := by kernel_rfl
set_option maxRecDepth 100000 in
theorem lifted (os : Os) (started : os.Started) (H : Type) (enc : TypeId × Value → H) :
    ReturnsInHanded {} Try.checked os 15 .any (Rows.wireReadsSpec.pre6 enc Try.prog Try.f15 Rows.wireReadsRow.domain false) (Rows.wireReadsSpec.post enc Try.prog Try.f15 false true false false) := by
  refine returnsInHanded_of_change_sized (C := Try.checked) own started (by kernel_rfl) Try.func15
    (ChangeSpec.witness6 (enc := enc) (C := Try.checked) false ⟨#[], #[.string ByteArray.empty], []⟩ 8 (by kernel_rfl) (by kernel_rfl) (by kernel_rfl) (by kernel_rfl)) ?_
  intro W base args ds gs before hval0 hW hcnd hsz0 _
  have hsz : (DataW.weightsEach Try.prog (Try.f15.params.toList ++ Rows.wireReadsSpec.plain.varTypes Try.prog) (ds ++ gs)).all (· ≤ reachBytes) = true := hsz0
  have hval : ∀ (j : Nat) t v, Try.f15.params[j]? = some t → args[j]? = some v → Value.okWide Try.prog W .any base t v := hval0
  have hW' := hW
  obtain ⟨p, q, hA0, hV, rfl, hfz, hnd⟩ := hW
  have hA : DataW.TrodAll enc Try.prog W 0 (fun _ => true) true Try.f15.params.toList args.toList ds p := hA0
  rw [Try.params15] at hA hval hsz
  obtain ⟨v0, vs0, d0, ds0, p0, q0, hargs, rfl, rfl, h0, r0⟩ := trodAll_cons hA
  obtain ⟨rfl, rfl, rfl⟩ := trodAll_nil r0
  obtain rfl : args = #[v0] := by cases args; simp_all
  obtain ⟨rfl, rfl⟩ := trodVars_none hV
  obtain ⟨a0, rfl, rfl, rfl, y0⟩ := open_string Try.underlying9 (hval 0 9 v0 rfl rfl) h0
  have w0 : a0.size ≤ 140737488351232 := by
    have z := sized_string hsz (j := 0) (t := 9) rfl rfl
    rw [Array.length_toList] at z
    exact z
  clear hA0 hval0 hsz0 hsz
  refine (Q.mailbaglaw18_WireReads.walk Pure.WireReads a0 W w0).mono fun e W' ⟨he, bel⟩ => ?_
  subst he
  exact ⟨_, rfl, _, _, _, [], _, [], hW', trodAll_mk1 (shut_bool Try.underlying4 _), (trodAll_cons_mk (shut_string Try.underlying9 y0) trodAll_mk0), rfl, bel.frame _, fun h => by cases h⟩
theorem over : Rows.wireReadsRow.holds Try.pinned (OpenSpec.ofChange Rows.wireReadsSpec) :=
  OpenClaim.holds_of_wide 15 Try.f15 rfl rfl rfl rfl rfl rfl rfl ⟨rfl, rfl, rfl, rfl, rfl⟩ rfl rfl rfl rfl rfl (by kernel_rfl) Try.func15 (by kernel_rfl)
    (of_decide_eq_true (by kernel_rfl)) (by unfold Func.isWrapper; first | (rw [if_pos (by decide +kernel)]; kernel_rfl) | (rw [if_neg (by decide +kernel)]; exact ⟨rfl, rfl⟩))
    (fun os started H enc _ => lifted os started H enc)
theorem proved : Rows.WireReadsSaid := over
#print axioms proved
end Go.Proofs.Ythpgpljpadlegaa.wireReads
namespace Go.Proofs.Ythpgpljpadlegaa
/-- The row, under a short name, for the claim. -/
theorem wireReads_holds : Rows.WireReadsSaid := wireReads.proved
end Go.Proofs.Ythpgpljpadlegaa
