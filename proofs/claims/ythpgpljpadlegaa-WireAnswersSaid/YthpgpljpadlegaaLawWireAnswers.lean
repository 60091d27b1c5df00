/- WireAnswers' row: for every input the law returns true; each argument reads behind the call as it read before. -/
import Derived.Test.YthpgpljpadlegaaRows
import Derived.Test.YthpgpljpadlegaaQxf13
import Derived.Test.YthpgpljpadlegaaWireB
import Derived.Test.YthpgpljpadlegaaAsks
import Derived.WalkKit
import Derived.ProofKit
import Derived.OpenShut
import Derived.ShutString
import Derived.ChangeOld
import Derived.Below
import Derived.SizedLaws
import Derived.Test.YthpgpljpadlegaaWSized
namespace Go.Proofs.Ythpgpljpadlegaa.Pure
open Go Go.RowKit Go.Proofs.Ythpgpljpadlegaa.Q Go.Proofs.Ythpgpljpadlegaa.Oct Go.Proofs.Ythpgpljpadlegaa.Plain Go.Proofs.Ythpgpljpadlegaa.Wire Go.Proofs.YthpgpljpadlegaaW.PrintWords Go.Proofs.YthpgpljpadlegaaW.PrintLast Go.Proofs.YthpgpljpadlegaaW.PrintMore
set_option linter.unusedVariables false

theorem textsL_bound (l : List ByteArray) (h : ∀ s ∈ l, s.size ≤ 500) : (textsL l).length ≤ 509 * l.length := by
  induction l with
  | nil => simp [textsL_nil]
  | cons s l ih =>
    have h1 := h s (by simp)
    have h2 := ih (fun x hx => h x (by simp [hx]))
    have h3 := encT_len (s := s.data.toList) (by rw [dlen]; omega)
    rw [dlen] at h3
    rw [textsL_cons, List.length_append, List.length_cons]
    omega
theorem answers_facts (e0 n0 : Int) (l0 : List ByteArray) (e1 n1 : Int) (l1 : List ByteArray) (h0 : ¬ (60 : Int) < (l0.length : Int)) (h2 : ¬ e0 < 0) (h3 : ¬ 1000 < e0) (h4 : ¬ n0 < 0) (h5 : ¬ 1099511627776 < n0) :
    ∃ (k : Nat) (S : ByteArray), mailbaglaw18_head.f k = some true ∧ ((∀ s ∈ l0, s.size ≤ 500) → wire_Answer_Encode.f k e0 n0 l0 = some S ∧ wire_ReadAnswer.f k S = some (e0, n0, l0, 0) ∧ wire_Answer_Same.f k e0 n0 l0 e0 n0 l0 = some true ∧
      wire_Answer_Same.f k e0 n0 l0 e1 n1 l1 = some (decide (e0 = e1 ∧ n0 = n1 ∧ l0 = l1))) := by
  obtain ⟨k0, H0⟩ := Wire.head_tells
  by_cases hall : ∀ s ∈ l0, s.size ≤ 500
  · have hb := textsL_bound l0 hall
    obtain ⟨k1, H1⟩ := aencode_tells e0 n0 l0 (by omega) (by omega) (by omega)
    obtain ⟨k2, H2⟩ := readAnswer_enc (e := e0) (n := n0) (l := l0) (by omega) (by omega) (by omega) (by omega) (by omega)
    obtain ⟨k3, H3⟩ := same_tells e0 n0 l0 e0 n0 l0 (by omega)
    obtain ⟨k4, H4⟩ := same_tells e0 n0 l0 e1 n1 l1 (by omega)
    refine ⟨k0 + k1 + k2 + k3 + k4, mkS (ansL e0 n0 l0), H0 _ (by omega), fun _ => ⟨H1 _ (by omega), H2 _ (by omega), ?_, H4 _ (by omega)⟩⟩
    exact (H3 _ (by omega)).trans (by rw [decide_eq_true ⟨rfl, rfl, rfl⟩])
  · exact ⟨k0, ⟨#[]⟩, H0 _ (Nat.le_refl _), fun h => absurd h hall⟩
theorem answers (e0 n0 : Int) (A0 : Option Addr) (c0 : Nat) (l0 : List ByteArray) (e1 n1 : Int) (A1 : Option Addr) (c1 : Nat) (l1 : List ByteArray) (w : World) (hr0 : Kd.C Kd.string w A0 l0.length l0) (hc0 : l0.length ≤ c0) (hr1 : Kd.C Kd.string w A1 l1.length l1) (hc1 : l1.length ≤ c1) :
    Calls Try.prog 13 #[.agg #[.int .i64 e0, .int .i64 n0, .slice A0 l0.length c0], .agg #[.int .i64 e1, .int .i64 n1, .slice A1 l1.length c1]] w fun e w' => e = .returned (.bool true) ∧ Below w.heap.size w w' := by
  obtain ⟨k0, H0⟩ := Wire.head_tells
  have F0 := H0 k0 (Nat.le_refl _)
  by_cases h0 : (60 : Int) < (l0.length : Int)
  · exact answers_early0 e0 n0 A0 c0 l0 e1 n1 A1 c1 l1 w hr0 hc0 hr1 hc1 k0 ⟨F0⟩ h0
  by_cases h1 : (60 : Int) < (l1.length : Int)
  · exact answers_early1 e0 n0 A0 c0 l0 e1 n1 A1 c1 l1 w hr0 hc0 hr1 hc1 k0 ⟨F0⟩ h0 h1
  by_cases h2 : e0 < 0
  · exact answers_early2 e0 n0 A0 c0 l0 e1 n1 A1 c1 l1 w hr0 hc0 hr1 hc1 k0 ⟨F0⟩ h0 h1 h2
  by_cases h3 : 1000 < e0
  · exact answers_early3 e0 n0 A0 c0 l0 e1 n1 A1 c1 l1 w hr0 hc0 hr1 hc1 k0 ⟨F0⟩ h0 h1 h2 h3
  by_cases h4 : n0 < 0
  · exact answers_early4 e0 n0 A0 c0 l0 e1 n1 A1 c1 l1 w hr0 hc0 hr1 hc1 k0 ⟨F0⟩ h0 h1 h2 h3 h4
  by_cases h5 : 1099511627776 < n0
  · exact answers_early5 e0 n0 A0 c0 l0 e1 n1 A1 c1 l1 w hr0 hc0 hr1 hc1 k0 ⟨F0⟩ h0 h1 h2 h3 h4 h5
  obtain ⟨k, S, G0, HP⟩ := answers_facts e0 n0 l0 e1 n1 l1 h0 h2 h3 h4 h5
  by_cases q0 : e0 = e1
  · by_cases q1 : n0 = n1
    · by_cases q2 : l0.length = l1.length
      · exact answers_eq e0 n0 A0 c0 l0 e1 n1 A1 c1 l1 w hr0 hc0 hr1 hc1 k ⟨G0⟩ h0 h1 h2 h3 h4 h5 q0 q1 q2 S HP
      · exact answers_d2 e0 n0 A0 c0 l0 e1 n1 A1 c1 l1 w hr0 hc0 hr1 hc1 k ⟨G0⟩ h0 h1 h2 h3 h4 h5 q0 q1 q2 S HP
    · exact answers_d1 e0 n0 A0 c0 l0 e1 n1 A1 c1 l1 w hr0 hc0 hr1 hc1 k ⟨G0⟩ h0 h1 h2 h3 h4 h5 q0 q1 S HP
  · exact answers_d0 e0 n0 A0 c0 l0 e1 n1 A1 c1 l1 w hr0 hc0 hr1 hc1 k ⟨G0⟩ h0 h1 h2 h3 h4 h5 q0 S HP
end Go.Proofs.Ythpgpljpadlegaa.Pure
namespace Go.Proofs.Ythpgpljpadlegaa.wireAnswers
open Go.ChangeShapes Go.WideShapes Go.ChangeAt Go.RowKit Go.Proofs.YthpgpljpadlegaaW.PrintWords Go.Proofs.YthpgpljpadlegaaW.PrintLast
open Go.ChangeMaps (open_string shut_string)
set_option linter.unusedVariables false
theorem own : ownKnob Try.prog.godebug = none := by kernel_rfl
theorem laidOut : laidOutB Try.prog = true := by kernel_rfl
set_option maxRecDepth 100000 in
theorem lifted (os : Os) (started : os.Started) (H : Type) (enc : TypeId × Value → H) :
    ReturnsInHanded {} Try.checked os 13 .any (Rows.wireAnswersSpec.pre6 enc Try.prog Try.f13 Rows.wireAnswersRow.domain false) (Rows.wireAnswersSpec.post enc Try.prog Try.f13 false true false false) := by
  refine returnsInHanded_of_change_sized (C := Try.checked) own started (by kernel_rfl) Try.func13
    (ChangeSpec.witness6 (enc := enc) (C := Try.checked) false ⟨#[], #[.agg #[.int .i64 0, .int .i64 0, .slice none 0 0], .agg #[.int .i64 0, .int .i64 0, .slice none 0 0]], []⟩ 8 (by kernel_rfl) (by kernel_rfl) (by kernel_rfl) (by kernel_rfl)) ?_
  intro W base args ds gs before hval0 hW hcnd hsz0 _
  have hsz : (DataW.weightsEach Try.prog (Try.f13.params.toList ++ Rows.wireAnswersSpec.plain.varTypes Try.prog) (ds ++ gs)).all (· ≤ reachBytes) = true := hsz0
  have hval : ∀ (j : Nat) t v, Try.f13.params[j]? = some t → args[j]? = some v → Value.okWide Try.prog W .any base t v := hval0
  have hW' := hW
  obtain ⟨p, q, hA0, hV, rfl, hfz, hnd⟩ := hW
  have hA : DataW.TrodAll enc Try.prog W 0 (fun _ => true) true Try.f13.params.toList args.toList ds p := hA0
  rw [Try.params13] at hA hval hsz
  obtain ⟨v0, vs0, d0, ds0, p0, q0, hargs, rfl, rfl, h0, r0⟩ := trodAll_cons hA
  obtain ⟨v1, vs1, d1, ds1, p1, q1, rfl, rfl, rfl, h1, r1⟩ := trodAll_cons r0
  obtain ⟨rfl, rfl, rfl⟩ := trodAll_nil r1
  obtain rfl : args = #[v0, v1] := by cases args; simp_all
  obtain ⟨rfl, rfl⟩ := trodVars_none hV
  obtain ⟨e0, n0, A0, c0, l0, rfl, w0e, w0n, hc0, hm0, hr0⟩ := Asks.answer_open (hval 0 59 v0 rfl rfl) h0
  have lt0 : ∀ x ∈ p0, x.block < W.heap.size := by obtain ⟨m, hm⟩ := h0; exact DataW.trod_lt m _ _ _ hm
  obtain ⟨e1, n1, A1, c1, l1, rfl, w1e, w1n, hc1, hm1, hr1⟩ := Asks.answer_open (hval 1 59 v1 rfl rfl) h1
  have lt1 : ∀ x ∈ p1, x.block < W.heap.size := by obtain ⟨m, hm⟩ := h1; exact DataW.trod_lt m _ _ _ hm
  clear hA0 hval0 hsz0 hsz
  refine (Pure.answers e0 n0 A0 c0 l0 e1 n1 A1 c1 l1 W hr0 hc0 hr1 hc1).mono fun e W' ⟨he, bel⟩ => ?_
  subst he
  exact ⟨_, rfl, _, _, _, [], _, [], hW', trodAll_mk1 (shut_bool Try.underlying4 _), (trodAll_cons_mk (Below.trod laidOut (by kernel_rfl) (of_decide_eq_true (by kernel_rfl)) h0 bel lt0) (trodAll_cons_mk (Below.trod laidOut (by kernel_rfl) (of_decide_eq_true (by kernel_rfl)) h1 bel lt1) trodAll_mk0)), rfl, bel.frame _, fun h => by cases h⟩
theorem over : Rows.wireAnswersRow.holds Try.pinned (OpenSpec.ofChange Rows.wireAnswersSpec) :=
  OpenClaim.holds_of_wide 13 Try.f13 rfl rfl rfl rfl rfl rfl rfl ⟨rfl, rfl, rfl, rfl, rfl⟩ rfl rfl rfl rfl rfl (by kernel_rfl) Try.func13 (by kernel_rfl)
    (of_decide_eq_true (by kernel_rfl)) (by unfold Func.isWrapper; first | (rw [if_pos (by decide +kernel)]; kernel_rfl) | (rw [if_neg (by decide +kernel)]; exact ⟨rfl, rfl⟩))
    (fun os started H enc _ => lifted os started H enc)
theorem proved : Rows.WireAnswersSaid := over
#print axioms proved
end Go.Proofs.Ythpgpljpadlegaa.wireAnswers
namespace Go.Proofs.Ythpgpljpadlegaa
/-- The row, under a short name, for the claim. -/
theorem wireAnswers_holds : Rows.WireAnswersSaid := wireAnswers.proved
end Go.Proofs.Ythpgpljpadlegaa
