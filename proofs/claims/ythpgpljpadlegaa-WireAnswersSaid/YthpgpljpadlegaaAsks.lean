/- An argument that is a question (a struct of seven fields), or an answer (two numbers and a slice of texts), opened. -/
import Derived.Test.YthpgpljpadlegaaQx0
import Derived.Deep.Slices
import Derived.Deep.Fields
import Derived.Deep.Strs
import Derived.ChangeSame
import Derived.ChangeArms
import Derived.OpenShut
namespace Go.Proofs.Ythpgpljpadlegaa.Asks
open Go Go.RowKit Go.ChangeShapes Go.WideShapes Go.Deep Go.Proofs.YthpgpljpadlegaaW.PrintWords Go.Proofs.YthpgpljpadlegaaW.PrintLast Go.Proofs.Ythpgpljpadlegaa.Q
set_option linter.unusedVariables false
variable {H : Type} {enc : TypeId × Value → H} {w : World} {base : Nat} {spare : Nat → Bool} {held : Bool}
theorem ask_open {r : Reach} {b0 : Nat} {v : Value} {d : DataW H} {p : List MemPlace} (hv : Value.okWide Try.prog w r b0 30 v) (h : DataW.Trod enc Try.prog w base spare held 30 v d p) :
    ∃ (o : Int) (a b c e : ByteArray) (n m : Int), v = .agg #[.int .i64 o, .string a, .string b, .string c, .string e, .int .i64 n, .int .i64 m] ∧ (Lit.int .i64 o).wf = true ∧ (Lit.int .i64 n).wf = true ∧ (Lit.int .i64 m).wf = true := by
  have hC : Try.prog.cellsOf 30 = 7 := by kernel_rfl
  obtain ⟨cs, rfl, hsz⟩ := okWide_struct Try.underlying30 hv
  obtain ⟨l⟩ := cs
  match l, hsz.trans hC with
  | [c0, c1, c2, c3, c4, c5, c6], _ =>
    obtain ⟨fuel, hf⟩ := h
    obtain ⟨xs, n, _, hx, _, hlen, hg⟩ := DataW.trod_struct Try.underlying30 hf
    match xs, hlen with
    | [y0, y1, y2, y3, y4, y5, y6], _ =>
      have k28 : Try.prog.cellsOf 28 = 1 := by kernel_rfl
      have k9 : Try.prog.cellsOf 9 = 1 := by kernel_rfl
      have k3 : Try.prog.cellsOf 3 = 1 := by kernel_rfl
      have h0 : DataW.trod enc Try.prog w base spare held n 28 [c0] = some y0 := by simpa [Value.cells, k28] using hg 0 _ rfl
      have h1 : DataW.trod enc Try.prog w base spare held n 9 [c1] = some y1 := by simpa [Value.cells, k9] using hg 1 _ rfl
      have h2 : DataW.trod enc Try.prog w base spare held n 9 [c2] = some y2 := by simpa [Value.cells, k9] using hg 2 _ rfl
      have h3 : DataW.trod enc Try.prog w base spare held n 9 [c3] = some y3 := by simpa [Value.cells, k9] using hg 3 _ rfl
      have h4 : DataW.trod enc Try.prog w base spare held n 9 [c4] = some y4 := by simpa [Value.cells, k9] using hg 4 _ rfl
      have h5 : DataW.trod enc Try.prog w base spare held n 3 [c5] = some y5 := by simpa [Value.cells, k3] using hg 5 _ rfl
      have h6 : DataW.trod enc Try.prog w base spare held n 3 [c6] = some y6 := by simpa [Value.cells, k3] using hg 6 _ rfl
      obtain ⟨n0, e0, _, w0⟩ := DataW.trod_int Try.underlying28 h0
      obtain ⟨s1, e1, _, _⟩ := DataW.trod_string Try.underlying9 h1
      obtain ⟨s2, e2, _, _⟩ := DataW.trod_string Try.underlying9 h2
      obtain ⟨s3, e3, _, _⟩ := DataW.trod_string Try.underlying9 h3
      obtain ⟨s4, e4, _, _⟩ := DataW.trod_string Try.underlying9 h4
      obtain ⟨n5, e5, _, w5⟩ := DataW.trod_int Try.underlying3 h5
      obtain ⟨n6, e6, _, w6⟩ := DataW.trod_int Try.underlying3 h6
      simp only [List.cons.injEq, and_true] at e0 e1 e2 e3 e4 e5 e6
      subst e0 e1 e2 e3 e4 e5 e6
      exact ⟨n0, s1, s2, s3, s4, n5, n6, rfl, w0, w5, w6⟩
theorem answer_open {r : Reach} {b0 : Nat} {v : Value} {d : DataW H} {p : List MemPlace} (hv : Value.okWide Try.prog w r b0 59 v) (h : DataW.Trod enc Try.prog w base spare held 59 v d p) :
    ∃ (e n : Int) (A : Option Addr) (c : Nat) (l : List ByteArray), v = .agg #[.int .i64 e, .int .i64 n, .slice A l.length c] ∧ (Lit.int .i64 e).wf = true ∧ (Lit.int .i64 n).wf = true ∧ l.length ≤ c ∧ l.length ≤ maxLen ∧ Kd.C Kd.string w A l.length l := by
  have hC : Try.prog.cellsOf 59 = 3 := by kernel_rfl
  obtain ⟨cs, rfl, hsz⟩ := okWide_struct Try.underlying59 hv
  obtain ⟨l⟩ := cs
  match l, hsz.trans hC with
  | [c0, c1, c2], _ =>
    obtain ⟨fuel, hf⟩ := h
    obtain ⟨xs, n, _, hx, _, hlen, hg⟩ := DataW.trod_struct Try.underlying59 hf
    match xs, hlen with
    | [y0, y1, y2], _ =>
      have k31 : Try.prog.cellsOf 31 = 1 := by kernel_rfl
      have k57 : Try.prog.cellsOf 57 = 1 := by kernel_rfl
      have k3 : Try.prog.cellsOf 3 = 1 := by kernel_rfl
      have h0 : DataW.trod enc Try.prog w base spare held n 31 [c0] = some y0 := by simpa [Value.cells, k31] using hg 0 _ rfl
      have h1 : DataW.trod enc Try.prog w base spare held n 3 [c1] = some y1 := by simpa [Value.cells, k3] using hg 1 _ rfl
      have h2 : DataW.trod enc Try.prog w base spare held n 57 [c2] = some y2 := by simpa [Value.cells, k57] using hg 2 _ rfl
      obtain ⟨n0, e0, _, w0⟩ := DataW.trod_int Try.underlying31 h0
      obtain ⟨n1, e1, _, w1⟩ := DataW.trod_int Try.underlying3 h1
      simp only [List.cons.injEq, and_true] at e0 e1
      subst e0 e1
      rcases open_strs Try.underlying57 Try.underlying9 (by kernel_rfl) h2 with ⟨hcs, _⟩ | ⟨a, len, cap, m, Sx, hcs, _, hl, hm, hmm, _, hcell⟩
      · simp only [List.cons.injEq, and_true] at hcs
        subst hcs
        exact ⟨n0, n1, none, 0, [], rfl, w0, w1, Nat.le_refl _, Nat.zero_le _, Kd.C_nil _ _⟩
      · simp only [List.cons.injEq, and_true] at hcs
        subst hcs
        have hlen : ((List.range len).map Sx).length = len := by simp
        have him : len ≤ m := by rw [hmm]; split <;> omega
        refine ⟨n0, n1, some a, cap, (List.range len).map Sx, by rw [hlen], w0, w1, by rw [hlen]; exact hl, by rw [hlen]; omega, ?_⟩
        rw [hlen]
        refine ⟨hlen, by have : maxLen = 9223372036854775807 := rfl
                         omega, fun _ => ⟨a, rfl, fun j p hj => ?_⟩⟩
        obtain ⟨hjl, hjp⟩ := List.getElem?_eq_some_iff.1 hj
        have hjl' : j < len := by rw [hlen] at hjl; exact hjl
        have hjp' : Sx j = p := by simpa using hjp
        subst hjp'
        refine ⟨[.string (Sx j)], rfl, rfl, fun i u hu => ?_⟩
        match i, hu with
        | 0, hu =>
          simp only [List.getElem?_cons_zero, Option.some.injEq] at hu
          subst hu
          have h3 := (hcell j (by omega)).1
          have e9 : Kd.string.sz = 1 := rfl
          rw [e9, Nat.mul_one, Nat.add_zero]
          exact h3
        | (i + 1), hu => simp at hu
end Go.Proofs.Ythpgpljpadlegaa.Asks
