/- An argument that is a slice of parts, opened: what its cells hold. -/
import Derived.Test.YthpgpljpadlegaaQx0
import Derived.Deep.Slices
import Derived.Deep.Fields
import Derived.ChangeSame
import Derived.ChangeArms
namespace Go.Proofs.Ythpgpljpadlegaa.Parts
open Go Go.RowKit Go.ChangeShapes Go.WideShapes Go.Deep Go.Proofs.YthpgpljpadlegaaW.PrintWords Go.Proofs.YthpgpljpadlegaaW.PrintLast Go.Proofs.Ythpgpljpadlegaa.Q
set_option linter.unusedVariables false
section
variable {H : Type} {enc : TypeId × Value → H} {P : Program} {w : World} {base : Nat} {spare : Nat → Bool} {held : Bool}
theorem open_slice_fields {t e : TypeId} {fs : Array Field} {fuel : Nat} {cs : List Value} {x : DataW H × List MemPlace} (ht : P.underlying t = some (.slice e)) (he : P.underlying e = some (.struct fs))
    (hone : oneCellFields P fs = true) (hC : P.cellsOf e = fs.size) (h : DataW.trod enc P w base spare held fuel t cs = some x) :
    cs = [.slice none 0 0] ∨
    ∃ (a : Addr) (len cap : Nat), cs = [.slice (some a) len cap] ∧ len ≤ cap ∧ cap ≤ maxLen ∧
      ∀ i, i < len → ∃ n : Nat, ∀ (j : Nat) (f : Field), fs[j]? = some f → ∃ (v : Value) (y : DataW H × List MemPlace), w.cell? (a.add (i * fs.size + j)) = some v ∧ DataW.trod enc P w base spare held n f.type [v] = some y := by
  rcases open_slice ht h with h0 | ⟨a, len, cap, m, n, D, Pl, hcs, hb, hl, hm, hmm, hx, hi⟩
  · exact .inl h0.1
  · refine .inr ⟨a, len, cap, hcs, hl, hm, fun i hil => ?_⟩
    have him : i < m := by rw [hmm]; split <;> omega
    obtain ⟨cs', hc, ht'⟩ := hi i him
    rw [hC] at hc
    obtain ⟨ys, n', hn', hy, hlen, hyl, hf⟩ := DataW.trod_struct he ht'
    obtain ⟨_, hcl, hat⟩ := World.cells?_some hc
    refine ⟨n', fun j f hj => ?_⟩
    obtain ⟨ho, hk⟩ := hone_of hone j f hj
    have hjl : j < fs.size := (Array.getElem?_eq_some_iff.1 hj).1
    have hcell := hat j hjl
    have hv : cs'[j]? = some (cs'[j]'(by omega)) := List.getElem?_eq_getElem (by omega)
    have h1 := hf j f hj
    rw [ho, hk] at h1
    have hone' : (cs'.drop j).take 1 = [cs'[j]'(by omega)] := by
      rw [List.drop_eq_getElem_cons (by omega)]
      rfl
    rw [hone'] at h1
    have hys : ys[j]? = some (ys[j]'(by omega)) := List.getElem?_eq_getElem (by omega)
    refine ⟨_, _, ?_, h1.trans hys⟩
    rw [← Go.Deep.add_add, hcell, hv]
end
theorem parts_open {H : Type} {enc : TypeId × Value → H} {w : World} {base : Nat} {spare : Nat → Bool} {held : Bool} {a : Option Addr} {len cap : Nat} {fuel : Nat} {x : DataW H × List MemPlace}
    (h : DataW.trod enc Try.prog w base spare held fuel 45 [.slice a len cap] = some x) :
    ∃ l : List S42, l.length = len ∧ len ≤ cap ∧ len ≤ maxLen ∧ Kd.C k42 w a l.length l ∧ ∀ p ∈ l, (Lit.int .i64 p.f1).wf = true := by
  rcases open_slice_fields Try.underlying45 Try.underlying42 (by kernel_rfl) (by kernel_rfl) h with hcs | ⟨a', len', cap', hcs, hl, hm, hi⟩
  · simp only [List.cons.injEq, Value.slice.injEq, and_true] at hcs
    obtain ⟨rfl, rfl, rfl⟩ := hcs
    exact ⟨[], rfl, Nat.le_refl _, Nat.zero_le _, Kd.C_nil _ _, fun p hp => by cases hp⟩
  · simp only [List.cons.injEq, Value.slice.injEq, and_true] at hcs
    obtain ⟨rfl, rfl, rfl⟩ := hcs
    have hq : ∀ i, ∃ q : S42, i < len → (w.cell? (a'.add (i * 4 + 0)) = some (.int .i64 q.f0) ∧ w.cell? (a'.add (i * 4 + 1)) = some (.int .i64 q.f1) ∧ w.cell? (a'.add (i * 4 + 2)) = some (.string q.f2) ∧ w.cell? (a'.add (i * 4 + 3)) = some (.bool q.f3)) ∧ (Lit.int .i64 q.f1).wf = true := by
      intro i
      by_cases hlt : i < len
      · obtain ⟨n, hf⟩ := hi i hlt
        obtain ⟨v0, y0, c0, t0⟩ := hf 0 _ rfl
        obtain ⟨v1, y1, c1, t1⟩ := hf 1 _ rfl
        obtain ⟨v2, y2, c2, t2⟩ := hf 2 _ rfl
        obtain ⟨v3, y3, c3, t3⟩ := hf 3 _ rfl
        obtain ⟨n0, e0, _, _⟩ := DataW.trod_int Try.underlying3 t0
        obtain ⟨n1, e1, _, w1⟩ := DataW.trod_int Try.underlying3 t1
        obtain ⟨s2, e2, _, _⟩ := DataW.trod_string Try.underlying9 t2
        obtain ⟨b3, e3, _⟩ := DataW.trod_bool Try.underlying4 t3
        simp only [List.cons.injEq, and_true] at e0 e1 e2 e3
        subst e0 e1 e2 e3
        exact ⟨⟨n0, n1, s2, b3⟩, fun _ => ⟨⟨c0, c1, c2, c3⟩, w1⟩⟩
      · exact ⟨z42, fun h => absurd h hlt⟩
    obtain ⟨g, hg⟩ := Classical.skolem.1 hq
    have hlen : ((List.range len).map g).length = len := by simp
    refine ⟨(List.range len).map g, hlen, hl, Nat.le_trans hl hm, ?_, ?_⟩
    · rw [hlen]
      refine ⟨hlen, by have : maxLen = 9223372036854775807 := rfl
                       omega, fun _ => ⟨a', rfl, fun j p hj => ?_⟩⟩
      obtain ⟨hjl, hjp⟩ := List.getElem?_eq_some_iff.1 hj
      have hjl' : j < len := by rw [hlen] at hjl; exact hjl
      have hjp' : g j = p := by simpa using hjp
      subst hjp'
      obtain ⟨⟨c0, c1, c2, c3⟩, _⟩ := hg j hjl'
      refine ⟨_, rfl, k42_mk w (g j), fun i u hu => ?_⟩
      match i, hu with
      | 0, hu => simp only [List.getElem?_cons_zero, Option.some.injEq] at hu; subst hu; exact c0
      | 1, hu => simp only [List.getElem?_cons_succ, List.getElem?_cons_zero, Option.some.injEq] at hu; subst hu; exact c1
      | 2, hu => simp only [List.getElem?_cons_succ, List.getElem?_cons_zero, Option.some.injEq] at hu; subst hu; exact c2
      | 3, hu => simp only [List.getElem?_cons_succ, List.getElem?_cons_zero, Option.some.injEq] at hu; subst hu; exact c3
      | (i + 4), hu => simp at hu
    · intro p hp
      obtain ⟨j, hj, rfl⟩ := List.mem_map.1 hp
      exact (hg j (List.mem_range.1 hj)).2
end Go.Proofs.Ythpgpljpadlegaa.Parts
