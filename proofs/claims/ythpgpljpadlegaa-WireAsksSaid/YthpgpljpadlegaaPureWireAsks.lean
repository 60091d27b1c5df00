/- Any question as bytes, and back; cut off it is none. -/
import Derived.Test.YthpgpljpadlegaaWireC
import Derived.Test.YthpgpljpadlegaaQxf11
namespace Go.Proofs.Ythpgpljpadlegaa.Pure
open Go Go.RowKit Go.Proofs.Ythpgpljpadlegaa.Q Go.Proofs.Ythpgpljpadlegaa.Oct Go.Proofs.Ythpgpljpadlegaa.Plain Go.Proofs.Ythpgpljpadlegaa.Wire Go.Proofs.YthpgpljpadlegaaW.PrintWords Go.Proofs.YthpgpljpadlegaaW.PrintLast Go.Proofs.YthpgpljpadlegaaW.PrintMore
set_option linter.unusedVariables false
set_option linter.unusedSimpArgs false

theorem asks_tells (o : Int) (a b c d : ByteArray) (n m a1 : Int) (w1 : (Lit.int .i64 a1).wf = true) : Ev (fun k => mailbaglaw18_WireAsks.f k o a b c d n m a1) true := by
  have hm := mask_le a1 65535 (by omega) (by omega)
  unfold mailbaglaw18_WireAsks.f
  generalize Go.bits .and .i64 a1 65535 = v at hm
  refine Ev.bind head_tells ?_
  simp only [if_true]
  refine Ev.bind (encode_tells o a b c d n m) ?_
  simp only [right_tells, Option.bind_some]
  refine Ev.bind (lawright_tells o a b c d n m) ?_
  simp only [bne_self_eq_false, Bool.false_eq_true, if_false]
  refine Ev.bind (lawright_tells o a b c d n m) ?_
  by_cases hr : RightP o a b c d n m
  · simp only [decide_eq_true hr, if_true, if_pos hr]
    have hl := askL_len hr
    refine Ev.bind (readAsk_enc hr) ?_
    have hn1 := fun x => askOut_not (L := (askL o a b c d n m).take x) (x := (askL o a b c d n m).drop x) (y := []) hr (by rw [List.take_append_drop, List.append_nil])
    have hn2 := askOut_not (L := askL o a b c d n m ++ [120]) (x := []) (y := [120]) hr (by rw [List.append_nil]) (by simp)
    generalize askL o a b c d n m = X at hl hn1 hn2
    have p0 : ¬ ((mkS X).size : Int) = 0 := by rw [mkS_size]; omega
    have t0 : 0 ≤ Int.tmod v ((mkS X).size : Int) := Int.tmod_nonneg _ hm.1
    have t1 : Int.tmod v ((mkS X).size : Int) < ((mkS X).size : Int) := Int.tmod_lt_of_pos _ (by rw [mkS_size]; omega)
    generalize Int.tmod v ((mkS X).size : Int) = q at t0 t1
    have p1 : q ≤ ((mkS X).size : Int) := by omega
    have p2 : (mkS X).size + 1 ≤ 9223372036854775807 := by rw [mkS_size]; omega
    rw [mkS_size] at t1
    simp only [if_neg p0, if_pos t0, if_pos p1, if_pos p2, mkS_to]
    have r1 := readAsk_tells (mkS (X.take q.toNat)) (by rw [mkS_size, List.length_take]; omega)
    rw [mkS_data, hn1 q.toNat (fun e => by have := congrArg List.length e; rw [List.length_drop, List.length_nil] at this; omega)] at r1
    refine Ev.bind r1 ?_
    have e2 : mkS X ++ (⟨#[120]⟩ : ByteArray) = mkS (X ++ [120]) := mkS_append X [120]
    simp only [e2]
    have r2 := readAsk_tells (mkS (X ++ [120])) (by rw [mkS_size, List.length_append, List.length_singleton]; omega)
    rw [mkS_data, hn2] at r2
    refine Ev.bind r2 ?_
    simp only [if_true, BEq.rfl, Bool.and_self, noAsk]
    exact Ev.now _
  · simp only [decide_eq_false hr, if_neg hr, Bool.false_eq_true, if_false, if_true]
    have e : ((⟨#[]⟩ : ByteArray).toList == ([] : List UInt8)) = true := by rw [toList_mk]; rfl
    rw [e]
    exact Ev.now _
end Go.Proofs.Ythpgpljpadlegaa.Pure
