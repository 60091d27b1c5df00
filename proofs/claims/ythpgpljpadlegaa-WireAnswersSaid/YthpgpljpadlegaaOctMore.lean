/- The document's example, masks, and small words for the laws of layer 1. -/
import Derived.Test.YthpgpljpadlegaaOct
import Derived.Test.YthpgpljpadlegaaQxf16
namespace Go.Proofs.Ythpgpljpadlegaa.Oct
open Go Go.RowKit Go.Proofs.YthpgpljpadlegaaW.PrintWords Go.Proofs.YthpgpljpadlegaaW.PrintLast Go.Proofs.YthpgpljpadlegaaW.PrintMore
open Go.Proofs.Ythpgpljpadlegaa.Plain Go.Proofs.Ythpgpljpadlegaa.Q
set_option linter.unusedVariables false

theorem enc_300 : enc 300 = [2, 1, 44] := by
  have h : be 300 = [1, 44] := be_val (l := [1, 44]) (by simp)
  rw [enc, h]; rfl
theorem head_tells : Ev (fun k => mailbaglaw01_head.f k) true := by
  have h := num_tells [] 300 (by omega) (by simp)
  unfold mailbaglaw01_head.f
  refine Ev.bind h ?_
  refine Ev.congr (f := fun _ => some true) (fun k => ?_) (Ev.now _)
  rw [List.nil_append, str_nums, mkS_toList]
  have : enc (300 : Int).toNat = [2, 1, 44] := enc_300
  rw [this]
  rfl
theorem i64_small {n : Int} (h0 : 0 ≤ n) (h1 : n < 9223372036854775808) : IntKind.i64.wrap n = n := (i64_w n).trans (wrap64_small (by omega) h1)
theorem mask_le (a m : Int) (hm0 : 0 ≤ m) (hm : m < 9223372036854775808) : 0 ≤ Go.bits .and .i64 a m ∧ Go.bits .and .i64 a m ≤ m := by
  obtain ⟨m, rfl⟩ := Int.eq_ofNat_of_zero_le hm0
  unfold Go.bits
  simp only []
  have e : IntKind.i64.bits = 64 := rfl
  rw [e]
  have h : (BitVec.ofInt 64 a &&& BitVec.ofInt 64 (m : Int)).toNat ≤ m := by
    rw [BitVec.toNat_and, BitVec.ofInt_natCast, BitVec.toNat_ofNat, Nat.mod_eq_of_lt (by omega)]
    exact Nat.and_le_right
  rw [i64_small (by omega) (by omega)]
  omega
theorem toList_eq_iff {a b : List UInt8} : ((mkS a).toList == (mkS b).toList) = decide (a = b) := by
  rw [mkS_toList, mkS_toList]
  by_cases h : a = b
  · subst h; simp
  · simp [h]
theorem mkS_data' (s : ByteArray) : s = mkS s.data.toList := rfl
theorem toList_mk (s : ByteArray) : s.toList = s.data.toList := ByteArray.toList_eq s
theorem dlen (s : ByteArray) : s.data.toList.length = s.size := Array.length_toList
theorem wf_i64 {a : Int} (h : (Lit.int .i64 a).wf = true) : -9223372036854775808 ≤ a ∧ a < 9223372036854775808 := by
  simp only [Lit.wf, Bool.and_eq_true, decide_eq_true_eq] at h
  have e1 : IntKind.i64.min = -9223372036854775808 := by decide
  have e2 : IntKind.i64.max = 9223372036854775807 := by decide
  omega
end Go.Proofs.Ythpgpljpadlegaa.Oct
