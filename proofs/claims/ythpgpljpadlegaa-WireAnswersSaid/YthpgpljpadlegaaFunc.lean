/- slices.ContainsFunc and slices.IndexFunc over texts, handed the one function literal of this program: is a text longer than 4096 bytes? -/
import Derived.Test.YthpgpljpadlegaaQx0
namespace Go.Proofs.Ythpgpljpadlegaa.Q
open Go Go.RowKit Go.Proofs.YthpgpljpadlegaaW.PrintWords Go.Proofs.YthpgpljpadlegaaW.PrintLast Go.Proofs.YthpgpljpadlegaaW.PrintMore
set_option linter.unusedVariables false
set_option linter.unusedSimpArgs false

def longAt : List ByteArray → Nat → Int
  | [], _ => -1
  | s :: l, i => if 4096 < s.size then (i : Int) else longAt l (i + 1)
theorem longAt_range : ∀ (l : List ByteArray) (i : Nat), longAt l i = -1 ∨ 0 ≤ longAt l i
  | [], _ => .inl rfl
  | s :: l, i => by
    unfold longAt
    split
    · right; omega
    · exact longAt_range l (i + 1)
theorem longAt_any : ∀ (l : List ByteArray) (i : Nat), decide (0 ≤ longAt l i) = l.any fun s => decide (4096 < s.size)
  | [], _ => rfl
  | s :: l, i => by
    unfold longAt
    by_cases h : 4096 < s.size
    · rw [if_pos h]
      simp [h]
    · rw [if_neg h, longAt_any l (i + 1)]
      simp [h]
theorem longAt_drop (l : List ByteArray) (k : Nat) (h : k < l.length) : longAt (l.drop k) k = if 4096 < l[k].size then (k : Int) else longAt (l.drop (k + 1)) (k + 1) := by
  rw [List.drop_eq_getElem_cons h]
  rfl
theorem rdOf_at (l : List ByteArray) (k : Nat) (h : k < l.length) : rdOf ByteArray.empty l (k : Int) = l[k] := by
  unfold rdOf
  simp [List.getD, List.getElem?_eq_getElem h]

set_option maxHeartbeats 1000000 in
theorem indexFunc_calls (A0 : Option Addr) (c0 : Nat) (l0 : List ByteArray) (w : World) (hr0 : Kd.C Kd.string w A0 l0.length l0) (hc0 : l0.length ≤ c0) :
    Calls Try.prog 44 #[.slice A0 l0.length c0, .func (.func 42) #[] #[]] w fun e w' => e = .returned (.int .i64 (longAt l0 0)) ∧ ∃ nd, w' = w.drewN nd := by
  have HR0 := Aside0.mk hr0
  have HC0 := Aside0.mk hc0
  have HM := Aside0.mk (Kd.C_max hr0)
  clear hr0 hc0
  go_enter Try.func44, Try.ntmps44
  go_wp2
  go_loop [5, 8] (fun _ v8 => ∃ k : Nat, k ≤ l0.length ∧ v8 = .int .i64 k ∧ Aside0 (longAt (l0.drop k) k = longAt l0 0)) (fun _ v8 => l0.length - (intOf v8).toNat)
  case atStart => exact ⟨0, Nat.zero_le _, rfl, ⟨rfl⟩⟩
  case round =>
    obtain ⟨k, hk, rfl, HA⟩ := hrel
    by_cases hlt : k < l0.length
    · have hw := HM.out
      have c1 : (0 : Int) ≤ (k : Int) := by omega
      have c2 : (k : Int) < (l0.length : Int) := by omega
      obtain ⟨ad, e, hx⟩ := Kd.at_string HR0.out (k : Int) c1 c2
      cases e
      rw [rdOf_at l0 k hlt, Int.toNat_natCast] at hx
      have HS := Aside0.mk (longAt_drop l0 k hlt)
      generalize hs : l0[k] = s at *
      clear hs
      by_cases hbig : 4096 < s.size
      · have HE := Aside0.mk (by have := HS.out; rw [if_pos hbig] at this; exact this.symm.trans HA.out : (k : Int) = longAt l0 0)
        clear HS HA
        have cb : decide ((4096 : Int) < (s.size : Int)) = true := decide_eq_true (by omega)
        have cb2 : decide (4096 < s.size) = true := decide_eq_true hbig
        go_wp2
        go_ret
        exact ⟨by rw [← HE.out]; rfl, 0, rfl⟩
      · have HE := Aside0.mk (by have := HS.out; rw [if_neg hbig] at this; exact this.symm.trans HA.out : longAt (l0.drop (k + 1)) (k + 1) = longAt l0 0)
        clear HS HA
        have cb : decide ((4096 : Int) < (s.size : Int)) = false := decide_eq_false (by omega)
        have cb2 : decide (4096 < s.size) = false := decide_eq_false hbig
        go_wp2
        go_round
        case rel => exact ⟨k + 1, by omega, by go_num, HE⟩
        case measure => simp [intOf]; omega
    · have HE := Aside0.mk (by have := HA.out; rw [List.drop_of_length_le (by omega)] at this; exact this : (-1 : Int) = longAt l0 0)
      clear HA
      go_wp2
      go_ret
      exact ⟨by rw [← HE.out]; rfl, 0, rfl⟩
def anyLong (l : List ByteArray) : Bool := l.any fun s => decide (4096 < s.size)
def slices_ContainsFunc_long.f (l0 : List ByteArray) : Option Bool := some (anyLong l0)
theorem slices_ContainsFunc_long.calls (A0 : Option Addr) (c0 : Nat) (l0 : List ByteArray) (r : Bool) (w : World) (hr0 : Kd.C Kd.string w A0 l0.length l0) (hc0 : l0.length ≤ c0) (h : slices_ContainsFunc_long.f l0 = some r) :
    Calls Try.prog 41 #[.slice A0 l0.length c0, .func (.func 42) #[] #[]] w fun e w' => e = .returned (.bool r) ∧ ∃ nd, w' = w.drewN nd := by
  have HA := Aside0.mk (show decide (0 ≤ longAt l0 0) = r from (longAt_any l0 0).trans (Option.some.inj h))
  clear h
  have HC := Aside0.mk (indexFunc_calls A0 c0 l0 w hr0 hc0)
  clear hr0 hc0
  generalize longAt l0 0 = i at HA HC
  go_enter Try.func41, Try.ntmps41
  go_wp2_with (go_at_call 44; refine HC.out.mono ?_; rintro e w' ⟨rfl, nd, rfl⟩)
  go_ret
  exact ⟨by rw [← HA.out]; rfl, nd, rfl⟩
end Go.Proofs.Ythpgpljpadlegaa.Q
