/- Unlike rows of numbers have unlike encodings, and none is the beginning of the other, if they are xa many; for every two rows. -/
import Derived.Test.YthpgpljpadlegaaOctMore
import Derived.Test.YthpgpljpadlegaaQxf4
namespace Go.Proofs.Ythpgpljpadlegaa.Pure
open Go Go.RowKit Go.Proofs.Ythpgpljpadlegaa.Q Go.Proofs.Ythpgpljpadlegaa.Oct Go.Proofs.Ythpgpljpadlegaa.Plain Go.Proofs.YthpgpljpadlegaaW.PrintWords Go.Proofs.YthpgpljpadlegaaW.PrintLast Go.Proofs.YthpgpljpadlegaaW.PrintMore
set_option linter.unusedVariables false

def nats (l : List Int) : List Nat := l.map Int.toNat
theorem nats_lt {l : List Int} (h : ∀ x ∈ l, (Lit.int .i64 x).wf = true) : ∀ n ∈ nats l, n < 18446744073709551616 := by
  intro n hn
  obtain ⟨x, hx, rfl⟩ := List.mem_map.1 hn
  have := wf_i64 (h x hx)
  omega
theorem encN_len (l : List Nat) (h : ∀ n ∈ l, n < 18446744073709551616) : (encN l).length ≤ 9 * l.length := by
  induction l with
  | nil => simp [encN]
  | cons n l ih =>
    have := enc_len (h n (by simp))
    have := ih (fun m hm => h m (by simp [hm]))
    simp only [encN, List.length_append, List.length_cons]
    omega
theorem take_nat (xa : List Int) (i : Nat) (h : i < xa.length) : nats (xa.take (i + 1)) = nats (xa.take i) ++ [(rd xa (i : Int)).toNat] := by
  rw [List.take_succ_eq_append_getElem h, nats, nats, List.map_append]
  congr 1
  unfold rd
  simp [List.getD, List.getElem?_eq_getElem h]
theorem apart_end (a b : List Nat) (ha : ∀ n ∈ a, n < 18446744073709551616) (hb : ∀ n ∈ b, n < 18446744073709551616) (hl : a.length = b.length) (n : Nat) (hn : n = min (encN a).length (encN b).length) :
    (encN a = encN b ↔ a = b) ∧ ((encN a).take n = (encN b).take n ↔ a = b) := by
  have key : (encN a).take n = (encN b).take n → a = b := by
    intro h
    rcases Nat.le_total (encN a).length (encN b).length with h1 | h1
    · rw [hn, Nat.min_eq_left h1, List.take_of_length_le (Nat.le_refl _)] at h
      exact encN_prefix a b ha hb hl ((encN b).drop (encN a).length) (by rw [h]; rw [List.length_take, Nat.min_eq_left h1, List.take_append_drop])
    · rw [hn, Nat.min_eq_right h1, List.take_of_length_le (l := encN b) (Nat.le_refl _)] at h
      exact (encN_prefix b a hb ha hl.symm ((encN a).drop (encN b).length) (by rw [← h]; rw [List.length_take, Nat.min_eq_left h1, List.take_append_drop])).symm
  exact ⟨⟨fun h => key (by rw [h]), fun h => by rw [h]⟩, ⟨key, fun h => by rw [h]⟩⟩
theorem mn_nat (a b : Nat) : mn (a : Int) (b : Int) = ((min a b : Nat) : Int) := by unfold mn; split <;> omega
theorem apart_loop (xa xb : List Int) (ha : ∀ x ∈ xa, (Lit.int .i64 x).wf = true) (hb : ∀ x ∈ xb, (Lit.int .i64 x).wf = true) (hl : xa.length = xb.length) (h30 : xa.length ≤ 30) (d : Nat) : ∀ (i : Nat), i + d = xa.length →
    Ev (fun k => mailbaglaw01_OctetApart.l0 k xa xb (numsOf (encN (nats (xa.take i)))) (numsOf (encN (nats (xb.take i)))) (decide (nats (xa.take i) = nats (xb.take i))) (xa.length : Int) (i : Int)) true := by
  have ha' : ∀ i, ∀ x ∈ xa.take i, (Lit.int .i64 x).wf = true := fun i x hx => ha x (List.mem_of_mem_take hx)
  have hb' : ∀ i, ∀ x ∈ xb.take i, (Lit.int .i64 x).wf = true := fun i x hx => hb x (List.mem_of_mem_take hx)
  induction d with
  | zero =>
    intro i hi
    refine Ev.step (f := fun _ => some true) (fun k => ?_) (Ev.now _)
    rw [mailbaglaw01_OctetApart.l0, if_neg (by omega)]
    rw [List.take_of_length_le (l := xa) (by omega), List.take_of_length_le (l := xb) (by omega)]
    have hlen : (nats xa).length = (nats xb).length := by simp [nats, hl]
    have he := apart_end (nats xa) (nats xb) (nats_lt ha) (nats_lt hb) hlen _ rfl
    rw [numsOf_length, numsOf_length, mn_nat, numsOf_take, numsOf_take, str_nums, str_nums, str_nums, str_nums, toList_eq_iff, toList_eq_iff]
    have e1 : ((((min (encN (nats xa)).length (encN (nats xb)).length : Nat) : Int))).toNat = min (encN (nats xa)).length (encN (nats xb)).length := by omega
    rw [e1]
    have e2 : decide (encN (nats xa) = encN (nats xb)) = decide (nats xa = nats xb) := decide_eq_decide.2 he.1
    have e3 : decide ((encN (nats xa)).take (min (encN (nats xa)).length (encN (nats xb)).length) = (encN (nats xb)).take (min (encN (nats xa)).length (encN (nats xb)).length)) = decide (nats xa = nats xb) := decide_eq_decide.2 he.2
    rw [e2, e3, if_pos (by simp), if_pos (by omega), if_pos (by omega), if_pos (by omega)]
    simp
  | succ d ih =>
    intro i hi
    have p1 : (i : Int) < (xa.length : Int) := by omega
    have p2 : (0 : Int) ≤ (i : Int) := by omega
    have p3 : (i : Int) < (xb.length : Int) := by omega
    have hwa := wf_i64 (ha _ (show rd xa (i : Int) ∈ xa by unfold rd; simp [List.getD, List.getElem?_eq_getElem (show i < xa.length by omega)]))
    have hwb := wf_i64 (hb _ (show rd xb (i : Int) ∈ xb by unfold rd; simp [List.getD, List.getElem?_eq_getElem (show i < xb.length by omega)]))
    have la := encN_len _ (nats_lt (ha' i))
    have lb := encN_len _ (nats_lt (hb' i))
    have la' : (nats (xa.take i)).length ≤ 30 := by simp [nats]; omega
    have lb' : (nats (xb.take i)).length ≤ 30 := by simp [nats]; omega
    have h1 := num_tells (numsOf (encN (nats (xa.take i)))) (rd xa (i : Int)) (by omega) (by rw [numsOf_length]; omega)
    have h2 := num_tells (numsOf (encN (nats (xb.take i)))) (rd xb (i : Int)) (by omega) (by rw [numsOf_length]; omega)
    have e1 : numsOf (encN (nats (xa.take i))) ++ numsOf (enc (rd xa (i : Int)).toNat) = numsOf (encN (nats (xa.take (i + 1)))) := by
      rw [take_nat xa i (by omega), encN_append, numsOf_append]
      simp [encN]
    have e2 : numsOf (encN (nats (xb.take i))) ++ numsOf (enc (rd xb (i : Int)).toNat) = numsOf (encN (nats (xb.take (i + 1)))) := by
      rw [take_nat xb i (by omega), encN_append, numsOf_append]
      simp [encN]
    rw [e1] at h1
    rw [e2] at h2
    have e3 : wrap64 ((i : Int) + 1) = ((i + 1 : Nat) : Int) := by rw [wrap64_small (by omega) (by omega)]; omega
    have e4 : decide (nats (xa.take (i + 1)) = nats (xb.take (i + 1))) = (decide (nats (xa.take i) = nats (xb.take i)) && (mx (rd xa (i : Int)) 0 == mx (rd xb (i : Int)) 0)) := by
      rw [mx_zero, mx_zero, take_nat xa i (by omega), take_nat xb i (by omega), Bool.eq_iff_iff]
      simp only [decide_eq_true_eq, Bool.and_eq_true, beq_iff_eq]
      constructor
      · intro h
        have hlen : (nats (xa.take i)).length = (nats (xb.take i)).length := by simp [nats, hl]
        obtain ⟨h5, h6⟩ := List.append_inj h hlen
        exact ⟨h5, by simp only [List.cons.injEq, and_true] at h6; omega⟩
      · rintro ⟨h5, h6⟩
        rw [h5]
        have : (rd xa (i : Int)).toNat = (rd xb (i : Int)).toNat := by omega
        rw [this]
    refine Ev.step (f := fun k => (octet_Num.f k (numsOf (encN (nats (xa.take i)))) (rd xa (i : Int))).bind fun t125 => (octet_Num.f k (numsOf (encN (nats (xb.take i)))) (rd xb (i : Int))).bind fun t129 =>
      mailbaglaw01_OctetApart.l0 k xa xb t125 t129 (decide (nats (xa.take (i + 1)) = nats (xb.take (i + 1)))) (xa.length : Int) ((i + 1 : Nat) : Int)) (fun k => ?_) ?_
    · rw [mailbaglaw01_OctetApart.l0, if_pos p1, if_pos p2, if_pos p1]
      simp only [if_pos p3, e3, e4]
      generalize decide (nats (xa.take i) = nats (xb.take i)) = q
      cases q
      · simp only [Bool.false_eq_true, if_false, Bool.false_and]
      · simp only [if_true, Bool.true_and]
    · exact Ev.bind h1 (Ev.bind h2 (ih (i + 1) (by omega)))
theorem OctetApart : mailbaglaw01_OctetApart.Pure := by
  intro xa xb _ _ ha _ _ hb
  have htrue : Ev (fun k => mailbaglaw01_OctetApart.j0 k xa xb true) true := Ev.step (f := fun _ => some true) (fun k => by rw [mailbaglaw01_OctetApart.j0, if_pos rfl]) (Ev.now _)
  refine Ev.rounds (g := fun k => mailbaglaw01_OctetApart.f k xa xb) ?_
  unfold mailbaglaw01_OctetApart.f
  refine Ev.bind head_tells ?_
  simp only [if_true]
  by_cases h1 : (xa.length : Int) = (xb.length : Int)
  · simp only [if_pos h1]
    by_cases h2 : (xa.length : Int) > 30
    · simp only [if_pos h2]; exact htrue
    · simp only [if_neg h2]
      by_cases h3 : xa.length = 0
      · have : ((xa.length : Int) == 0) = true := by rw [beq_iff_eq]; omega
        rw [this]; exact htrue
      · have : ((xa.length : Int) == 0) = false := by rw [beq_eq_false_iff_ne]; omega
        rw [this]
        have h := apart_loop xa xb ha hb (by omega) (by omega) xa.length 0 (by omega)
        refine Ev.step (fun k => ?_) h
        rw [mailbaglaw01_OctetApart.j0, if_neg (by decide)]
        rfl
  · simp only [if_neg h1]; exact htrue
end Go.Proofs.Ythpgpljpadlegaa.Pure
