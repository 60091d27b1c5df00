/- Parts laid one behind the other, behind whatever there is, read again are the same; for every row of parts. -/
import Derived.Test.YthpgpljpadlegaaOctLay
import Derived.Test.YthpgpljpadlegaaQxf9
namespace Go.Proofs.Ythpgpljpadlegaa.Pure
open Go Go.RowKit Go.Proofs.Ythpgpljpadlegaa.Q Go.Proofs.Ythpgpljpadlegaa.Oct Go.Proofs.Ythpgpljpadlegaa.Plain Go.Proofs.YthpgpljpadlegaaW.PrintWords Go.Proofs.YthpgpljpadlegaaW.PrintLast Go.Proofs.YthpgpljpadlegaaW.PrintMore
set_option linter.unusedVariables false

theorem lays_read (l : List S42) (hok : ∀ p ∈ l, OkP p) (h300 : ∀ p ∈ l, p.f2.size ≤ 300) (hn : l.length ≤ 1000) (d : Nat) : ∀ (i : Nat), i + d = l.length →
    Ev (fun k => mailbaglaw01_OctetLays.l1 k l (l.length : Int) (i : Int) (S (some (layL (l.drop i)))) (B (some (layL (l.drop i))))) true := by
  induction d with
  | zero =>
    intro i hi
    rw [List.drop_of_length_le (by omega)]
    refine Ev.step (f := fun _ => some true) (fun k => ?_) (Ev.now _)
    rw [mailbaglaw01_OctetLays.l1, if_neg (by omega), rend_tells]
    simp only [Option.bind_some, rleft_tells]
    rfl
  | succ d ih =>
    intro i hi
    have hlt : i < l.length := by omega
    have p1 : (i : Int) < (l.length : Int) := by omega
    have p2 : (0 : Int) ≤ (i : Int) := by omega
    have e3 : wrap64 ((i : Int) + 1) = ((i + 1 : Nat) : Int) := by rw [wrap64_small (by omega) (by omega)]; omega
    have hr := rd_at l i hlt
    obtain ⟨⟨hp1, hp2⟩, hp3⟩ := hok l[i] (List.getElem_mem hlt)
    have h3 := h300 l[i] (List.getElem_mem hlt)
    have hd := dlen l[i].f2
    have hkd : Go.bits .and .i64 (l[i].f0) 3 = kd l[i] := rfl
    have hih := ih (i + 1) (by omega)
    have hdr : layL (l.drop i) = layP l[i] ++ layL (l.drop (i + 1)) := by rw [List.drop_eq_getElem_cons hlt, layL_cons]
    rw [hdr]
    generalize layL (l.drop (i + 1)) = rest at *
    generalize hq : l[i] = q at *
    by_cases k0 : kd q = 0
    · have h1 := rnum_tells (some (layP q ++ rest)) 4611686018427387904 (by omega)
      simp only [Option.bind_some] at h1
      have e4 : layP q = enc q.f1.toNat := by rw [layP, if_pos k0]
      rw [e4] at h1 ⊢
      rw [rdNum_enc _ (by omega)] at h1
      refine Ev.step (f := fun k => (octet_Reader_Num.f k (S (some (enc q.f1.toNat ++ rest))) (B (some (enc q.f1.toNat ++ rest))) 4611686018427387904).bind fun bt307 => (if bt307.1 = (mn (mx (q.f1) 0) 4611686018427387904) then (mailbaglaw01_OctetLays.j3 k l (l.length : Int) (i : Int) false bt307.2.1 bt307.2.2 (q.f0) (q.f1) (q.f2) (q.f3)) else (mailbaglaw01_OctetLays.j3 k l (l.length : Int) (i : Int) (decide ((q.f1) ≤ 4611686018427387904)) bt307.2.1 bt307.2.2 (q.f0) (q.f1) (q.f2) (q.f3)))) (fun k => ?_) (Ev.bind h1 ?_)
      · rw [mailbaglaw01_OctetLays.l1, if_pos p1, if_pos p2, if_pos p1, hr, hkd, if_pos k0]
      · by_cases hb : (4611686018427387904 : Int).toNat < q.f1.toNat
        · simp only [if_pos hb]
          have p5 : ¬ ((got 0 (none : Option (Nat × List UInt8)) : Nat) : Int) = mn (mx (q.f1) 0) 4611686018427387904 := by
            show ¬ (0 : Int) = _
            unfold mn mx
            split <;> split <;> omega
          have p6 : ¬ q.f1 ≤ 4611686018427387904 := by omega
          have p7 : q.f1 > 4611686018427387904 := by omega
          simp only [if_neg p5, decide_eq_false p6]
          refine Ev.step (f := fun _ => some true) (fun k => ?_) (Ev.now _)
          rw [mailbaglaw01_OctetLays.j3, if_neg (by decide), if_pos p7]
          have := rerr_tells none
          show ((octet_Reader_Err.f (S none) (B none)).bind fun bt310 => (some (bt310.1 == 2))) = _
          rw [this]
          rfl
        · simp only [if_neg hb]
          have p5 : ((got 0 (some (q.f1.toNat, rest)) : Nat) : Int) = mn (mx (q.f1) 0) 4611686018427387904 := by
            show ((q.f1.toNat : Nat) : Int) = _
            unfold mn mx
            split <;> split <;> omega
          have p7 : ¬ q.f1 > 4611686018427387904 := by omega
          simp only [if_pos p5]
          refine Ev.step (fun k => ?_) hih
          rw [mailbaglaw01_OctetLays.j3, if_neg (by decide), if_neg p7, e3]
          rfl
    by_cases k1 : kd q = 1
    · have h1 := rtext_tells (some (layP q ++ rest)) 300 (by omega)
      simp only [Option.bind_some] at h1
      have e4 : layP q = encT q.f2.data.toList := by rw [layP, if_neg k0, if_pos k1]
      rw [e4] at h1 ⊢
      rw [rdText_enc _ (by omega), if_neg (by rw [hd]; show ¬ 300 < q.f2.size; omega)] at h1
      refine Ev.step (f := fun k => (octet_Reader_Text.f k (S (some (encT q.f2.data.toList ++ rest))) (B (some (encT q.f2.data.toList ++ rest))) 300).bind fun bt313 => (if bt313.1.toList = (q.f2).toList then (mailbaglaw01_OctetLays.l1 k l (l.length : Int) ((i + 1 : Nat) : Int) bt313.2.1 bt313.2.2) else (some false))) (fun k => ?_) (Ev.bind h1 ?_)
      · rw [mailbaglaw01_OctetLays.l1, if_pos p1, if_pos p2, if_pos p1, hr, hkd, if_neg k0, if_pos k1, e3]
      · have e5 : (mkS (got [] (some (q.f2.data.toList, rest)))).toList = q.f2.toList := rfl
        simp only [e5, if_true]
        exact hih
    · have h1 := rflag_tells (some (layP q ++ rest))
      simp only [Option.bind_some] at h1
      have e4 : layP q = encF q.f3 := by rw [layP, if_neg k0, if_neg k1]
      rw [e4] at h1 ⊢
      rw [rdFlag_enc] at h1
      refine Ev.step (fun k => ?_) hih
      rw [mailbaglaw01_OctetLays.l1, if_pos p1, if_pos p2, if_pos p1, hr, hkd, if_neg k0, if_neg k1, e3, h1]
      simp only [Option.bind_some]
      have e5 : (got false (some (q.f3, rest)) != q.f3) = false := by show (q.f3 != q.f3) = false; simp
      rw [e5, if_neg (by decide)]
      rfl
theorem lays_lay (b : List Int) (hb : b.length ≤ 100) (l : List S42) (hok : ∀ p ∈ l, OkP p) (h300 : ∀ p ∈ l, p.f2.size ≤ 300) (hn : l.length ≤ 20) (d : Nat) : ∀ (i : Nat), i + d = l.length →
    Ev (fun k => mailbaglaw01_OctetLays.l0 k b l (b ++ numsOf (layL (l.take i))) l (l.length : Int) (i : Int)) true := by
  induction d with
  | zero =>
    intro i hi
    rw [List.take_of_length_le (by omega)]
    have hlay := lay_tells l hok (by omega)
    have hlen := layL_len l hok
    have hread := lays_read l hok h300 (by omega) l.length 0 (by omega)
    have e1 : strOfNums (b ++ numsOf (layL l)) = strOfNums b ++ mkS (layL l) := by
      have h1 : strOfNums b = mkS (b.map fun n => UInt8.ofNat n.toNat) := rfl
      have h2 : strOfNums (b ++ numsOf (layL l)) = mkS ((b.map fun n => UInt8.ofNat n.toNat) ++ layL l) := by
        simp [strOfNums, numsOf, mkS, Function.comp_def]
      rw [h2, h1, mkS_append]
    have p1 : (strOfNums b).size + (mkS (layL l)).size ≤ 9223372036854775807 := by rw [strOfNums_size, mkS_size]; omega
    have p2 : (0 : Int) ≤ (b.length : Int) := by omega
    have p3 : (b.length : Int) ≤ ((b ++ numsOf (layL l)).length : Int) := by rw [List.length_append]; omega
    have e2 : strOfNums ((b ++ numsOf (layL l)).drop ((b.length : Int)).toNat) = mkS (layL l) := by
      rw [Int.toNat_natCast, List.drop_left, str_nums]
    refine Ev.step (f := fun k => (mailbaglaw01_lay.f k l).bind fun t291 => (if (strOfNums b).size + t291.size ≤ 9223372036854775807 then (if (strOfNums (b ++ numsOf (layL l))).toList = ((strOfNums b) ++ t291).toList then (if 0 ≤ (b.length : Int) then (if (b.length : Int) ≤ ((b ++ numsOf (layL l)).length : Int) then ((octet_Read.f (strOfNums ((b ++ numsOf (layL l)).drop ((b.length : Int) : Int).toNat))).bind fun bt296 => (mailbaglaw01_OctetLays.l1 k l (l.length : Int) 0 bt296.1 bt296.2)) else (none)) else (none)) else (some false)) else (none))) (fun k => ?_) (Ev.bind hlay ?_)
    · rw [mailbaglaw01_OctetLays.l0, if_neg (by omega)]
    · simp only [if_pos p1, e1, if_true, if_pos p2, if_pos p3, e2, read_tells, mkS_data, Option.bind_some]
      exact hread
  | succ d ih =>
    intro i hi
    have hlt : i < l.length := by omega
    have p1 : (i : Int) < (l.length : Int) := by omega
    have p2 : (0 : Int) ≤ (i : Int) := by omega
    have e3 : wrap64 ((i : Int) + 1) = ((i + 1 : Nat) : Int) := by rw [wrap64_small (by omega) (by omega)]; omega
    have hr := rd_at l i hlt
    have hlen := layL_len (l.take i) (fun p hp => hok p (List.mem_of_mem_take hp))
    have hti : (l.take i).length = i := by rw [List.length_take]; omega
    obtain ⟨⟨hp1, hp2⟩, hp3⟩ := hok l[i] (List.getElem_mem hlt)
    have hkd : Go.bits .and .i64 (l[i].f0) 3 = kd l[i] := rfl
    have hih := ih (i + 1) (by omega)
    rw [layL_take l i hlt, numsOf_append, ← List.append_assoc] at hih
    have hacc : (b ++ numsOf (layL (l.take i))).length ≤ 30000 := by rw [List.length_append, numsOf_length]; omega
    generalize b ++ numsOf (layL (l.take i)) = acc at *
    generalize hq : l[i] = q at *
    by_cases k0 : kd q = 0
    · have e4 : layP q = enc q.f1.toNat := by rw [layP, if_pos k0]
      rw [e4] at hih
      refine Ev.step (f := fun k => (octet_Num.f k acc q.f1).bind fun t282 => (mailbaglaw01_OctetLays.l0 k b l t282 l (l.length : Int) ((i + 1 : Nat) : Int))) (fun k => ?_) (Ev.bind (num_tells acc q.f1 (by omega) (by omega)) hih)
      rw [mailbaglaw01_OctetLays.l0, if_pos p1, if_pos p2, if_pos p1, hr, hkd, if_pos k0, e3]
    by_cases k1 : kd q = 1
    · have e4 : layP q = encT q.f2.data.toList := by rw [layP, if_neg k0, if_pos k1]
      rw [e4] at hih
      refine Ev.step (f := fun k => (octet_Text.f k acc q.f2).bind fun t285 => (mailbaglaw01_OctetLays.l0 k b l t285 l (l.length : Int) ((i + 1 : Nat) : Int))) (fun k => ?_) (Ev.bind (text_tells acc q.f2 (by omega)) hih)
      rw [mailbaglaw01_OctetLays.l0, if_pos p1, if_pos p2, if_pos p1, hr, hkd, if_neg k0, if_pos k1, e3]
    · have e4 : layP q = encF q.f3 := by rw [layP, if_neg k0, if_neg k1]
      rw [e4] at hih
      refine Ev.step (fun k => ?_) hih
      rw [mailbaglaw01_OctetLays.l0, if_pos p1, if_pos p2, if_pos p1, hr, hkd, if_neg k0, if_neg k1, e3, flag_tells acc q.f3 (by omega)]
      rfl
theorem OctetLays (b : List Int) (l : List S42) (hbn : b.length < 140737488355328) (hn : l.length < 9223372036854775808) (hw : ∀ p ∈ l, -9223372036854775808 ≤ p.f1 ∧ p.f1 < 9223372036854775808) : ∃ k, mailbaglaw01_OctetLays.f k b l = some true := by
  have htrue : Ev (fun k => mailbaglaw01_OctetLays.j0 k b l true) true := Ev.step (f := fun _ => some true) (fun k => by rw [mailbaglaw01_OctetLays.j0, if_pos rfl]) (Ev.now _)
  refine Ev.rounds (g := fun k => mailbaglaw01_OctetLays.f k b l) ?_
  unfold mailbaglaw01_OctetLays.f
  refine Ev.bind head_tells ?_
  simp only [if_true]
  refine Ev.bind (few_tells l hn) ?_
  cases hf : fewB l
  · simp only [Bool.false_eq_true, if_false]; exact htrue
  simp only [if_true]
  obtain ⟨hok, h300, h20⟩ := fewB_true hf hw
  by_cases h1 : (b.length : Int) > 100
  · simp only [decide_eq_true h1]; exact htrue
  simp only [decide_eq_false h1]
  have h := lays_lay b (by omega) l hok h300 h20 l.length 0 (by omega)
  have e : b ++ numsOf (layL (l.take 0)) = b := by simp [layL, numsOf]
  rw [e] at h
  refine Ev.step (fun k => ?_) h
  rw [mailbaglaw01_OctetLays.j0, if_neg (by decide)]
  simp only [Option.bind_some, List.length_nil, Nat.zero_add, List.nil_append]
  rw [if_pos hbn]
  rfl
end Go.Proofs.Ythpgpljpadlegaa.Pure
