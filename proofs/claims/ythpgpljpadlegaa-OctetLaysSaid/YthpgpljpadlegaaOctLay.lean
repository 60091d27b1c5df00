/- What the law's own lay and few compute: parts laid one behind the other. -/
import Derived.Test.YthpgpljpadlegaaOctMore
import Derived.Test.YthpgpljpadlegaaQxf28
import Derived.Test.YthpgpljpadlegaaQxf29
namespace Go.Proofs.Ythpgpljpadlegaa.Oct
open Go Go.RowKit Go.Proofs.YthpgpljpadlegaaW.PrintWords Go.Proofs.YthpgpljpadlegaaW.PrintLast Go.Proofs.YthpgpljpadlegaaW.PrintMore
open Go.Proofs.Ythpgpljpadlegaa.Plain Go.Proofs.Ythpgpljpadlegaa.Q
set_option linter.unusedVariables false

/-- The law's own num: by the page. -/
theorem lnum_loop : ∀ (m : Nat) (acc : List UInt8), m < 9223372036854775808 → acc.length + (be m).length ≤ 100 →
    Ev (fun k => mailbaglaw01_num.l0 k (m : Int) (mkS acc) (acc.length : Int)) (mkS (UInt8.ofNat (acc.length + (be m).length) :: (be m ++ acc))) := by
  intro m
  induction m using Nat.strongRecOn with
  | ind m ih =>
    intro acc hm hl
    by_cases h0 : m = 0
    · subst h0
      rw [be_zero] at hl ⊢
      simp only [List.length_nil, Nat.add_zero, List.nil_append]
      have hl' : acc.length ≤ 100 := by simpa using hl
      have e1 : strOfNums [(acc.length : Int) % 256] = mkS [UInt8.ofNat acc.length] := by
        have : (acc.length : Int) % 256 = (acc.length : Int) := by omega
        rw [this]
        rfl
      have p1 : ((strOfNums [(acc.length : Int) % 256]).size + (mkS acc).size ≤ 9223372036854775807) := by rw [e1, mkS_size, mkS_size]; simp; omega
      refine Ev.step (f := fun _ => some (mkS (UInt8.ofNat acc.length :: acc))) (fun k => ?_) (Ev.now _)
      rw [mailbaglaw01_num.l0, if_neg (by omega)]
      simp only [Option.bind_some]
      rw [if_pos p1, e1, mkS_append]
      rfl
    · rw [be_pos h0, List.length_append, List.length_singleton] at hl
      have p0 : (m : Int) > 0 := by omega
      have e1 : strOfNums [Int.tmod (m : Int) 256 % 256] = mkS [UInt8.ofNat (m % 256)] := by
        have : Int.tmod (m : Int) 256 % 256 = ((m % 256 : Nat) : Int) := by rw [Int.tmod_eq_emod_of_nonneg (by omega)]; omega
        rw [this]
        rfl
      have e2 : wrap64 (Int.tdiv (m : Int) 256) = ((m / 256 : Nat) : Int) := by
        have : Int.tdiv (m : Int) 256 = ((m / 256 : Nat) : Int) := by rw [Int.tdiv_eq_ediv_of_nonneg (by omega)]; omega
        rw [this, wrap64_small (by omega) (by omega)]
      have e3 : wrap64 ((acc.length : Int) + 1) = (((UInt8.ofNat (m % 256) :: acc).length : Nat) : Int) := by rw [wrap64_small (by omega) (by omega), List.length_cons]; omega
      have p1 : ((strOfNums [Int.tmod (m : Int) 256 % 256]).size + (mkS acc).size ≤ 9223372036854775807) := by rw [e1, mkS_size, mkS_size]; simp; omega
      have h := ih (m / 256) (by omega) (UInt8.ofNat (m % 256) :: acc) (by omega) (by rw [List.length_cons]; omega)
      have e4 : UInt8.ofNat ((UInt8.ofNat (m % 256) :: acc).length + (be (m / 256)).length) :: (be (m / 256) ++ UInt8.ofNat (m % 256) :: acc) = UInt8.ofNat (acc.length + (be m).length) :: (be m ++ acc) := by
        rw [be_pos h0, List.append_assoc, List.length_append, List.length_singleton, List.length_cons]
        have : acc.length + 1 + (be (m / 256)).length = acc.length + ((be (m / 256)).length + 1) := by omega
        rw [this]
        rfl
      rw [e4] at h
      refine Ev.step (fun k => ?_) h
      rw [mailbaglaw01_num.l0, if_pos p0]
      simp only [Option.bind_some]
      rw [if_pos p1, e1, mkS_append, e2, e3]
      rfl
theorem lnum_tells (a : Int) (ha : a < 9223372036854775808) : Ev (fun k => mailbaglaw01_num.f k a) (mkS (enc a.toNat)) := by
  by_cases h : 0 ≤ a
  · have h8 := be_len8 (n := a.toNat) (by omega)
    have h1 := lnum_loop a.toNat [] (by omega) (by simp; omega)
    have e : ((a.toNat : Nat) : Int) = a := by omega
    rw [e] at h1
    have e2 : UInt8.ofNat (([] : List UInt8).length + (be a.toNat).length) :: (be a.toNat ++ []) = enc a.toNat := by simp [enc]
    rw [e2] at h1
    exact h1
  · have e : a.toNat = 0 := by omega
    rw [e, enc, be_zero]
    have e1 : strOfNums [(0 : Int) % 256] = mkS [0] := rfl
    refine Ev.step (f := fun _ => some (mkS [UInt8.ofNat ([] : List UInt8).length])) (fun k => ?_) (Ev.now _)
    rw [mailbaglaw01_num.f, mailbaglaw01_num.l0, if_neg (by omega)]
    simp only [Option.bind_some]
    rw [if_pos (by rw [e1]; decide), e1]
    rfl

/-- What is laid: 0 a number, 1 a text, else a flag. -/
def kd (p : S42) : Int := Go.bits .and .i64 p.f0 3
def layP (p : S42) : List UInt8 := if kd p = 0 then enc p.f1.toNat else if kd p = 1 then encT p.f2.data.toList else encF p.f3
def layL (l : List S42) : List UInt8 := (l.map layP).flatten
theorem layL_cons (p : S42) (l : List S42) : layL (p :: l) = layP p ++ layL l := by simp [layL]
theorem layL_append (a b : List S42) : layL (a ++ b) = layL a ++ layL b := by simp [layL]
def OkP (p : S42) : Prop := (-9223372036854775808 ≤ p.f1 ∧ p.f1 < 9223372036854775808) ∧ p.f2.size ≤ 1000
theorem layP_len (p : S42) (h : OkP p) : 1 ≤ (layP p).length ∧ (layP p).length ≤ 1100 := by
  obtain ⟨⟨h1, h2⟩, h3⟩ := h
  have l1 := enc_len (n := p.f1.toNat) (by omega)
  have l2 := enc_len (n := p.f2.size) (by omega)
  have l3 := enc_pos p.f1.toNat
  have l4 := enc_pos p.f2.size
  have l5 := dlen p.f2
  unfold layP
  split
  · omega
  · split
    · simp only [encT, List.length_append]; rw [l5]; omega
    · simp [encF]
theorem layL_len (l : List S42) (h : ∀ p ∈ l, OkP p) : l.length ≤ (layL l).length ∧ (layL l).length ≤ 1100 * l.length := by
  induction l with
  | nil => simp [layL]
  | cons p l ih =>
    have h1 := layP_len p (h p (by simp))
    have h2 := ih (fun q hq => h q (by simp [hq]))
    rw [layL_cons, List.length_append, List.length_cons]
    omega
theorem rd_at (l : List S42) (i : Nat) (h : i < l.length) : rd_T42 l (i : Int) = l[i] := by
  unfold rd_T42
  simp [List.getD, List.getElem?_eq_getElem h]
theorem layL_take (l : List S42) (i : Nat) (h : i < l.length) : layL (l.take (i + 1)) = layL (l.take i) ++ layP l[i] := by
  rw [List.take_succ_eq_append_getElem h, layL_append]
  simp [layL]
theorem lay_loop (l : List S42) (hok : ∀ p ∈ l, OkP p) (hn : l.length ≤ 1000) (d : Nat) : ∀ i : Nat, i + d = l.length →
    Ev (fun k => mailbaglaw01_lay.l0 k (mkS (layL (l.take i))) l (l.length : Int) (i : Int)) (mkS (layL l)) := by
  induction d with
  | zero =>
    intro i hi
    rw [List.take_of_length_le (by omega)]
    refine Ev.step (f := fun _ => some (mkS (layL l))) (fun k => ?_) (Ev.now _)
    rw [mailbaglaw01_lay.l0, if_neg (by omega)]
  | succ d ih =>
    intro i hi
    have hlt : i < l.length := by omega
    have p1 : (i : Int) < (l.length : Int) := by omega
    have p2 : (0 : Int) ≤ (i : Int) := by omega
    have hp := hok l[i] (List.getElem_mem hlt)
    have hlen := layL_len (l.take i) (fun p hp => hok p (List.mem_of_mem_take hp))
    have hlp := layP_len l[i] hp
    have hti : (l.take i).length = i := by rw [List.length_take]; omega
    have ht := layL_take l i hlt
    have h := ih (i + 1) (by omega)
    have e3 : wrap64 ((i : Int) + 1) = ((i + 1 : Nat) : Int) := by rw [wrap64_small (by omega) (by omega)]; omega
    rw [ht] at h
    generalize hacc : layL (l.take i) = acc at *
    generalize hq : l[i] = q at *
    have hr : rd_T42 l (i : Int) = q := by rw [rd_at l i hlt, hq]
    have hbound : acc.length ≤ 1100000 := by omega
    obtain ⟨⟨hp1, hp2⟩, hp3⟩ := hp
    by_cases k0 : kd q = 0
    · have e4 : layP q = enc q.f1.toNat := by rw [layP, if_pos k0]
      rw [e4] at h hlp
      refine Ev.step (f := fun k => (mailbaglaw01_num.f k q.f1).bind fun t202 => (if (mkS acc).size + t202.size ≤ 9223372036854775807 then (mailbaglaw01_lay.l0 k (mkS acc ++ t202) l (l.length : Int) ((i + 1 : Nat) : Int)) else (none))) (fun k => ?_) (Ev.bind (lnum_tells q.f1 hp2) ?_)
      · rw [mailbaglaw01_lay.l0, if_pos p1, if_pos p2, if_pos p1, hr, e3]
        exact if_pos k0
      · have p3 : (mkS acc).size + (mkS (enc q.f1.toNat)).size ≤ 9223372036854775807 := by rw [mkS_size, mkS_size]; omega
        simp only [if_pos p3, mkS_append]
        exact h
    by_cases k1 : kd q = 1
    · have e4 : layP q = encT q.f2.data.toList := by rw [layP, if_neg k0, if_pos k1]
      have hd := dlen q.f2
      have e5 : encT q.f2.data.toList = enc q.f2.size ++ q.f2.data.toList := by rw [encT, hd]
      rw [e4, e5] at h hlp
      rw [List.length_append, hd] at hlp
      refine Ev.step (f := fun k => (mailbaglaw01_num.f k (q.f2.size : Int)).bind fun t203 => (if (mkS acc).size + t203.size ≤ 9223372036854775807 then (if (mkS acc ++ t203).size + (q.f2).size ≤ 9223372036854775807 then (mailbaglaw01_lay.l0 k ((mkS acc ++ t203) ++ (q.f2)) l (l.length : Int) ((i + 1 : Nat) : Int)) else (none)) else (none))) (fun k => ?_) (Ev.bind (lnum_tells (q.f2.size : Int) (by omega)) ?_)
      · rw [mailbaglaw01_lay.l0, if_pos p1, if_pos p2, if_pos p1, hr, e3]
        exact (if_neg k0).trans (if_pos k1)
      · rw [Int.toNat_natCast]
        have p3 : (mkS acc).size + (mkS (enc q.f2.size)).size ≤ 9223372036854775807 := by rw [mkS_size, mkS_size]; omega
        have p4 : (mkS acc ++ mkS (enc q.f2.size)).size + q.f2.size ≤ 9223372036854775807 := by rw [mkS_append, mkS_size, List.length_append]; omega
        have e6 : mkS acc ++ mkS (enc q.f2.size) ++ q.f2 = mkS (acc ++ (enc q.f2.size ++ q.f2.data.toList)) := by
          rw [mkS_append, mkS_data' q.f2, mkS_append, List.append_assoc]
          rfl
        simp only [if_pos p3, if_pos p4, e6]
        exact h
    · have e4 : layP q = encF q.f3 := by rw [layP, if_neg k0, if_neg k1]
      rw [e4] at h
      have p3 : (mkS acc).size + 1 ≤ 9223372036854775807 := by rw [mkS_size]; omega
      refine Ev.step (fun k => ?_) h
      rw [mailbaglaw01_lay.l0, if_pos p1, if_pos p2, if_pos p1, hr, e3]
      refine (if_neg k0).trans ((if_neg k1).trans ?_)
      cases hf : q.f3
      · rw [if_neg (by decide), if_pos p3]
        have : mkS acc ++ (⟨#[0]⟩ : ByteArray) = mkS (acc ++ encF false) := mkS_append acc [0]
        rw [this]
      · rw [if_pos rfl, if_pos p3]
        have : mkS acc ++ (⟨#[1]⟩ : ByteArray) = mkS (acc ++ encF true) := mkS_append acc [1]
        rw [this]
theorem lay_tells (l : List S42) (hok : ∀ p ∈ l, OkP p) (hn : l.length ≤ 1000) : Ev (fun k => mailbaglaw01_lay.f k l) (mkS (layL l)) := by
  have h := lay_loop l hok hn l.length 0 (by omega)
  exact h

/-- few. -/
def fewB (l : List S42) : Bool := l.all (fun p => decide (p.f2.size ≤ 300)) && decide (l.length ≤ 20)
theorem few_loop (l : List S42) (hn : l.length < 9223372036854775808) (d : Nat) : ∀ i : Nat, i + d = l.length → (∀ j (h : j < l.length), j < i → l[j].f2.size ≤ 300) →
    Ev (fun k => mailbaglaw01_few.l0 k l l (l.length : Int) (i : Int)) (fewB l) := by
  induction d with
  | zero =>
    intro i hi hj
    refine Ev.step (f := fun _ => some (fewB l)) (fun k => ?_) (Ev.now _)
    rw [mailbaglaw01_few.l0, if_neg (by omega)]
    congr 1
    have h1 : l.all (fun p => decide (p.f2.size ≤ 300)) = true := by
      rw [List.all_eq_true]
      intro p hp
      obtain ⟨j, h, rfl⟩ := List.getElem_of_mem hp
      exact decide_eq_true (hj j h (by omega))
    rw [fewB, h1, Bool.true_and]
    exact decide_eq_decide.2 (by omega)
  | succ d ih =>
    intro i hi hj
    have hlt : i < l.length := by omega
    have p1 : (i : Int) < (l.length : Int) := by omega
    have p2 : (0 : Int) ≤ (i : Int) := by omega
    have e3 : wrap64 ((i : Int) + 1) = ((i + 1 : Nat) : Int) := by rw [wrap64_small (by omega) (by omega)]; omega
    have hr := rd_at l i hlt
    by_cases h : l[i].f2.size ≤ 300
    · refine Ev.step (fun k => ?_) (ih (i + 1) (by omega) (fun j hj1 hj2 => ?_))
      · rw [mailbaglaw01_few.l0, if_pos p1, if_pos p2, if_pos p1, hr, if_neg (by omega), e3]
      · by_cases hji : j < i
        · exact hj j hj1 hji
        · have : j = i := by omega
          subst this
          exact h
    · have hf : fewB l = false := by
        rw [fewB, Bool.and_eq_false_iff]
        left
        rw [List.all_eq_false]
        exact ⟨l[i], List.getElem_mem hlt, by simpa using h⟩
      rw [hf]
      refine Ev.step (f := fun _ => some false) (fun k => ?_) (Ev.now _)
      rw [mailbaglaw01_few.l0, if_pos p1, if_pos p2, if_pos p1, hr, if_pos (by omega)]
theorem few_tells (l : List S42) (hn : l.length < 9223372036854775808) : Ev (fun k => mailbaglaw01_few.f k l) (fewB l) := few_loop l hn l.length 0 (by omega) (fun j _ h => by omega)
theorem fewB_true {l : List S42} (h : fewB l = true) (hw : ∀ p ∈ l, -9223372036854775808 ≤ p.f1 ∧ p.f1 < 9223372036854775808) : (∀ p ∈ l, OkP p) ∧ (∀ p ∈ l, p.f2.size ≤ 300) ∧ l.length ≤ 20 := by
  rw [fewB, Bool.and_eq_true, List.all_eq_true, decide_eq_true_eq] at h
  refine ⟨fun p hp => ⟨hw p hp, ?_⟩, fun p hp => ?_, h.2⟩
  · have := of_decide_eq_true (h.1 p hp); omega
  · exact of_decide_eq_true (h.1 p hp)
end Go.Proofs.Ythpgpljpadlegaa.Oct
