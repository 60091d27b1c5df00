/- What wire's functions of answers compute, in the words of the plain encoding. -/
import Derived.Test.YthpgpljpadlegaaWire
import Derived.Test.YthpgpljpadlegaaQxf35
import Derived.Test.YthpgpljpadlegaaQxf36
import Derived.Test.YthpgpljpadlegaaQxf37
import Derived.Test.YthpgpljpadlegaaQxf38
namespace Go.Proofs.Ythpgpljpadlegaa.Wire
open Go Go.RowKit Go.Proofs.Ythpgpljpadlegaa.Q Go.Proofs.Ythpgpljpadlegaa.Oct Go.Proofs.Ythpgpljpadlegaa.Plain Go.Proofs.YthpgpljpadlegaaW.PrintWords Go.Proofs.YthpgpljpadlegaaW.PrintLast Go.Proofs.YthpgpljpadlegaaW.PrintMore
set_option linter.unusedVariables false
set_option linter.unusedSimpArgs false

def textsL (l : List ByteArray) : List UInt8 := (l.map fun s => encT s.data.toList).flatten
theorem textsL_nil : textsL [] = [] := rfl
theorem textsL_cons (s : ByteArray) (l : List ByteArray) : textsL (s :: l) = encT s.data.toList ++ textsL l := by simp [textsL]
theorem textsL_append (a b : List ByteArray) : textsL (a ++ b) = textsL a ++ textsL b := by simp [textsL]
theorem textsL_len (l : List ByteArray) : l.length ≤ (textsL l).length := by
  induction l with
  | nil => simp
  | cons s l ih =>
    have := encT_pos s.data.toList
    rw [textsL_cons, List.length_append, List.length_cons]
    omega
theorem textsL_mem {s : ByteArray} {l : List ByteArray} (h : s ∈ l) : s.size ≤ (textsL l).length := by
  induction l with
  | nil => cases h
  | cons a l ih =>
    rw [textsL_cons, List.length_append]
    rcases List.mem_cons.1 h with rfl | h
    · rw [encT, List.length_append, dlen]; omega
    · have := ih h; omega
theorem textsL_take (l : List ByteArray) (i : Nat) (h : i < l.length) : textsL (l.take (i + 1)) = textsL (l.take i) ++ encT l[i].data.toList := by
  rw [List.take_succ_eq_append_getElem h, textsL_append]
  simp [textsL]
theorem textsL_take_len (l : List ByteArray) (i : Nat) : (textsL (l.take i)).length ≤ (textsL l).length := by
  have : textsL l = textsL (l.take i) ++ textsL (l.drop i) := by rw [← textsL_append, List.take_append_drop]
  rw [this, List.length_append]; omega
def ansL (e n : Int) (l : List ByteArray) : List UInt8 := enc e.toNat ++ (enc n.toNat ++ (enc l.length ++ textsL l))

theorem aenc_loop (l : List ByteArray) (hd : List UInt8) (hh : hd.length ≤ 100) (hl : (textsL l).length ≤ 1099511627776) (d : Nat) : ∀ i : Nat, i + d = l.length →
    Ev (fun k => wire_Answer_Encode.l0 k (numsOf (hd ++ textsL (l.take i))) l (l.length : Int) (i : Int)) (mkS (hd ++ textsL l)) := by
  have hc := textsL_len l
  induction d with
  | zero =>
    intro i hi
    rw [List.take_of_length_le (by omega)]
    exact Ev.step (f := fun _ => some (mkS (hd ++ textsL l))) (fun k => by rw [wire_Answer_Encode.l0, if_neg (by omega), str_nums]) (Ev.now _)
  | succ d ih =>
    intro i hi
    have hi' : i < l.length := by omega
    have h1 := textsL_take_len l i
    have h2 := textsL_mem (List.getElem_mem hi')
    have e6 : wrap64 ((i : Int) + 1) = ((i + 1 : Nat) : Int) := by rw [wrap64_small (by omega) (by omega)]; omega
    have ih' := ih (i + 1) (by omega)
    rw [textsL_take l i hi', ← List.append_assoc] at ih'
    refine Ev.step (f := fun k => (octet_Text.f k (numsOf (hd ++ textsL (l.take i))) l[i]).bind fun t => wire_Answer_Encode.l0 k t l (l.length : Int) ((i + 1 : Nat) : Int)) (fun k => by
      rw [wire_Answer_Encode.l0, if_pos (by omega), if_pos (by omega), if_pos (by omega), rdOf_at l i hi', e6]) ?_
    refine Ev.bind (text_tells _ l[i] (by rw [numsOf_length, List.length_append]; omega)) ?_
    rw [← numsOf_append]
    exact ih'
theorem aencode_tells (e n : Int) (l : List ByteArray) (he : e < 18446744073709551616) (hn : n < 18446744073709551616) (hl : (textsL l).length ≤ 1099511627776) :
    Ev (fun k => wire_Answer_Encode.f k e n l) (mkS (ansL e n l)) := by
  have hc := textsL_len l
  have l1 := enc_len (n := e.toNat) (by omega)
  have l2 := enc_len (n := n.toNat) (by omega)
  have l3 := enc_len (n := l.length) (by omega)
  unfold wire_Answer_Encode.f
  refine Ev.bind (num_tells [] e he (by simp)) ?_
  rw [List.nil_append]
  refine Ev.bind (num_tells _ n hn (by rw [numsOf_length]; omega)) ?_
  rw [← numsOf_append]
  refine Ev.bind (num_tells _ (l.length : Int) (by omega) (by rw [numsOf_length, List.length_append]; omega)) ?_
  rw [← numsOf_append]
  have h := aenc_loop l (enc e.toNat ++ enc n.toNat ++ enc l.length) (by simp only [List.length_append]; omega) hl l.length 0 (by omega)
  have e1 : ansL e n l = enc e.toNat ++ enc n.toNat ++ enc l.length ++ textsL l := by simp [ansL]
  rw [e1]
  simp only [List.take_zero, textsL_nil, List.append_nil] at h
  exact h

/-! ### reading -/
def rdTexts : Nat → List UInt8 → Nat → Option (List (List UInt8) × List UInt8)
  | 0, l, _ => some ([], l)
  | n + 1, l, most => (rdText l most).bind fun p => (rdTexts n p.2 most).map fun q => (p.1 :: q.1, q.2)
def ans (e n : Int) (acc : List ByteArray) (o : Option (List (List UInt8) × List UInt8)) : Int × Int × List ByteArray × Int :=
  match o with
  | some (ss, []) => (e, n, acc ++ ss.map mkS, 0)
  | _ => (0, 0, [], 2)
theorem rd_loop (s : ByteArray) (hs : s.size < 9223372036854775808) (e n : Int) (c : Nat) (hc : c < 4398046511104) (d : Nat) : ∀ (i : Nat) (st : Option (List UInt8)) (acc : List ByteArray), i + d = c → acc.length + d < 8796093022208 →
    Ev (fun k => wire_ReadAnswer.l0 k s (c : Int) (i : Int) (S st) (B st) e n acc) (ans e n acc (st.bind fun l => rdTexts d l s.size)) := by
  induction d with
  | zero =>
    intro i st acc hi ha
    refine Ev.step (f := fun k => (octet_Reader_End.f (S st) (B st)).bind fun bt406 => (if bt406.1 = 0 then (some (e, n, acc, (0 : Int))) else (some (0, 0, ([] : List ByteArray), 2)))) (fun k => by rw [wire_ReadAnswer.l0, if_neg (by omega)]) ?_
    rw [rend_tells]
    simp only [Option.bind_some]
    cases st with
    | none => exact Ev.now _
    | some l =>
      cases l with
      | nil => simp only [if_true, Option.bind_some, rdTexts, ans, List.map_nil, List.append_nil]; exact Ev.now _
      | cons x l => exact Ev.now _
  | succ d ih =>
    intro i st acc hi ha
    have e6 : wrap64 ((i : Int) + 1) = ((i + 1 : Nat) : Int) := by rw [wrap64_small (by omega) (by omega)]; omega
    cases st with
    | none =>
      refine Ev.step (f := fun _ => some (0, 0, ([] : List ByteArray), 2)) (fun k => by
        rw [wire_ReadAnswer.l0, if_pos (by omega), rerr_tells]
        simp only [Option.bind_some, Option.isNone_none, if_true]
        rw [if_neg (by omega), rend_tells]
        rfl) ?_
      exact Ev.now _
    | some l =>
      refine Ev.step (f := fun k => (octet_Reader_Text.f k (S (some l)) (B (some l)) (s.size : Int)).bind fun bt412 => (if acc.length < 8796093022208 then (wire_ReadAnswer.l0 k s (c : Int) ((i + 1 : Nat) : Int) bt412.2.1 bt412.2.2 e n (acc ++ [bt412.1])) else none)) (fun k => by
        rw [wire_ReadAnswer.l0, if_pos (by omega), rerr_tells]
        simp only [Option.bind_some, Option.isNone_some, Bool.false_eq_true, if_false, if_true]
        rw [e6]) ?_
      refine Ev.bind (rtext_tells (some l) (s.size : Int) (by omega)) ?_
      have pa : acc.length < 8796093022208 := by omega
      simp only [if_pos pa]
      have ih' := ih (i + 1) (nxt ((some l).bind fun l => rdText l s.size)) (acc ++ [mkS (got [] ((some l).bind fun l => rdText l s.size))]) (by omega) (by rw [List.length_append, List.length_singleton]; omega)
      simp only [Int.toNat_natCast]
      have hr : ans e n (acc ++ [mkS (got [] ((some l).bind fun l => rdText l s.size))]) ((nxt ((some l).bind fun l => rdText l s.size)).bind fun l => rdTexts d l s.size) = ans e n acc ((some l).bind fun l => rdTexts (d + 1) l s.size) := by
        simp only [Option.bind_some, rdTexts]
        cases hq : rdText l s.size with
        | none => rfl
        | some p =>
          obtain ⟨t, u⟩ := p
          simp only [nxt, got, Option.map_some, Option.bind_some, Option.getD_some]
          cases hw : rdTexts d u s.size with
          | none => rfl
          | some q =>
            obtain ⟨ss, v⟩ := q
            cases v with
            | nil => simp [ans]
            | cons x v => rfl
      rw [hr] at ih'
      exact ih'
def rdAns (L : List UInt8) : Option (Nat × Nat × List (List UInt8)) :=
  (rdNum L 1000).bind fun p => (rdNum p.2 1099511627776).bind fun q => (rdNum q.2 L.length).bind fun r => (rdTexts r.1 r.2 L.length).bind fun t => if t.2 = [] then some (p.1, q.1, t.1) else none
theorem rreadAnswer_tells (s : ByteArray) (hs : s.size < 4398046511104) :
    Ev (fun k => wire_ReadAnswer.f k s) (match rdAns s.data.toList with | none => ((0 : Int), (0 : Int), ([] : List ByteArray), (2 : Int)) | some (e, n, ss) => ((e : Int), (n : Int), ss.map mkS, (0 : Int))) := by
  have hd := dlen s
  unfold wire_ReadAnswer.f
  rw [read_tells]
  simp only [Option.bind_some]
  refine Ev.bind (rnum_tells (some s.data.toList) 1000 (by omega)) ?_
  refine Ev.bind (rnum_tells _ 1099511627776 (by omega)) ?_
  refine Ev.bind (rnum_tells _ (s.size : Int) (by omega)) ?_
  simp only [Int.toNat_natCast, Option.bind_some]
  unfold rdAns
  rw [hd]
  have t1 : (1000 : Int).toNat = 1000 := rfl
  have t2 : (1099511627776 : Int).toNat = 1099511627776 := rfl
  rw [t1, t2]
  generalize s.data.toList = L
  cases h1 : rdNum L 1000 with
  | none =>
    simp only [nxt, got, Option.map_none, Option.bind_none, Option.getD_none]
    have h := rd_loop s (by omega) 0 0 0 (by omega) 0 0 none [] (by omega) (by simp)
    exact h
  | some p =>
    obtain ⟨e, u⟩ := p
    simp only [nxt, got, Option.map_some, Option.bind_some, Option.getD_some]
    cases h2 : rdNum u 1099511627776 with
    | none =>
      simp only [nxt, got, Option.map_none, Option.bind_none, Option.getD_none]
      have h := rd_loop s (by omega) (e : Int) 0 0 (by omega) 0 0 none [] (by omega) (by simp)
      exact h
    | some q =>
      obtain ⟨n, v⟩ := q
      simp only [nxt, got, Option.map_some, Option.bind_some, Option.getD_some]
      cases h3 : rdNum v s.size with
      | none =>
        simp only [nxt, got, Option.map_none, Option.bind_none, Option.getD_none]
        have h := rd_loop s (by omega) (e : Int) (n : Int) 0 (by omega) 0 0 none [] (by omega) (by simp)
        exact h
      | some r =>
        obtain ⟨c, x⟩ := r
        simp only [nxt, got, Option.map_some, Option.bind_some, Option.getD_some]
        obtain ⟨g1, g2, g3⟩ := rdNum_some h3
        have h := rd_loop s (by omega) (e : Int) (n : Int) c (by omega) c 0 (some x) [] (by omega) (by rw [List.length_nil]; omega)
        simp only [Option.bind_some] at h
        cases h4 : rdTexts c x s.size with
        | none => rw [h4] at h; exact h
        | some t =>
          obtain ⟨ss, y⟩ := t
          rw [h4] at h
          cases y with
          | nil => simp only [ans, List.nil_append] at h; simp only [Option.bind_some, if_true]; exact h
          | cons z y => exact h
theorem rdTexts_enc : ∀ (l : List ByteArray) (t : List UInt8) (most : Nat), (∀ s ∈ l, s.size ≤ most) → most < 18446744073709551616 → rdTexts l.length (textsL l ++ t) most = some (l.map fun s => s.data.toList, t)
  | [], t, most, h, hm => rfl
  | s :: l, t, most, h, hm => by
    have h1 := h s (by simp)
    rw [textsL_cons, List.length_cons, rdTexts, List.append_assoc, rdText_enc _ (by rw [dlen]; omega), if_neg (by rw [dlen]; omega)]
    simp only [Option.bind_some]
    rw [rdTexts_enc l t most (fun x hx => h x (by simp [hx])) hm]
    rfl
theorem rdTexts_some : ∀ (n : Nat) (l : List UInt8) (most : Nat) (ss : List (List UInt8)) (t : List UInt8), rdTexts n l most = some (ss, t) → l = textsL (ss.map mkS) ++ t ∧ ss.length = n
  | 0, l, most, ss, t, h => by
    injection h with h
    injection h with h1 h2
    subst h1; subst h2
    exact ⟨rfl, rfl⟩
  | n + 1, l, most, ss, t, h => by
    rw [rdTexts] at h
    cases h1 : rdText l most with
    | none => rw [h1] at h; cases h
    | some p =>
      obtain ⟨s, u⟩ := p
      rw [h1] at h
      simp only [Option.bind_some] at h
      cases h2 : rdTexts n u most with
      | none => rw [h2] at h; cases h
      | some q =>
        obtain ⟨ss', t'⟩ := q
        rw [h2] at h
        simp only [Option.map_some] at h
        injection h with h
        injection h with e1 e2
        subst e1; subst e2
        obtain ⟨g1, g2, g3⟩ := rdText_some h1
        obtain ⟨k1, k2⟩ := rdTexts_some n u most ss' t' h2
        refine ⟨?_, by rw [List.length_cons, k2]⟩
        rw [List.map_cons, textsL_cons, List.append_assoc, ← k1, mkS_data]
        exact g1
theorem rdAns_enc {e n : Int} {l : List ByteArray} (he0 : 0 ≤ e) (he : e ≤ 1000) (hn0 : 0 ≤ n) (hn : n ≤ 1099511627776) (hl : (textsL l).length ≤ 1099511627776) :
    rdAns (ansL e n l) = some (e.toNat, n.toNat, l.map fun s => s.data.toList) := by
  have hc := textsL_len l
  have hlen : (textsL l).length ≤ (ansL e n l).length := by rw [ansL]; simp only [List.length_append]; omega
  have hlt : (ansL e n l).length < 18446744073709551616 := by
    have l1 := enc_len (n := e.toNat) (by omega)
    have l2 := enc_len (n := n.toNat) (by omega)
    have l3 := enc_len (n := l.length) (by omega)
    rw [ansL]; simp only [List.length_append]; omega
  unfold rdAns
  generalize hN : (ansL e n l).length = N at hlen hlt
  rw [ansL, rdNum_enc _ (by omega), if_neg (by omega)]
  simp only [Option.bind_some]
  rw [rdNum_enc _ (by omega), if_neg (by omega)]
  simp only [Option.bind_some]
  rw [rdNum_enc _ (by omega), if_neg (by omega)]
  simp only [Option.bind_some]
  have h := rdTexts_enc l [] N (fun s hs => by have := textsL_mem hs; omega) hlt
  rw [List.append_nil] at h
  rw [h]
  simp only [Option.bind_some, if_true]
theorem rdAns_some {L : List UInt8} {e n : Nat} {ss : List (List UInt8)} (h : rdAns L = some (e, n, ss)) : L = ansL (e : Int) (n : Int) (ss.map mkS) ∧ e ≤ 1000 ∧ n ≤ 1099511627776 := by
  unfold rdAns at h
  cases h1 : rdNum L 1000 with
  | none => rw [h1] at h; cases h
  | some p =>
    obtain ⟨e', u⟩ := p
    rw [h1] at h
    simp only [Option.bind_some] at h
    cases h2 : rdNum u 1099511627776 with
    | none => rw [h2] at h; cases h
    | some q =>
      obtain ⟨n', v⟩ := q
      rw [h2] at h
      simp only [Option.bind_some] at h
      cases h3 : rdNum v L.length with
      | none => rw [h3] at h; cases h
      | some r =>
        obtain ⟨c, x⟩ := r
        rw [h3] at h
        simp only [Option.bind_some] at h
        cases h4 : rdTexts c x L.length with
        | none => rw [h4] at h; cases h
        | some t =>
          obtain ⟨ss', y⟩ := t
          rw [h4] at h
          simp only [Option.bind_some] at h
          by_cases hy : y = []
          · rw [if_pos hy] at h
            injection h with h
            injection h with e1 h
            injection h with e2 e3
            subst e1; subst e2; subst e3; subst hy
            obtain ⟨g1, g2, g3⟩ := rdNum_some h1
            obtain ⟨k1, k2, k3⟩ := rdNum_some h2
            obtain ⟨m1, m2, m3⟩ := rdNum_some h3
            obtain ⟨o1, o2⟩ := rdTexts_some _ _ _ _ _ h4
            rw [List.append_nil] at o1
            refine ⟨?_, g2, k2⟩
            rw [ansL, Int.toNat_natCast, Int.toNat_natCast, List.length_map, o2, ← o1, ← m1, ← k1]
            exact g1
          · rw [if_neg hy] at h; cases h
theorem mkS_map (l : List ByteArray) : (l.map fun s => s.data.toList).map mkS = l := by
  rw [List.map_map]
  exact List.map_id l
/-- An answer that is within the page, there and back. -/
theorem readAnswer_enc {e n : Int} {l : List ByteArray} (he0 : 0 ≤ e) (he : e ≤ 1000) (hn0 : 0 ≤ n) (hn : n ≤ 1099511627776) (hl : (textsL l).length ≤ 1099511627776) :
    Ev (fun k => wire_ReadAnswer.f k (mkS (ansL e n l))) (e, n, l, 0) := by
  have hc := textsL_len l
  have hlt : (ansL e n l).length < 4398046511104 := by
    have l1 := enc_len (n := e.toNat) (by omega)
    have l2 := enc_len (n := n.toNat) (by omega)
    have l3 := enc_len (n := l.length) (by omega)
    rw [ansL]; simp only [List.length_append]; omega
  have h := rreadAnswer_tells (mkS (ansL e n l)) (by rw [mkS_size]; exact hlt)
  rw [mkS_data, rdAns_enc he0 he hn0 hn hl] at h
  simp only [mkS_map] at h
  have e1 : ((e.toNat : Nat) : Int) = e := by omega
  have e2 : ((n.toNat : Nat) : Int) = n := by omega
  rw [e1, e2] at h
  exact h

/-! ### the same -/
theorem toList_iff {a b : ByteArray} : a.toList = b.toList ↔ a = b := by
  rw [toList_mk, toList_mk]
  refine ⟨fun h => ?_, fun h => by rw [h]⟩
  rw [mkS_data' a, h]; rfl
theorem equal_loop (a b : List ByteArray) (hl : a.length = b.length) (hn : a.length < 9223372036854775808) (d : Nat) : ∀ i : Nat, i + d = a.length →
    Ev (fun k => slices_Equal_string_string.l0 k a b (a.length : Int) (i : Int)) (decide (a.drop i = b.drop i)) := by
  induction d with
  | zero =>
    intro i hi
    rw [List.drop_of_length_le (by omega), List.drop_of_length_le (by omega)]
    exact Ev.step (f := fun _ => some true) (fun k => by rw [slices_Equal_string_string.l0, if_neg (by omega)]) (Ev.now _)
  | succ d ih =>
    intro i hi
    have hi' : i < a.length := by omega
    have hi2 : i < b.length := by omega
    have e6 : wrap64 ((i : Int) + 1) = ((i + 1 : Nat) : Int) := by rw [wrap64_small (by omega) (by omega)]; omega
    have ih' := ih (i + 1) (by omega)
    rw [List.drop_eq_getElem_cons hi', List.drop_eq_getElem_cons hi2]
    by_cases h : a[i] = b[i]
    · have e1 : decide (a[i] :: a.drop (i + 1) = b[i] :: b.drop (i + 1)) = decide (a.drop (i + 1) = b.drop (i + 1)) := by
        rw [decide_eq_decide, h, List.cons.injEq]; simp
      rw [e1]
      refine Ev.step (fun k => ?_) ih'
      rw [slices_Equal_string_string.l0, if_pos (by omega), if_pos (by omega), if_pos (by omega), if_pos (by omega), rdOf_at a i hi', rdOf_at b i hi2, if_pos (by rw [h]), e6]
    · rw [decide_eq_false (fun e => h (List.cons.inj e).1)]
      refine Ev.step (f := fun _ => some false) (fun k => ?_) (Ev.now _)
      rw [slices_Equal_string_string.l0, if_pos (by omega), if_pos (by omega), if_pos (by omega), if_pos (by omega), rdOf_at a i hi', rdOf_at b i hi2, if_neg (fun e => h (toList_iff.1 e))]
theorem equal_tells (a b : List ByteArray) (hn : a.length < 9223372036854775808) : Ev (fun k => slices_Equal_string_string.f k a b) (decide (a = b)) := by
  unfold slices_Equal_string_string.f
  by_cases h : a.length = b.length
  · have p1 : (a.length : Int) = (b.length : Int) := by omega
    simp only [if_pos p1]
    exact equal_loop a b h hn a.length 0 (by omega)
  · have p1 : ¬ (a.length : Int) = (b.length : Int) := by omega
    simp only [if_neg p1]
    rw [decide_eq_false (fun e => h (by rw [e]))]
    exact Ev.now _
theorem same_tells (e n : Int) (l : List ByteArray) (e' n' : Int) (l' : List ByteArray) (hn : l.length < 9223372036854775808) :
    Ev (fun k => wire_Answer_Same.f k e n l e' n' l') (decide (e = e' ∧ n = n' ∧ l = l')) := by
  unfold wire_Answer_Same.f
  by_cases h1 : e = e'
  · simp only [if_pos h1]
    by_cases h2 : n = n'
    · simp only [if_pos h2]
      have e1 : decide (e = e' ∧ n = n' ∧ l = l') = decide (l = l') := by rw [decide_eq_decide]; exact ⟨fun h => h.2.2, fun h => ⟨h1, h2, h⟩⟩
      rw [e1]
      exact Ev.bind (equal_tells l l' hn) (Ev.now _)
    · simp only [if_neg h2]
      rw [decide_eq_false (fun h => h2 h.2.1)]
      exact Ev.now _
  · simp only [if_neg h1]
    rw [decide_eq_false (fun h => h1 h.1)]
    exact Ev.now _
end Go.Proofs.Ythpgpljpadlegaa.Wire
