/- What wire.ReadAsk computes, in the words of the plain encoding. -/
import Derived.Test.YthpgpljpadlegaaWire
import Derived.Test.YthpgpljpadlegaaAskA
namespace Go.Proofs.Ythpgpljpadlegaa.Wire
open Go Go.RowKit Go.Proofs.Ythpgpljpadlegaa.Q Go.Proofs.Ythpgpljpadlegaa.Oct Go.Proofs.Ythpgpljpadlegaa.Plain Go.Proofs.YthpgpljpadlegaaW.PrintWords Go.Proofs.YthpgpljpadlegaaW.PrintLast Go.Proofs.YthpgpljpadlegaaW.PrintMore
set_option linter.unusedVariables false
set_option linter.unusedSimpArgs false

def stepN (most : Nat) (st : Option (List UInt8)) : Option (Nat × List UInt8) := st.bind fun l => rdNum l most
def stepT (st : Option (List UInt8)) : Option (List UInt8 × List UInt8) := st.bind fun l => rdText l 4096
def askEnd (o : Int) (a b c d : ByteArray) (n m : Int) (st : Option (List UInt8)) : AskT :=
  if st = some [] then (if RightP o a b c d n m then (o, a, b, c, d, n, m, 0) else noAsk 2) else noAsk 2
def askOut7 (p1 : Option (Nat × List UInt8)) (p2 p3 p4 p5 : Option (List UInt8 × List UInt8)) (p6 p7 : Option (Nat × List UInt8)) : AskT :=
  askEnd ((got 0 p1 : Nat) : Int) (mkS (got [] p2)) (mkS (got [] p3)) (mkS (got [] p4)) (mkS (got [] p5)) ((got 0 p6 : Nat) : Int) ((got 0 p7 : Nat) : Int) (nxt p7)
def askOut6 (p1 : Option (Nat × List UInt8)) (p2 p3 p4 p5 : Option (List UInt8 × List UInt8)) (p6 : Option (Nat × List UInt8)) : AskT := askOut7 p1 p2 p3 p4 p5 p6 (stepN 1099511627776 (nxt p6))
def askOut5 (p1 : Option (Nat × List UInt8)) (p2 p3 p4 p5 : Option (List UInt8 × List UInt8)) : AskT := askOut6 p1 p2 p3 p4 p5 (stepN 1099511627776 (nxt p5))
def askOut4 (p1 : Option (Nat × List UInt8)) (p2 p3 p4 : Option (List UInt8 × List UInt8)) : AskT := askOut5 p1 p2 p3 p4 (stepT (nxt p4))
def askOut3 (p1 : Option (Nat × List UInt8)) (p2 p3 : Option (List UInt8 × List UInt8)) : AskT := askOut4 p1 p2 p3 (stepT (nxt p3))
def askOut2 (p1 : Option (Nat × List UInt8)) (p2 : Option (List UInt8 × List UInt8)) : AskT := askOut3 p1 p2 (stepT (nxt p2))
def askOut (L : List UInt8) : AskT := askOut2 (stepN 19 (some L)) (stepT (nxt (stepN 19 (some L))))
theorem numStep (st : Option (List UInt8)) (a : Int) (m : Nat) (hm : a.toNat = m) (ha : a < 9223372036854775808) :
    Ev (fun k => octet_Reader_Num.f k (S st) (B st) a) (((got 0 (stepN m st) : Nat) : Int), S (nxt (stepN m st)), B (nxt (stepN m st))) := by
  subst hm; exact rnum_tells st a ha
theorem textStep (st : Option (List UInt8)) : Ev (fun k => octet_Reader_Text.f k (S st) (B st) 4096) (mkS (got [] (stepT st)), S (nxt (stepT st)), B (nxt (stepT st))) :=
  rtext_tells st 4096 (by omega)
theorem end_tells (o : Int) (a b c d : ByteArray) (n m : Int) (st : Option (List UInt8)) :
    Ev (fun _ => (octet_Reader_End.f (S st) (B st)).bind fun b8 => if b8.1 = 0 then (wire_Ask_Right.f o a b c d n m).bind fun t => if t = true then some (o, a, b, c, d, n, m, (0 : Int)) else some (noAsk 2) else some (noAsk 2)) (askEnd o a b c d n m st) := by
  rw [rend_tells, right_tells]
  simp only [Option.bind_some]
  unfold askEnd
  by_cases h : st = some []
  · rw [if_pos h, if_pos h]
    simp only [if_true]
    by_cases hr : RightP o a b c d n m
    · rw [if_pos hr, decide_eq_true hr]; simp only [if_true]; exact Ev.now _
    · rw [if_neg hr, decide_eq_false hr]; simp only [Bool.false_eq_true, if_false]; exact Ev.now _
  · have : ¬ (2 : Int) = 0 := by omega
    rw [if_neg h, if_neg h]
    simp only [if_neg this]
    exact Ev.now _
theorem readAsk_tells (s : ByteArray) (hs : ¬ (s.size : Int) > 20000) : Ev (fun k => wire_ReadAsk.f k s) (askOut s.data.toList) := by
  unfold wire_ReadAsk.f
  simp only [if_neg hs]
  rw [read_tells]
  simp only [Option.bind_some]
  refine Ev.bind (numStep (some s.data.toList) 19 19 rfl (by omega)) ?_
  refine Ev.bind (textStep _) ?_
  refine Ev.bind (textStep _) ?_
  refine Ev.bind (textStep _) ?_
  refine Ev.bind (textStep _) ?_
  refine Ev.bind (numStep _ 1099511627776 1099511627776 rfl (by omega)) ?_
  refine Ev.bind (numStep _ 1099511627776 1099511627776 rfl (by omega)) ?_
  exact end_tells _ _ _ _ _ _ _ _
theorem readAsk_long_tells (s : ByteArray) (hs : (s.size : Int) > 20000) : Ev (fun k => wire_ReadAsk.f k s) (noAsk 4) := by
  unfold wire_ReadAsk.f
  simp only [if_pos hs]
  exact Ev.now _
theorem nxt_some {α : Type} (d : α) {p : Option (α × List UInt8)} {t : List UInt8} (h : nxt p = some t) : ∃ v, p = some (v, t) ∧ got d p = v := by
  cases p with
  | none => cases h
  | some q =>
    obtain ⟨v, u⟩ := q
    simp only [nxt, Option.map_some, Option.some.injEq] at h
    subst h
    exact ⟨v, rfl, rfl⟩
theorem stepN_some {m : Nat} {st : Option (List UInt8)} {v : Nat} {t : List UInt8} (h : stepN m st = some (v, t)) : st = some (enc v ++ t) ∧ v ≤ m := by
  cases st with
  | none => cases h
  | some l =>
    obtain ⟨h1, h2, _⟩ := rdNum_some (l := l) h
    exact ⟨by rw [h1], h2⟩
theorem stepT_some {st : Option (List UInt8)} {v : List UInt8} {t : List UInt8} (h : stepT st = some (v, t)) : st = some (encT v ++ t) ∧ v.length ≤ 4096 := by
  cases st with
  | none => cases h
  | some l =>
    obtain ⟨h1, h2, _⟩ := rdText_some (l := l) h
    exact ⟨by rw [h1], h2⟩
/-- It is a question, and the bytes are just that question's; or there is none. -/
theorem askOut_cases (L : List UInt8) : askOut L = noAsk 2 ∨ ∃ (o : Int) (a b c d : ByteArray) (n m : Int), askOut L = (o, a, b, c, d, n, m, 0) ∧ RightP o a b c d n m ∧ L = askL o a b c d n m := by
  unfold askOut askOut2 askOut3 askOut4 askOut5 askOut6
  generalize h1 : stepN 19 (some L) = p1
  generalize h2 : stepT (nxt p1) = p2
  generalize h3 : stepT (nxt p2) = p3
  generalize h4 : stepT (nxt p3) = p4
  generalize h5 : stepT (nxt p4) = p5
  generalize h6 : stepN 1099511627776 (nxt p5) = p6
  generalize h7 : stepN 1099511627776 (nxt p6) = p7
  unfold askOut7 askEnd
  by_cases he : nxt p7 = some []
  · rw [if_pos he]
    obtain ⟨v7, e7, g7⟩ := nxt_some 0 he
    subst e7
    obtain ⟨n6, l7⟩ := stepN_some h7
    obtain ⟨v6, e6, g6⟩ := nxt_some 0 n6
    subst e6
    obtain ⟨n5, l6⟩ := stepN_some h6
    obtain ⟨v5, e5, g5⟩ := nxt_some [] n5
    subst e5
    obtain ⟨n4, l5⟩ := stepT_some h5
    obtain ⟨v4, e4, g4⟩ := nxt_some [] n4
    subst e4
    obtain ⟨n3, l4⟩ := stepT_some h4
    obtain ⟨v3, e3, g3⟩ := nxt_some [] n3
    subst e3
    obtain ⟨n2, l3⟩ := stepT_some h3
    obtain ⟨v2, e2, g2⟩ := nxt_some [] n2
    subst e2
    obtain ⟨n1, l2⟩ := stepT_some h2
    obtain ⟨v1, e1, g1⟩ := nxt_some 0 n1
    subst e1
    obtain ⟨n0, l1⟩ := stepN_some h1
    rw [g1, g2, g3, g4, g5, g6, g7]
    by_cases hr : RightP (v1 : Int) (mkS v2) (mkS v3) (mkS v4) (mkS v5) (v6 : Int) (v7 : Int)
    · rw [if_pos hr]
      refine .inr ⟨_, _, _, _, _, _, _, rfl, hr, ?_⟩
      injection n0 with n0
      rw [n0, askL, mkS_data, mkS_data, mkS_data, mkS_data, Int.toNat_natCast, Int.toNat_natCast, Int.toNat_natCast, List.append_nil]
    · rw [if_neg hr]
      exact .inl rfl
  · rw [if_neg he]
    exact .inl rfl
theorem stepN_enc {n m : Nat} (t : List UInt8) (h : n ≤ m) (hn : n < 18446744073709551616) : stepN m (some (enc n ++ t)) = some (n, t) := by
  show rdNum (enc n ++ t) m = _
  rw [rdNum_enc t hn, if_neg (by omega)]
theorem stepT_enc {s : List UInt8} (t : List UInt8) (h : s.length ≤ 4096) : stepT (some (encT s ++ t)) = some (s, t) := by
  show rdText (encT s ++ t) 4096 = _
  rw [rdText_enc t (by omega), if_neg (by omega)]
theorem nxt_mk {α : Type} (v : α) (t : List UInt8) : nxt (some (v, t)) = some t := rfl
theorem got_mk {α : Type} (d v : α) (t : List UInt8) : got d (some (v, t)) = v := rfl
theorem askOut_enc {o : Int} {a b c d : ByteArray} {n m : Int} (h : RightP o a b c d n m) : askOut (askL o a b c d n m) = (o, a, b, c, d, n, m, 0) := by
  have hr := h
  obtain ⟨h1, h2, h3, h4, h5, h6, h7, h8, h9, h10⟩ := h
  have hl : enc m.toNat = enc m.toNat ++ [] := (List.append_nil _).symm
  unfold askOut askOut2 askOut3 askOut4 askOut5 askOut6 askOut7
  rw [askL, hl, stepN_enc _ (by omega) (by omega), nxt_mk, stepT_enc _ (by rw [dlen]; omega), nxt_mk, stepT_enc _ (by rw [dlen]; omega), nxt_mk, stepT_enc _ (by rw [dlen]; omega), nxt_mk, stepT_enc _ (by rw [dlen]; omega), nxt_mk,
    stepN_enc _ (by omega) (by omega), nxt_mk, stepN_enc _ (by omega) (by omega), nxt_mk]
  show askEnd ((o.toNat : Nat) : Int) a b c d ((n.toNat : Nat) : Int) ((m.toNat : Nat) : Int) (some []) = _
  have e1 : ((o.toNat : Nat) : Int) = o := by omega
  have e2 : ((n.toNat : Nat) : Int) = n := by omega
  have e3 : ((m.toNat : Nat) : Int) = m := by omega
  rw [e1, e2, e3, askEnd, if_pos rfl, if_pos hr]
theorem readAsk_enc {o : Int} {a b c d : ByteArray} {n m : Int} (h : RightP o a b c d n m) : Ev (fun k => wire_ReadAsk.f k (mkS (askL o a b c d n m))) (o, a, b, c, d, n, m, (0 : Int)) := by
  have hl := askL_len h
  have h1 := readAsk_tells (mkS (askL o a b c d n m)) (by rw [mkS_size]; omega)
  rw [mkS_data, askOut_enc h] at h1
  exact h1
/-- Bytes that begin as a question does, and are none. -/
theorem askOut_not {o : Int} {a b c d : ByteArray} {n m : Int} (h : RightP o a b c d n m) {L x y : List UInt8} (e : L ++ x = askL o a b c d n m ++ y) (hne : x ≠ y) : askOut L = noAsk 2 := by
  rcases askOut_cases L with h1 | ⟨o', a', b', c', d', n', m', _, h', hL⟩
  · exact h1
  · rw [hL] at e
    exact absurd (askL_apart h' h e).2.2.2.2.2.2.2 hne
end Go.Proofs.Ythpgpljpadlegaa.Wire
