/- What is cut off anywhere can't be read whole; and a nil reader tells nothing; for every row of parts and every cut. -/
import Derived.Test.YthpgpljpadlegaaOctLay
import Derived.Test.YthpgpljpadlegaaQxf8
namespace Go.Proofs.Ythpgpljpadlegaa.Pure
open Go Go.RowKit Go.Proofs.Ythpgpljpadlegaa.Q Go.Proofs.Ythpgpljpadlegaa.Oct Go.Proofs.Ythpgpljpadlegaa.Plain Go.Proofs.YthpgpljpadlegaaW.PrintWords Go.Proofs.YthpgpljpadlegaaW.PrintLast Go.Proofs.YthpgpljpadlegaaW.PrintMore
set_option linter.unusedVariables false

theorem encT_apart {a b x y : List UInt8} (ha : a.length < 18446744073709551616) (hb : b.length < 18446744073709551616) (h : encT a ++ x = encT b ++ y) : a = b ∧ x = y := by
  rw [encT, encT, List.append_assoc, List.append_assoc] at h
  obtain ⟨h1, h2⟩ := enc_apart ha hb h
  exact List.append_inj h2 h1
/-- What is left of the reader at part i: an error, or a beginning of what is left of the parts. -/
def Mid (l : List S42) (z : List UInt8) (i : Nat) (st : Option (List UInt8)) : Prop := st = none ∨ ∃ rest, st = some rest ∧ rest ++ z = layL (l.drop i)
theorem mid_step {l : List S42} {z : List UInt8} {i : Nat} (hi : i < l.length) (hok : OkP l[i]) {st : Option (List UInt8)} (h : Mid l z i st) :
    (kd l[i] = 0 → Mid l z (i + 1) (nxt (st.bind fun r => rdNum r 9223372036854775807))) ∧
    (kd l[i] ≠ 0 → kd l[i] = 1 → Mid l z (i + 1) (nxt (st.bind fun r => rdText r 1000))) ∧
    (kd l[i] ≠ 0 → kd l[i] ≠ 1 → Mid l z (i + 1) (nxt (st.bind rdFlag))) := by
  obtain ⟨⟨hp1, hp2⟩, hp3⟩ := hok
  rcases h with rfl | ⟨rest, rfl, h⟩
  · exact ⟨fun _ => .inl rfl, fun _ _ => .inl rfl, fun _ _ => .inl rfl⟩
  · rw [List.drop_eq_getElem_cons hi, layL_cons] at h
    have hd := dlen l[i].f2
    refine ⟨fun k0 => ?_, fun k0 k1 => ?_, fun k0 k1 => ?_⟩
    · simp only [Option.bind_some]
      cases hr : rdNum rest 9223372036854775807 with
      | none => exact .inl rfl
      | some q =>
        obtain ⟨n, t⟩ := q
        obtain ⟨e1, e2, e3⟩ := rdNum_some hr
        rw [layP, if_pos k0, e1, List.append_assoc] at h
        exact .inr ⟨t, rfl, (enc_apart e3 (by omega) h).2⟩
    · simp only [Option.bind_some]
      cases hr : rdText rest 1000 with
      | none => exact .inl rfl
      | some q =>
        obtain ⟨n, t⟩ := q
        obtain ⟨e1, e2, e3⟩ := rdText_some hr
        rw [layP, if_neg k0, if_pos k1, e1, List.append_assoc] at h
        exact .inr ⟨t, rfl, (encT_apart e3 (by omega) h).2⟩
    · simp only [Option.bind_some]
      cases hr : rdFlag rest with
      | none => exact .inl rfl
      | some q =>
        obtain ⟨n, t⟩ := q
        have e1 := rdFlag_some hr
        rw [layP, if_neg k0, if_neg k1, e1, List.append_assoc] at h
        simp only [encF, List.cons_append, List.nil_append, List.cons.injEq] at h
        exact .inr ⟨t, rfl, h.2⟩
theorem cuts_loop (l : List S42) (hok : ∀ p ∈ l, OkP p) (hn : l.length ≤ 1000) (z : List UInt8) (hz : z ≠ []) (d : Nat) : ∀ (i : Nat) (st : Option (List UInt8)), i + d = l.length → Mid l z i st →
    Ev (fun k => mailbaglaw01_OctetCuts.l0 k l (l.length : Int) (i : Int) (S st) (B st)) true := by
  induction d with
  | zero =>
    intro i st hi hm
    have hst : st = none := by
      rcases hm with rfl | ⟨rest, rfl, h⟩
      · rfl
      · rw [List.drop_of_length_le (by omega)] at h
        have h' : rest ++ z = [] := h
        exact absurd (List.append_eq_nil_iff.1 h').2 hz
    subst hst
    refine Ev.step (f := fun _ => some true) (fun k => ?_) (Ev.now _)
    have e : (⟨#[]⟩ : ByteArray).toList = [] := mkS_toList []
    rw [mailbaglaw01_OctetCuts.l0, if_neg (by omega), rerr_tells]
    simp only [Option.bind_some, octet_Reader_Num_nil.f, octet_Reader_Text_nil.f, octet_Reader_Flag_nil.f, octet_Reader_Left_nil.f, octet_Reader_Err_nil.f, octet_Reader_End_nil.f, e, if_true]
    rfl
  | succ d ih =>
    intro i st hi hm
    have hlt : i < l.length := by omega
    have p1 : (i : Int) < (l.length : Int) := by omega
    have p2 : (0 : Int) ≤ (i : Int) := by omega
    have e3 : wrap64 ((i : Int) + 1) = ((i + 1 : Nat) : Int) := by rw [wrap64_small (by omega) (by omega)]; omega
    have hr := rd_at l i hlt
    obtain ⟨m0, m1, m2⟩ := mid_step hlt (hok _ (List.getElem_mem hlt)) hm
    have hkd : Go.bits .and .i64 (l[i].f0) 3 = kd l[i] := rfl
    by_cases k0 : kd l[i] = 0
    · have h1 := rnum_tells st 9223372036854775807 (by omega)
      refine Ev.step (f := fun k => (octet_Reader_Num.f k (S st) (B st) 9223372036854775807).bind fun bt242 => (mailbaglaw01_OctetCuts.l0 k l (l.length : Int) ((i + 1 : Nat) : Int) bt242.2.1 bt242.2.2)) (fun k => ?_) (Ev.bind h1 (ih (i + 1) _ (by omega) (m0 k0)))
      rw [mailbaglaw01_OctetCuts.l0, if_pos p1, if_pos p2, if_pos p1, hr, hkd, if_pos k0, e3]
    by_cases k1 : kd l[i] = 1
    · have h1 := rtext_tells st 1000 (by omega)
      refine Ev.step (f := fun k => (octet_Reader_Text.f k (S st) (B st) 1000).bind fun bt245 => (mailbaglaw01_OctetCuts.l0 k l (l.length : Int) ((i + 1 : Nat) : Int) bt245.2.1 bt245.2.2)) (fun k => ?_) (Ev.bind h1 (ih (i + 1) _ (by omega) (m1 k0 k1)))
      rw [mailbaglaw01_OctetCuts.l0, if_pos p1, if_pos p2, if_pos p1, hr, hkd, if_neg k0, if_pos k1, e3]
    · have h1 := rflag_tells st
      refine Ev.step (fun k => ?_) (ih (i + 1) _ (by omega) (m2 k0 k1))
      rw [mailbaglaw01_OctetCuts.l0, if_pos p1, if_pos p2, if_pos p1, hr, hkd, if_neg k0, if_neg k1, e3, h1]
      rfl
theorem OctetCuts (l : List S42) (cut : Int) (hn : l.length < 9223372036854775808) (hw : ∀ p ∈ l, -9223372036854775808 ≤ p.f1 ∧ p.f1 < 9223372036854775808) : ∃ k, mailbaglaw01_OctetCuts.f k l cut = some true := by
  have htrue : Ev (fun k => mailbaglaw01_OctetCuts.j0 k l cut true) true := Ev.step (f := fun _ => some true) (fun k => by rw [mailbaglaw01_OctetCuts.j0, if_pos rfl]) (Ev.now _)
  refine Ev.rounds (g := fun k => mailbaglaw01_OctetCuts.f k l cut) ?_
  unfold mailbaglaw01_OctetCuts.f
  refine Ev.bind head_tells ?_
  simp only [if_true]
  refine Ev.bind (few_tells l hn) ?_
  cases hf : fewB l
  · simp only [Bool.false_eq_true, if_false]; exact htrue
  simp only [if_true]
  obtain ⟨hok, h300, h20⟩ := fewB_true hf hw
  by_cases h0 : l.length = 0
  · have : ((l.length : Int) == 0) = true := by rw [beq_iff_eq]; omega
    rw [this]; exact htrue
  have e0 : ((l.length : Int) == 0) = false := by rw [beq_eq_false_iff_ne]; omega
  rw [e0]
  have hlen := layL_len l hok
  have hm := mask_le cut 65535 (by omega) (by omega)
  generalize hc : Go.bits .and .i64 cut 65535 = c at hm
  have hlay := lay_tells l hok (by omega)
  have hsz : (mkS (layL l)).size = (layL l).length := mkS_size _
  have htm : Int.tmod c ((layL l).length : Int) = c % ((layL l).length : Int) := Int.tmod_eq_emod_of_nonneg hm.1
  have hpos : 0 < ((layL l).length : Int) := by omega
  have p1 := Int.emod_nonneg c (show ((layL l).length : Int) ≠ 0 by omega)
  have p2 := Int.emod_lt_of_pos c hpos
  generalize hq : c % ((layL l).length : Int) = q at htm p1 p2
  have p3 : ¬ ((layL l).length : Int) = 0 := by omega
  have p4 : q ≤ ((layL l).length : Int) := by omega
  have hz : (layL l).drop q.toNat ≠ [] := by
    intro e
    have := congrArg List.length e
    rw [List.length_drop] at this
    simp at this
    omega
  have hmid : Mid l ((layL l).drop q.toNat) 0 (some ((layL l).take q.toNat)) := .inr ⟨_, rfl, by rw [List.take_append_drop]; rfl⟩
  have h := cuts_loop l hok (by omega) _ hz l.length 0 _ (by omega) hmid
  refine Ev.step (f := fun k => (mailbaglaw01_lay.f k l).bind fun t236 => (if (t236.size : Int) = 0 then (none) else (if 0 ≤ (Int.tmod c (t236.size : Int)) then (if (Int.tmod c (t236.size : Int)) ≤ (t236.size : Int) then ((octet_Read.f (t236.extract 0 ((Int.tmod c (t236.size : Int)) : Int).toNat)).bind fun bt237 => (mailbaglaw01_OctetCuts.l0 k l (l.length : Int) 0 bt237.1 bt237.2)) else (none)) else (none)))) (fun k => ?_) (Ev.bind hlay ?_)
  · rw [mailbaglaw01_OctetCuts.j0, if_neg (by decide), hc]
  · simp only [hsz, if_neg p3, htm, if_pos p1, if_pos p4, mkS_to, read_tells, mkS_data, Option.bind_some]
    exact h
end Go.Proofs.Ythpgpljpadlegaa.Pure
