/- Whatever is read stands there, in its one form, whatever the bytes; for every string and every row of kinds. -/
import Derived.Test.YthpgpljpadlegaaOctLay
import Derived.Test.YthpgpljpadlegaaQxf7
namespace Go.Proofs.Ythpgpljpadlegaa.Pure
open Go Go.RowKit Go.Proofs.Ythpgpljpadlegaa.Q Go.Proofs.Ythpgpljpadlegaa.Oct Go.Proofs.Ythpgpljpadlegaa.Plain Go.Proofs.YthpgpljpadlegaaW.PrintWords Go.Proofs.YthpgpljpadlegaaW.PrintLast Go.Proofs.YthpgpljpadlegaaW.PrintMore
set_option linter.unusedVariables false

theorem kd_twice (a n : Int) (s : ByteArray) (b : Bool) : kd (⟨Go.bits .and .i64 a 3, n, s, b⟩ : S42) = Go.bits .and .i64 a 3 := by
  show Go.bits .and .i64 (Go.bits .and .i64 a 3) 3 = Go.bits .and .i64 a 3
  have h := mask_le a 3 (by omega) (by omega)
  generalize Go.bits .and .i64 a 3 = v at h
  have : v = 0 ∨ v = 1 ∨ v = 2 ∨ v = 3 := by omega
  rcases this with h | h | h | h <;> subst h <;> decide
theorem okz (k : Int) (s : ByteArray) (b : Bool) (h : s.size ≤ 1000) : OkP (⟨k, 0, s, b⟩ : S42) := ⟨⟨by show (-9223372036854775808 : Int) ≤ 0; omega, by show (0 : Int) < 9223372036854775808; omega⟩, h⟩
theorem szn : (⟨#[]⟩ : ByteArray).size ≤ 1000 := by decide
theorem reads_j2 (L : List UInt8) (hL : L.length ≤ 100) (ks : List Int) (i pos : Nat) (hpos : pos ≤ L.length) (p : S42) (hp : OkP p) (st : Option (List UInt8))
    (h : st = none ∨ ∃ t, st = some t ∧ L.drop pos = layP p ++ t)
    (hgo : ∀ pos', pos' ≤ L.length → Ev (fun k => mailbaglaw01_OctetReads.l0 k (mkS L) (pos' : Int) ks (ks.length : Int) (wrap64 ((i : Int) + 1)) (S (some (L.drop pos'))) (B (some (L.drop pos')))) true) :
    Ev (fun k => mailbaglaw01_OctetReads.j2 k (mkS L) (pos : Int) ks (ks.length : Int) (i : Int) (S st) (B st) p.f0 p.f1 p.f2 p.f3) true := by
  rcases h with rfl | ⟨t, rfl, ht⟩
  · refine Ev.step (f := fun _ => some true) (fun k => ?_) (Ev.now _)
    rw [mailbaglaw01_OctetReads.j2, rerr_tells]
    rfl
  · have hlp := layP_len p hp
    have hlen : (layP p).length + t.length = L.length - pos := by
      have := congrArg List.length ht
      rw [List.length_drop, List.length_append] at this
      omega
    have hlay := lay_tells [p] (fun q hq => by simp at hq; subst hq; exact hp) (by simp)
    have e0 : layL [p] = layP p := by simp [layL]
    rw [e0] at hlay
    have e1 : wrap64 (((mkS L).size : Int) - (pos : Int)) = ((L.length - pos : Nat) : Int) := by rw [mkS_size, wrap64_small (by omega) (by omega)]; omega
    have e2 : wrap64 ((pos : Int) + ((mkS (layP p)).size : Int)) = ((pos + (layP p).length : Nat) : Int) := by rw [mkS_size, wrap64_small (by omega) (by omega)]; omega
    have p1 : ¬ ((L.length - pos : Nat) : Int) < ((mkS (layP p)).size : Int) := by rw [mkS_size]; omega
    have p2 : (0 : Int) ≤ (pos : Int) := by omega
    have p3 : (pos : Int) ≤ ((pos + (layP p).length : Nat) : Int) := by omega
    have p4 : ((pos + (layP p).length : Nat) : Int) ≤ ((mkS L).size : Int) := by rw [mkS_size]; omega
    have e3 : (mkS L).extract ((pos : Int)).toNat (((pos + (layP p).length : Nat) : Int)).toNat = mkS (layP p) := by
      rw [mkS_extract]
      congr 1
      have : (((pos + (layP p).length : Nat) : Int)).toNat - ((pos : Int)).toNat = (layP p).length := by omega
      rw [this, Int.toNat_natCast, ht, List.take_left]
    have e4 : L.drop (pos + (layP p).length) = t := by rw [← List.drop_drop, ht, List.drop_left]
    have hg := hgo (pos + (layP p).length) (by omega)
    rw [e4] at hg
    have hj3 : Ev (fun k => mailbaglaw01_OctetReads.j3 k (mkS L) (pos : Int) (mkS (layP p)) ks (ks.length : Int) (i : Int) false (S (some t)) (B (some t))) true := by
      have e5 : wrap64 (((mkS L).size : Int) - wrap64 ((pos : Int) + ((mkS (layP p)).size : Int))) = ((t.length : Nat) : Int) := by rw [e2, mkS_size, wrap64_small (by omega) (by omega)]; omega
      rw [e2] at e5
      refine Ev.step (fun k => ?_) hg
      rw [mailbaglaw01_OctetReads.j3, if_neg (by decide), rleft_tells]
      simp only [Option.bind_some, Option.getD_some, e2, e5, if_true]
    refine Ev.step (f := fun k => (mailbaglaw01_lay.f k [p]).bind fun t228 => (if ((L.length - pos : Nat) : Int) < (t228.size : Int) then (mailbaglaw01_OctetReads.j3 k (mkS L) (pos : Int) t228 ks (ks.length : Int) (i : Int) true (S (some t)) (B (some t))) else (if 0 ≤ (pos : Int) then (if (pos : Int) ≤ (wrap64 ((pos : Int) + (t228.size : Int))) then (if (wrap64 ((pos : Int) + (t228.size : Int))) ≤ ((mkS L).size : Int) then (mailbaglaw01_OctetReads.j3 k (mkS L) (pos : Int) t228 ks (ks.length : Int) (i : Int) (((mkS L).extract ((pos : Int)).toNat ((wrap64 ((pos : Int) + (t228.size : Int))) : Int).toNat).toList != t228.toList) (S (some t)) (B (some t))) else (none)) else (none)) else (none)))) (fun k => ?_) (Ev.bind hlay ?_)
    · rw [mailbaglaw01_OctetReads.j2, rerr_tells]
      simp only [Option.bind_some, Option.isNone_some, Bool.false_eq_true, if_false, if_true, e1]
    · simp only [if_neg p1, if_pos p2, e2, if_pos p3, if_pos p4, e3]
      have e6 : ((mkS (layP p)).toList != (mkS (layP p)).toList) = false := by simp
      rw [e6]
      exact hj3
theorem reads_loop (L : List UInt8) (hL : L.length ≤ 100) (ks : List Int) (hk : ks.length ≤ 20) (d : Nat) : ∀ (i pos : Nat), i + d = ks.length → pos ≤ L.length →
    Ev (fun k => mailbaglaw01_OctetReads.l0 k (mkS L) (pos : Int) ks (ks.length : Int) (i : Int) (S (some (L.drop pos))) (B (some (L.drop pos)))) true := by
  induction d with
  | zero =>
    intro i pos hi hp
    refine Ev.step (f := fun _ => some true) (fun k => ?_) (Ev.now _)
    rw [mailbaglaw01_OctetReads.l0, if_neg (by omega)]
  | succ d ih =>
    intro i pos hi hp
    have p1 : (i : Int) < (ks.length : Int) := by omega
    have p2 : (0 : Int) ≤ (i : Int) := by omega
    have e3 : wrap64 ((i : Int) + 1) = ((i + 1 : Nat) : Int) := by rw [wrap64_small (by omega) (by omega)]; omega
    have hgo : ∀ pos', pos' ≤ L.length → Ev (fun k => mailbaglaw01_OctetReads.l0 k (mkS L) (pos' : Int) ks (ks.length : Int) (wrap64 ((i : Int) + 1)) (S (some (L.drop pos'))) (B (some (L.drop pos')))) true := by
      intro pos' hp'
      rw [e3]
      exact ih (i + 1) pos' (by omega) hp'
    have hk2 := kd_twice (rd ks (i : Int))
    generalize hkk : Go.bits .and .i64 (rd ks (i : Int)) 3 = kk at hk2
    by_cases k0 : kk = 0
    · have h1 := rnum_tells (some (L.drop pos)) 9223372036854775807 (by omega)
      simp only [Option.bind_some] at h1
      refine Ev.step (f := fun k => (octet_Reader_Num.f k (S (some (L.drop pos))) (B (some (L.drop pos))) 9223372036854775807).bind fun bt210 => (mailbaglaw01_OctetReads.j2 k (mkS L) (pos : Int) ks (ks.length : Int) (i : Int) bt210.2.1 bt210.2.2 kk bt210.1 (⟨#[]⟩ : ByteArray) false)) (fun k => ?_) (Ev.bind h1 ?_)
      · rw [mailbaglaw01_OctetReads.l0, if_pos p1, if_pos p2, if_pos p1, hkk, if_pos k0]
      · cases hr : rdNum (L.drop pos) (9223372036854775807 : Int).toNat with
        | none => exact reads_j2 L hL ks i pos hp ⟨kk, 0, ⟨#[]⟩, false⟩ (okz _ _ _ szn) none (.inl rfl) hgo
        | some q =>
          obtain ⟨n, t⟩ := q
          obtain ⟨e1, e2, e4⟩ := rdNum_some hr
          refine reads_j2 L hL ks i pos hp ⟨kk, (n : Int), ⟨#[]⟩, false⟩ ⟨⟨?_, ?_⟩, by show (0 : Nat) ≤ 1000; omega⟩ (some t) (.inr ⟨t, rfl, ?_⟩) hgo
          · show (-9223372036854775808 : Int) ≤ (n : Int); omega
          · show (n : Int) < 9223372036854775808; omega
          · rw [layP, hk2, if_pos k0]; exact e1
    by_cases k1 : kk = 1
    · have h1 := rtext_tells (some (L.drop pos)) 1000 (by omega)
      simp only [Option.bind_some] at h1
      refine Ev.step (f := fun k => (octet_Reader_Text.f k (S (some (L.drop pos))) (B (some (L.drop pos))) 1000).bind fun bt213 => (mailbaglaw01_OctetReads.j2 k (mkS L) (pos : Int) ks (ks.length : Int) (i : Int) bt213.2.1 bt213.2.2 kk 0 bt213.1 false)) (fun k => ?_) (Ev.bind h1 ?_)
      · rw [mailbaglaw01_OctetReads.l0, if_pos p1, if_pos p2, if_pos p1, hkk, if_neg k0, if_pos k1]
      · cases hr : rdText (L.drop pos) (1000 : Int).toNat with
        | none => exact reads_j2 L hL ks i pos hp ⟨kk, 0, ⟨#[]⟩, false⟩ (okz _ _ _ szn) none (.inl rfl) hgo
        | some q =>
          obtain ⟨s, t⟩ := q
          obtain ⟨e1, e2, e4⟩ := rdText_some hr
          refine reads_j2 L hL ks i pos hp ⟨kk, 0, mkS s, false⟩ (okz _ _ _ ?_) (some t) (.inr ⟨t, rfl, ?_⟩) hgo
          · show (mkS s).size ≤ 1000; rw [mkS_size]; omega
          · rw [layP, hk2, if_neg k0, if_pos k1]; exact e1
    · have h1 := rflag_tells (some (L.drop pos))
      simp only [Option.bind_some] at h1
      refine Ev.step (f := fun k => (octet_Reader_Flag.f (S (some (L.drop pos))) (B (some (L.drop pos)))).bind fun bt216 => (mailbaglaw01_OctetReads.j2 k (mkS L) (pos : Int) ks (ks.length : Int) (i : Int) bt216.2.1 bt216.2.2 kk 0 (⟨#[]⟩ : ByteArray) bt216.1)) (fun k => ?_) ?_
      · rw [mailbaglaw01_OctetReads.l0, if_pos p1, if_pos p2, if_pos p1, hkk, if_neg k0, if_neg k1]
      · rw [h1]
        simp only [Option.bind_some]
        cases hr : rdFlag (L.drop pos) with
        | none => exact reads_j2 L hL ks i pos hp ⟨kk, 0, ⟨#[]⟩, false⟩ (okz _ _ _ szn) none (.inl rfl) hgo
        | some q =>
          obtain ⟨b, t⟩ := q
          have e1 := rdFlag_some hr
          refine reads_j2 L hL ks i pos hp ⟨kk, 0, ⟨#[]⟩, b⟩ (okz _ _ _ szn) (some t) (.inr ⟨t, rfl, ?_⟩) hgo
          rw [layP, hk2, if_neg k0, if_neg k1]; exact e1
theorem OctetReads : mailbaglaw01_OctetReads.Pure := by
  intro s ks _ _ _ _
  have htrue : Ev (fun k => mailbaglaw01_OctetReads.j0 k s ks true) true := Ev.step (f := fun _ => some true) (fun k => by rw [mailbaglaw01_OctetReads.j0, if_pos rfl]) (Ev.now _)
  refine Ev.rounds (g := fun k => mailbaglaw01_OctetReads.f k s ks) ?_
  unfold mailbaglaw01_OctetReads.f
  refine Ev.bind head_tells ?_
  simp only [if_true]
  by_cases h1 : (s.size : Int) > 100
  · simp only [if_pos h1]; exact htrue
  simp only [if_neg h1]
  by_cases h2 : (ks.length : Int) > 20
  · simp only [decide_eq_true h2]; exact htrue
  simp only [decide_eq_false h2]
  have hd := dlen s
  have h := reads_loop s.data.toList (by omega) ks (by omega) ks.length 0 0 (by omega) (by omega)
  refine Ev.step (fun k => ?_) h
  rw [mailbaglaw01_OctetReads.j0, if_neg (by decide), read_tells]
  rfl
end Go.Proofs.Ythpgpljpadlegaa.Pure
