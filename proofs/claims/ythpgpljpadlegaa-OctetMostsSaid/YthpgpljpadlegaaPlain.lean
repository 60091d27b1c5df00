/- The encoding of layer 1 in plain Lean: numbers as bytes and back, texts, flags; no program in sight. -/
import GoSem.Op.String
namespace Go.Proofs.Ythpgpljpadlegaa.Plain

/-- A number's bytes, the highest one first; none of 0. -/
def be (n : Nat) : List UInt8 := if n = 0 then [] else be (n / 256) ++ [UInt8.ofNat (n % 256)]
  termination_by n
  decreasing_by omega

theorem be_zero : be 0 = [] := by unfold be; rfl
theorem be_pos {n : Nat} (h : n ≠ 0) : be n = be (n / 256) ++ [UInt8.ofNat (n % 256)] := by
  rw [be, if_neg h]

def vala (a : Nat) (l : List UInt8) : Nat := l.foldl (fun a b => a * 256 + b.toNat) a
def val (l : List UInt8) : Nat := vala 0 l
theorem vala_nil (a : Nat) : vala a [] = a := rfl
theorem vala_cons (a : Nat) (c : UInt8) (l : List UInt8) : vala a (c :: l) = vala (a * 256 + c.toNat) l := rfl
theorem vala_append (a : Nat) (l k : List UInt8) : vala a (l ++ k) = vala (vala a l) k := by simp [vala]
theorem val_snoc (l : List UInt8) (c : UInt8) : val (l ++ [c]) = val l * 256 + c.toNat := by simp [val, vala]
theorem vala_eq (a : Nat) (l : List UInt8) : vala a l = a * 256 ^ l.length + val l := by
  induction l generalizing a with
  | nil => simp [val, vala]
  | cons c l ih =>
    rw [vala_cons, ih]
    have h : val (c :: l) = c.toNat * 256 ^ l.length + val l := by
      show vala 0 (c :: l) = _
      rw [vala_cons, ih]; simp
    rw [h, List.length_cons, Nat.pow_succ, Nat.add_mul, Nat.add_assoc]
    congr 1
    rw [Nat.mul_assoc]; congr 1; rw [Nat.mul_comm]
theorem val_cons (c : UInt8) (l : List UInt8) : val (c :: l) = c.toNat * 256 ^ l.length + val l := by
  show vala 0 (c :: l) = _
  rw [vala_cons, vala_eq]; simp
theorem val_lt (l : List UInt8) : val l < 256 ^ l.length := by
  induction l with
  | nil => simp [val, vala]
  | cons c l ih =>
    rw [val_cons, List.length_cons, Nat.pow_succ]
    have h := c.toNat_lt
    have h2 : (c.toNat + 1) * 256 ^ l.length ≤ 256 * 256 ^ l.length := Nat.mul_le_mul_right _ (by omega)
    rw [Nat.add_mul, Nat.one_mul] at h2
    rw [Nat.mul_comm _ 256]
    omega

theorem ofNat_toNat {n : Nat} (h : n < 256) : (UInt8.ofNat n).toNat = n := by
  simp only [UInt8.toNat_ofNat']
  exact Nat.mod_eq_of_lt h

theorem val_be (n : Nat) : val (be n) = n := by
  induction n using Nat.strongRecOn with
  | ind n ih =>
    by_cases h : n = 0
    · subst h; rw [be_zero]; rfl
    · rw [be_pos h, val_snoc, ih (n / 256) (by omega), ofNat_toNat (Nat.mod_lt _ (by omega))]
      omega
theorem be_len {n k : Nat} (h : n < 256 ^ k) : (be n).length ≤ k := by
  induction k generalizing n with
  | zero => have : n = 0 := by simpa using h
            subst this; rw [be_zero]; simp
  | succ k ih =>
    by_cases h0 : n = 0
    · subst h0; rw [be_zero]; simp
    · rw [be_pos h0, List.length_append, List.length_singleton]
      have := ih (n := n / 256) (by rw [Nat.pow_succ] at h; exact Nat.div_lt_of_lt_mul (by rw [Nat.mul_comm]; exact h))
      omega
theorem be_mono {m n : Nat} (h : m ≤ n) : (be m).length ≤ (be n).length := by
  refine be_len ?_
  have h1 := val_lt (be n)
  rw [val_be] at h1
  omega
theorem be_head {n : Nat} (h : n ≠ 0) : ∃ c t, be n = c :: t ∧ c ≠ 0 := by
  induction n using Nat.strongRecOn with
  | ind n ih =>
    rw [be_pos h]
    by_cases h1 : n / 256 = 0
    · refine ⟨UInt8.ofNat (n % 256), [], by rw [h1, be_zero]; rfl, fun e => ?_⟩
      have h2 := congrArg UInt8.toNat e
      rw [ofNat_toNat (Nat.mod_lt _ (by omega))] at h2
      simp at h2
      omega
    · obtain ⟨c, t, e, hc⟩ := ih (n / 256) (by omega) h1
      exact ⟨c, t ++ [UInt8.ofNat (n % 256)], by rw [e]; rfl, hc⟩
theorem be_val_aux : ∀ (k : Nat) (l : List UInt8), l.length = k → l.head? ≠ some 0 → be (val l) = l
  | 0, l, h, _ => by
    have : l = [] := List.eq_nil_of_length_eq_zero h
    subst this
    exact be_zero
  | k + 1, l, h, h0 => by
    obtain ⟨t, c, e⟩ : ∃ t c, l = t ++ [c] := by
      rcases List.eq_nil_or_concat l with e | ⟨t, c, e⟩
      · subst e; simp at h
      · exact ⟨t, c, by simpa using e⟩
    subst e
    have ht : t.length = k := by simp at h; exact h
    rw [val_snoc]
    have hc := c.toNat_lt
    have h1 : (val t * 256 + c.toNat) / 256 = val t := by omega
    have h2 : (val t * 256 + c.toNat) % 256 = c.toNat := by omega
    have h3 : UInt8.ofNat c.toNat = c := by simp
    have hz : val t * 256 + c.toNat ≠ 0 := by
      cases t with
      | nil =>
        intro e
        have : c.toNat = 0 := by omega
        have hc0 : c = 0 := UInt8.toNat_inj.1 this
        subst hc0
        exact h0 rfl
      | cons d t =>
        intro e
        have hd : d ≠ 0 := fun e => h0 (by rw [e]; rfl)
        have hd1 : d.toNat ≠ 0 := fun e => hd (UInt8.toNat_inj.1 e)
        have h4 := val_cons d t
        have h5 : 0 < 256 ^ t.length := Nat.pow_pos (by omega)
        have h6 : 1 * 256 ^ t.length ≤ d.toNat * 256 ^ t.length := Nat.mul_le_mul_right _ (by omega)
        omega
    rw [be_pos hz, h1, h2, h3]
    have ih := be_val_aux k t ht (fun e => h0 (by cases t with | nil => cases e | cons d t => exact e))
    rw [ih]
theorem be_val {l : List UInt8} (h : l.head? ≠ some 0) : be (val l) = l := be_val_aux _ l rfl h

/-- A number as it is laid: how many bytes, and these. -/
def enc (n : Nat) : List UInt8 := UInt8.ofNat (be n).length :: be n
theorem be_len8 {n : Nat} (h : n < 18446744073709551616) : (be n).length ≤ 8 := be_len (by simpa using h)
theorem enc_len {n : Nat} (h : n < 18446744073709551616) : (enc n).length ≤ 9 := by
  have := be_len8 h
  simp [enc]; omega
theorem enc_pos (n : Nat) : 0 < (enc n).length := by simp [enc]

/-- The next number, up to most, and what is behind it. -/
def rdNum (l : List UInt8) (most : Nat) : Option (Nat × List UInt8) :=
  match l with
  | [] => none
  | c :: t => if 8 < c.toNat ∨ t.length < c.toNat ∨ (0 < c.toNat ∧ t.head? = some 0) then none
    else if most < val (t.take c.toNat) then none else some (val (t.take c.toNat), t.drop c.toNat)

theorem rdNum_cons (c : UInt8) (t : List UInt8) (most : Nat) : rdNum (c :: t) most = if 8 < c.toNat ∨ t.length < c.toNat ∨ (0 < c.toNat ∧ t.head? = some 0) then none
    else if most < val (t.take c.toNat) then none else some (val (t.take c.toNat), t.drop c.toNat) := rfl
theorem rdNum_enc {n most : Nat} (t : List UInt8) (h : n < 18446744073709551616) : rdNum (enc n ++ t) most = if most < n then none else some (n, t) := by
  have h8 := be_len8 h
  have e1 : (UInt8.ofNat (be n).length).toNat = (be n).length := ofNat_toNat (by omega)
  have h1 : ¬ (8 < (UInt8.ofNat (be n).length).toNat ∨ (be n ++ t).length < (UInt8.ofNat (be n).length).toNat ∨ (0 < (UInt8.ofNat (be n).length).toNat ∧ (be n ++ t).head? = some 0)) := by
    rw [e1]
    rintro (h | h | ⟨h, h2⟩)
    · omega
    · rw [List.length_append] at h; omega
    · have hn : n ≠ 0 := fun e => by subst e; rw [be_zero] at h; simp at h
      obtain ⟨c, u, e, hc⟩ := be_head hn
      rw [e] at h2
      simp at h2
      exact hc h2
  have e0 : enc n ++ t = UInt8.ofNat (be n).length :: (be n ++ t) := rfl
  rw [e0, rdNum_cons]
  rw [if_neg h1, e1, List.take_left, List.drop_left, val_be]

theorem rdNum_some {l t : List UInt8} {n most : Nat} (h : rdNum l most = some (n, t)) : l = enc n ++ t ∧ n ≤ most ∧ n < 18446744073709551616 := by
  cases l with
  | nil => cases h
  | cons c u =>
    have h' : (if 8 < c.toNat ∨ u.length < c.toNat ∨ (0 < c.toNat ∧ u.head? = some 0) then none
      else if most < val (u.take c.toNat) then none else some (val (u.take c.toNat), u.drop c.toNat)) = some (n, t) := h
    by_cases h1 : 8 < c.toNat ∨ u.length < c.toNat ∨ (0 < c.toNat ∧ u.head? = some 0)
    · rw [if_pos h1] at h'; cases h'
    · rw [if_neg h1] at h'
      by_cases h2 : most < val (u.take c.toNat)
      · rw [if_pos h2] at h'; cases h'
      · rw [if_neg h2] at h'
        injection h' with h'
        injection h' with e1 e2
        have hl : (u.take c.toNat).length = c.toNat := by rw [List.length_take]; omega
        have hd : (u.take c.toNat).head? ≠ some 0 := by
          intro e
          cases u with
          | nil => simp at e
          | cons d u =>
            by_cases hc : c.toNat = 0
            · rw [hc] at e; simp at e
            · obtain ⟨m, hm⟩ : ∃ m, c.toNat = m + 1 := ⟨c.toNat - 1, by omega⟩
              rw [hm, List.take_succ_cons] at e
              exact h1 (.inr (.inr ⟨by omega, e⟩))
        have hb : be n = u.take c.toNat := by rw [← e1]; exact be_val hd
        have hv := val_lt (u.take c.toNat)
        rw [hl, e1] at hv
        have hp : 256 ^ c.toNat ≤ 256 ^ 8 := Nat.pow_le_pow_right (by omega) (by omega)
        refine ⟨?_, by omega, by have : (256 : Nat) ^ 8 = 18446744073709551616 := by decide
                                 omega⟩
        rw [enc, hb, hl, ← e2]
        have : UInt8.ofNat c.toNat = c := by simp
        rw [this, List.cons_append, List.take_append_drop]

theorem enc_apart {m n : Nat} {s t : List UInt8} (hm : m < 18446744073709551616) (hn : n < 18446744073709551616) (h : enc m ++ s = enc n ++ t) : m = n ∧ s = t := by
  have h1 := rdNum_enc (most := max m n) s hm
  have h2 := rdNum_enc (most := max m n) t hn
  rw [h, h2, if_neg (by omega), if_neg (by omega)] at h1
  injection h1 with h1
  injection h1 with e1 e2
  exact ⟨e1.symm, e2.symm⟩

/-- A text as it is laid. -/
def encT (s : List UInt8) : List UInt8 := enc s.length ++ s
def rdText (l : List UInt8) (most : Nat) : Option (List UInt8 × List UInt8) :=
  match rdNum l most with
  | none => none
  | some (n, t) => if t.length < n then none else some (t.take n, t.drop n)
theorem rdText_enc {s : List UInt8} {most : Nat} (t : List UInt8) (h : s.length < 18446744073709551616) : rdText (encT s ++ t) most = if most < s.length then none else some (s, t) := by
  unfold rdText encT
  rw [List.append_assoc, rdNum_enc _ h]
  by_cases h1 : most < s.length
  · rw [if_pos h1, if_pos h1]
  · rw [if_neg h1, if_neg h1]
    simp only []
    rw [if_neg (by rw [List.length_append]; omega), List.take_left, List.drop_left]
theorem rdText_some {l s t : List UInt8} {most : Nat} (h : rdText l most = some (s, t)) : l = encT s ++ t ∧ s.length ≤ most ∧ s.length < 18446744073709551616 := by
  unfold rdText at h
  cases hr : rdNum l most with
  | none => rw [hr] at h; cases h
  | some p =>
    obtain ⟨n, u⟩ := p
    rw [hr] at h
    simp only [] at h
    by_cases h1 : u.length < n
    · rw [if_pos h1] at h; cases h
    · rw [if_neg h1] at h
      injection h with h
      injection h with e1 e2
      obtain ⟨e3, e4, e5⟩ := rdNum_some hr
      have hl : s.length = n := by rw [← e1, List.length_take]; omega
      refine ⟨?_, by omega, by omega⟩
      rw [e3, encT, hl, List.append_assoc, ← e1, ← e2, List.take_append_drop]
def encF (b : Bool) : List UInt8 := [if b then 1 else 0]
def rdFlag (l : List UInt8) : Option (Bool × List UInt8) :=
  match l with
  | [] => none
  | c :: t => if 1 < c.toNat then none else some (c == 1, t)
theorem rdFlag_enc (b : Bool) (t : List UInt8) : rdFlag (encF b ++ t) = some (b, t) := by cases b <;> rfl
theorem rdFlag_some {l t : List UInt8} {b : Bool} (h : rdFlag l = some (b, t)) : l = encF b ++ t := by
  cases l with
  | nil => cases h
  | cons c u =>
    have h' : (if 1 < c.toNat then none else some (c == 1, u)) = some (b, t) := h
    by_cases h1 : 1 < c.toNat
    · rw [if_pos h1] at h'; cases h'
    · rw [if_neg h1] at h'
      injection h' with h'
      injection h' with e1 e2
      subst e1; subst e2
      have : c.toNat = 0 ∨ c.toNat = 1 := by omega
      rcases this with h0 | h0
      · have : c = 0 := UInt8.toNat_inj.1 h0
        subst this; rfl
      · have : c = 1 := UInt8.toNat_inj.1 h0
        subst this; rfl

/-! ### the order of the bytes -/
theorem less_val : ∀ (a b : List UInt8), a.length = b.length → Op.bytesLess a b = true → val a < val b
  | [], [], _, h => by simp [Op.bytesLess] at h
  | [], _ :: _, h, _ => by simp at h
  | _ :: _, [], h, _ => by simp at h
  | x :: a, y :: b, hl, h => by
    have hl' : a.length = b.length := by simpa using hl
    rw [val_cons, val_cons, hl']
    have ha := val_lt a
    rw [hl'] at ha
    simp only [Op.bytesLess, Bool.or_eq_true, decide_eq_true_eq, Bool.and_eq_true, beq_iff_eq] at h
    rcases h with h | ⟨h1, h2⟩
    · have h3 : x.toNat < y.toNat := UInt8.lt_iff_toNat_lt.1 h
      have h4 : (x.toNat + 1) * 256 ^ b.length ≤ y.toNat * 256 ^ b.length := Nat.mul_le_mul_right _ h3
      rw [Nat.add_mul, Nat.one_mul] at h4
      omega
    · subst h1
      have := less_val a b hl' h2
      omega
theorem less_enc {m n : Nat} (h : m ≤ n) (hn : n < 18446744073709551616) : Op.bytesLess (enc n) (enc m) = false := by
  rw [Bool.eq_false_iff]
  intro hb
  have h1 := be_mono h
  have h8 := be_len8 hn
  have h8' := be_len8 (n := m) (by omega)
  have e1 := ofNat_toNat (n := (be n).length) (by omega)
  have e2 := ofNat_toNat (n := (be m).length) (by omega)
  simp only [enc, Op.bytesLess, Bool.or_eq_true, decide_eq_true_eq, Bool.and_eq_true, beq_iff_eq] at hb
  rcases hb with hb | ⟨hb, hb2⟩
  · have := UInt8.lt_iff_toNat_lt.1 hb
    omega
  · have h2 : (be n).length = (be m).length := by have := congrArg UInt8.toNat hb; omega
    have := less_val _ _ h2 hb2
    rw [val_be, val_be] at this
    omega
theorem enc_inj {m n : Nat} (hm : m < 18446744073709551616) (hn : n < 18446744073709551616) (h : enc m = enc n) : m = n :=
  (enc_apart (s := []) (t := []) hm hn (by rw [h])).1

/-! ### rows of numbers -/
def encN : List Nat → List UInt8
  | [] => []
  | n :: l => enc n ++ encN l
theorem encN_append (a b : List Nat) : encN (a ++ b) = encN a ++ encN b := by
  induction a with
  | nil => rfl
  | cons n a ih => simp [encN, ih]
theorem encN_prefix : ∀ (a b : List Nat), (∀ n ∈ a, n < 18446744073709551616) → (∀ n ∈ b, n < 18446744073709551616) → a.length = b.length → ∀ z, encN a ++ z = encN b → a = b
  | [], [], _, _, _, _, _ => rfl
  | [], _ :: _, _, _, h, _, _ => by simp at h
  | _ :: _, [], _, _, h, _, _ => by simp at h
  | m :: a, n :: b, ha, hb, hl, z, h => by
    simp only [encN, List.append_assoc] at h
    obtain ⟨e1, e2⟩ := enc_apart (ha m (by simp)) (hb n (by simp)) h
    subst e1
    rw [encN_prefix a b (fun x hx => ha x (by simp [hx])) (fun x hx => hb x (by simp [hx])) (by simpa using hl) z e2]

end Go.Proofs.Ythpgpljpadlegaa.Plain
