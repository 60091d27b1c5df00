/- What octet's functions compute, in the words of the plain encoding. -/
import Derived.Test.YthpgpljpadlegaaPlain
import Derived.Test.YthpgpljpadlegaaQxf17
import Derived.Test.YthpgpljpadlegaaQxf30
import Derived.Test.YthpgpljpadlegaaQxf31
import Derived.Test.YthpgpljpadlegaaQxf25
import Derived.Test.YthpgpljpadlegaaQxf26
import Derived.Test.YthpgpljpadlegaaQxf27
import Derived.Test.YthpgpljpadlegaaQxf24
namespace Go.Proofs.Ythpgpljpadlegaa.Oct
open Go Go.RowKit Go.Proofs.YthpgpljpadlegaaW.PrintWords Go.Proofs.YthpgpljpadlegaaW.PrintLast Go.Proofs.YthpgpljpadlegaaW.PrintMore
open Go.Proofs.Ythpgpljpadlegaa.Plain Go.Proofs.Ythpgpljpadlegaa.Q
set_option linter.unusedVariables false

def numsOf (l : List UInt8) : List Int := l.map fun b => (b.toNat : Int)
def mkS (l : List UInt8) : ByteArray := ⟨l.toArray⟩
theorem mkS_data (l : List UInt8) : (mkS l).data.toList = l := rfl
theorem mkS_toList (l : List UInt8) : (mkS l).toList = l := ByteArray.toList_eq _
theorem mkS_size (l : List UInt8) : (mkS l).size = l.length := by simp [mkS, ByteArray.size]
theorem mkS_of (s : ByteArray) : mkS s.data.toList = s := rfl
theorem mkS_nil : mkS [] = (⟨#[]⟩ : ByteArray) := rfl
theorem mkS_inj {a b : List UInt8} (h : mkS a = mkS b) : a = b := by have := congrArg (fun s : ByteArray => s.data.toList) h; exact this
theorem mkS_append (a b : List UInt8) : mkS a ++ mkS b = mkS (a ++ b) := by
  have h : (mkS a ++ mkS b).data.toList = a ++ b := by simp [mkS]
  rw [← mkS_of (mkS a ++ mkS b), h]
theorem mkS_extract (l : List UInt8) (i j : Nat) : (mkS l).extract i j = mkS ((l.drop i).take (j - i)) := by
  have h : ((mkS l).extract i j).data.toList = (l.drop i).take (j - i) := by simp [mkS]
  rw [← mkS_of ((mkS l).extract i j), h]
theorem mkS_from (l : List UInt8) (i : Nat) : (mkS l).extract i (mkS l).size = mkS (l.drop i) := by
  rw [mkS_extract, mkS_size, List.take_of_length_le (by rw [List.length_drop]; omega)]
theorem mkS_to (l : List UInt8) (i : Nat) : (mkS l).extract 0 i = mkS (l.take i) := by rw [mkS_extract]; simp
theorem str_nums (l : List UInt8) : strOfNums (numsOf l) = mkS l := by
  simp [strOfNums, numsOf, mkS, Function.comp_def]
theorem numsOf_append (a b : List UInt8) : numsOf (a ++ b) = numsOf a ++ numsOf b := by simp [numsOf]
theorem numsOf_length (a : List UInt8) : (numsOf a).length = a.length := by simp [numsOf]
theorem numsOf_take (a : List UInt8) (n : Nat) : (numsOf a).take n = numsOf (a.take n) := by simp [numsOf, List.map_take]
theorem numsOf_drop (a : List UInt8) (n : Nat) : (numsOf a).drop n = numsOf (a.drop n) := by simp [numsOf, List.map_drop]
theorem bytesOf_mkS (l : List UInt8) : bytesOf (mkS l) = numsOf l := rfl
theorem bt_mkS (l : List UInt8) (i : Nat) : bt (mkS l) (i : Int) = ((l.getD i 0).toNat : Int) := by
  unfold bt
  by_cases h : i < l.length
  · have h' : ((i : Int)).toNat < (mkS l).size := by rw [mkS_size]; exact h
    rw [dif_pos h']
    have : (mkS l)[((i : Int)).toNat]'h' = l[i] := rfl
    rw [this, List.getD_eq_getElem?_getD, List.getElem?_eq_getElem h]
    rfl
  · rw [dif_neg (by rw [mkS_size]; exact h)]
    simp [List.getD, List.getElem?_eq_none (Nat.le_of_not_lt h)]
theorem rd_numsOf (l : List UInt8) (i : Nat) : rd (numsOf l) (i : Int) = ((l.getD i 0).toNat : Int) := by
  unfold rd numsOf
  by_cases h : i < l.length
  · simp [List.getD, h]
  · simp [List.getD, List.getElem?_eq_none (Nat.le_of_not_lt h)]
theorem wrap64_small {n : Int} (h0 : -9223372036854775808 ≤ n) (h1 : n < 9223372036854775808) : wrap64 n = n := by unfold wrap64; omega
theorem u64_small {n : Int} (h0 : 0 ≤ n) (h1 : n < 18446744073709551616) : IntKind.u64.wrap n = n := by
  have e : (2 : Int) ^ IntKind.u64.bits = 18446744073709551616 := by decide
  have e2 : IntKind.u64.signed = false := rfl
  simp only [IntKind.wrap, e, e2, Bool.false_and]
  rw [Int.emod_eq_of_lt h0 h1]
  simp
theorem mx_zero (a : Int) : mx a 0 = (a.toNat : Int) := by unfold mx; split <;> omega
theorem or_add {a b : Nat} (ha : a < 72057594037927936) (hb : b < 256) : Go.bits .or .u64 (IntKind.u64.wrap ((a : Int) * 256)) (IntKind.u64.wrap (b : Int)) = ((a * 256 + b : Nat) : Int) := by
  rw [u64_small (by omega) (by omega), u64_small (by omega) (by omega)]
  have h1 : ((a : Int) * 256) = ((a * 256 : Nat) : Int) := by omega
  rw [h1]
  unfold Go.bits
  simp only []
  have e : IntKind.u64.bits = 64 := rfl
  rw [e, BitVec.ofInt_natCast, BitVec.ofInt_natCast, BitVec.toNat_or, BitVec.toNat_ofNat, BitVec.toNat_ofNat, Nat.mod_eq_of_lt (by omega), Nat.mod_eq_of_lt (by omega)]
  have h2 : a * 256 ||| b = a * 256 + b := by
    have := Nat.two_pow_add_eq_or_of_lt (i := 8) (b := b) (by omega) a
    rw [Nat.mul_comm a 256]
    exact this.symm
  rw [h2]
  exact u64_small (by omega) (by omega)

/-! ### a number is laid -/
theorem be_getD : ∀ (n i : Nat), i < (be n).length → ((be n).getD i 0).toNat = n / 256 ^ ((be n).length - 1 - i) % 256 := by
  intro n
  induction n using Nat.strongRecOn with
  | ind n ih =>
    intro i hi
    have h0 : n ≠ 0 := fun e => by subst e; rw [be_zero] at hi; simp at hi
    rw [be_pos h0] at hi ⊢
    rw [List.length_append, List.length_singleton] at hi ⊢
    by_cases h : i < (be (n / 256)).length
    · have e := ih (n / 256) (by omega) i h
      have e1 : (be (n / 256) ++ [UInt8.ofNat (n % 256)]).getD i 0 = (be (n / 256)).getD i 0 := by
        simp [List.getD, List.getElem?_append_left h]
      rw [e1, e, Nat.div_div_eq_div_mul, ← Nat.pow_succ']
      congr 3
      omega
    · have hi' : i = (be (n / 256)).length := by omega
      subst hi'
      have e1 : (be (n / 256) ++ [UInt8.ofNat (n % 256)]).getD (be (n / 256)).length 0 = UInt8.ofNat (n % 256) := by simp [List.getD]
      rw [e1, ofNat_toNat (Nat.mod_lt _ (by omega))]
      simp
theorem num_l1 (n : Nat) (hn : n < 18446744073709551616) (d : Nat) : ∀ (i : Nat) (x0 : List Int), i + d = (be n).length → x0.length + d < 140737488355328 →
    Ev (fun k => octet_Num.l1 k x0 (n : Int) ((be n).length : Int) ((be n).length : Int) (i : Int)) (x0 ++ numsOf ((be n).drop i)) := by
  have h8 := be_len8 hn
  induction d with
  | zero =>
    intro i x0 hi hx
    refine Ev.step (f := fun _ => some (x0 ++ numsOf ((be n).drop i))) (fun k => ?_) (Ev.now _)
    rw [octet_Num.l1, if_neg (by omega), List.drop_of_length_le (by omega)]
    simp [numsOf]
  | succ d ih =>
    intro i x0 hi hx
    have ih' := ih (i + 1) (x0 ++ [(((be n).getD i 0).toNat : Int)]) (by omega) (by rw [List.length_append, List.length_singleton]; omega)
    have e1 : wrap64 (8 * wrap64 (wrap64 (((be n).length : Int) - 1) - (i : Int))) = ((8 * ((be n).length - 1 - i) : Nat) : Int) := by
      rw [wrap64_small (n := ((be n).length : Int) - 1) (by omega) (by omega), wrap64_small (n := ((be n).length : Int) - 1 - (i : Int)) (by omega) (by omega), wrap64_small (by omega) (by omega)]
      omega
    have e2 : shr .u64 (n : Int) ((8 * ((be n).length - 1 - i) : Nat) : Int) % 256 = (((be n).getD i 0).toNat : Int) := by
      rw [be_getD n i (by omega)]
      unfold shr
      have e3 : min (((8 * ((be n).length - 1 - i) : Nat) : Int)).toNat IntKind.u64.bits = 8 * ((be n).length - 1 - i) := by
        have : IntKind.u64.bits = 64 := rfl
        rw [this]; omega
      have e7 : ((2 : Int) ^ (8 * ((be n).length - 1 - i))) = ((256 ^ ((be n).length - 1 - i) : Nat) : Int) := by
        rw [show (256 : Nat) = 2 ^ 8 from rfl, ← Nat.pow_mul]
        simp
      rw [e3, e7, Int.natCast_emod, Int.natCast_ediv]
      rfl
    have e4 : numsOf ((be n).drop i) = (((be n).getD i 0).toNat : Int) :: numsOf ((be n).drop (i + 1)) := by
      have hi' : i < (be n).length := by omega
      rw [List.drop_eq_getElem_cons hi', List.getD_eq_getElem?_getD, List.getElem?_eq_getElem hi']
      rfl
    rw [e4]
    have e5 : x0 ++ (((be n).getD i 0).toNat : Int) :: numsOf ((be n).drop (i + 1)) = (x0 ++ [(((be n).getD i 0).toNat : Int)]) ++ numsOf ((be n).drop (i + 1)) := by simp
    rw [e5]
    refine Ev.step (fun k => ?_) ih'
    rw [octet_Num.l1, if_pos (by omega), e1, if_pos (by omega), if_pos (by omega), e2]
    have e6 : wrap64 ((i : Int) + 1) = ((i + 1 : Nat) : Int) := by rw [wrap64_small (by omega) (by omega)]; omega
    rw [e6]
theorem num_l0 (x5 : Int) (r : List Int) (x0 : List Int) (hx : x0.length < 140737488355328) : ∀ (m c : Nat), c + (be m).length ≤ 1000 →
    Ev (fun k => octet_Num.l1 k (x0 ++ [(((c + (be m).length : Nat) : Int)) % 256]) x5 ((c + (be m).length : Nat) : Int) ((c + (be m).length : Nat) : Int) 0) r → Ev (fun k => octet_Num.l0 k x0 x5 (c : Int) (m : Int)) r := by
  intro m
  induction m using Nat.strongRecOn with
  | ind m ih =>
    intro c hc h
    by_cases h0 : m = 0
    · subst h0
      refine Ev.step (fun k => ?_) h
      rw [octet_Num.l0, if_neg (by omega), if_pos hx, be_zero]
      rfl
    · rw [be_pos h0, List.length_append, List.length_singleton] at hc h
      have e1 : c + ((be (m / 256)).length + 1) = (c + 1) + (be (m / 256)).length := by omega
      rw [e1] at h
      refine Ev.step (fun k => ?_) (ih (m / 256) (by omega) (c + 1) (by omega) h)
      rw [octet_Num.l0, if_pos (by omega)]
      have e6 : wrap64 ((c : Int) + 1) = ((c + 1 : Nat) : Int) := by rw [wrap64_small (by omega) (by omega)]; omega
      rw [e6, Int.natCast_ediv]
      rfl
/-- octet.Num. -/
theorem num_tells (x0 : List Int) (a : Int) (ha : a < 18446744073709551616) (hx : x0.length + 16 < 140737488355328) : Ev (fun k => octet_Num.f k x0 a) (x0 ++ numsOf (enc a.toNat)) := by
  have hn : a.toNat < 18446744073709551616 := by omega
  have h8 := be_len8 hn
  refine Ev.congr (fun k => ?_) (num_l0 (a.toNat : Int) _ x0 (by omega) a.toNat 0 (by omega) ?_) (f := fun k => octet_Num.l0 k x0 (a.toNat : Int) ((0 : Nat) : Int) (a.toNat : Int))
  · unfold octet_Num.f
    rw [mx_zero, u64_small (by omega) (by omega)]
    rfl
  · have h := num_l1 a.toNat hn (be a.toNat).length 0 (x0 ++ [(((be a.toNat).length : Nat) : Int) % 256]) (by omega) (by rw [List.length_append, List.length_singleton]; omega)
    rw [Nat.zero_add]
    have e : x0 ++ numsOf (enc a.toNat) = (x0 ++ [(((be a.toNat).length : Nat) : Int) % 256]) ++ numsOf ((be a.toNat).drop 0) := by
      rw [enc, List.drop_zero, List.append_assoc]
      have e1 : numsOf (UInt8.ofNat (be a.toNat).length :: be a.toNat) = (((be a.toNat).length : Nat) : Int) :: numsOf (be a.toNat) := by
        show ((UInt8.ofNat (be a.toNat).length).toNat : Int) :: numsOf (be a.toNat) = _
        rw [ofNat_toNat (by omega)]
      have e2 : (((be a.toNat).length : Nat) : Int) % 256 = (((be a.toNat).length : Nat) : Int) := by omega
      rw [e1, e2]
      rfl
    rw [e]
    exact h
theorem text_tells (x0 : List Int) (s : ByteArray) (hx : x0.length + s.size + 32 < 140737488355328) : Ev (fun k => octet_Text.f k x0 s) (x0 ++ numsOf (encT s.data.toList)) := by
  have hs : s.data.toList.length = s.size := Array.length_toList
  have h := num_tells x0 (s.size : Int) (by omega) (by omega)
  have hl := enc_len (n := s.size) (by omega)
  unfold octet_Text.f
  refine Ev.bind (f := fun _ (t : List Int) => if t.length + s.size < 140737488355328 then some (t ++ bytesOf s) else none) h ?_
  simp only [Int.toNat_natCast]
  rw [if_pos (by rw [List.length_append, numsOf_length]; omega)]
  have e : x0 ++ numsOf (encT s.data.toList) = (x0 ++ numsOf (enc s.size)) ++ bytesOf s := by
    rw [encT, hs, numsOf_append, List.append_assoc]
    rfl
  rw [e]
  exact Ev.now _
theorem flag_tells (x0 : List Int) (b : Bool) (hx : x0.length + 1 < 140737488355328) : octet_Flag.f x0 b = some (x0 ++ numsOf (encF b)) := by
  unfold octet_Flag.f
  cases b
  · rw [if_neg (by decide), if_pos (by omega)]; rfl
  · rw [if_pos rfl, if_pos (by omega)]; rfl

/-! ### a reader: what is left of it; none: it has failed -/
def S (st : Option (List UInt8)) : ByteArray := match st with | none => (⟨#[]⟩ : ByteArray) | some l => mkS l
def B (st : Option (List UInt8)) : Bool := st.isNone
def nxt {α : Type} (o : Option (α × List UInt8)) : Option (List UInt8) := o.map (·.2)
def got {α : Type} (d : α) (o : Option (α × List UInt8)) : α := (o.map (·.1)).getD d

theorem read_tells (s : ByteArray) : octet_Read.f s = some (S (some s.data.toList), B (some s.data.toList)) := rfl
theorem num_loop (a : Int) (ha : a < 9223372036854775808) (l : List UInt8) (ys : List UInt8) (c : Nat) (hc : c ≤ 8) (hy : ys.length = c) (hl : 1 + c ≤ l.length) (d : Nat) : ∀ (i : Nat), i + d = c →
    Ev (fun k => octet_Reader_Num.l0 k a (c : Int) ((val (ys.take i) : Nat) : Int) (numsOf ys) (c : Int) (i : Int) (mkS l) false)
      (if a.toNat < val ys then ((0 : Int), (⟨#[]⟩ : ByteArray), true) else (((val ys : Nat) : Int), mkS (l.drop (1 + c)), false)) := by
  have hv := val_lt ys
  rw [hy] at hv
  have hp : 256 ^ c ≤ 256 ^ 8 := Nat.pow_le_pow_right (by omega) (by omega)
  have h8 : (256 : Nat) ^ 8 = 18446744073709551616 := by decide
  induction d with
  | zero =>
    intro i hi
    rw [List.take_of_length_le (by omega)]
    refine Ev.step (f := fun _ => _) (fun k => ?_) (Ev.now _)
    rw [octet_Reader_Num.l0, if_neg (by omega), wrap64_small (n := 1 + (c : Int)) (by omega) (by omega), if_pos (by omega), if_pos (by rw [mkS_size]; omega), mx_zero, u64_small (n := (a.toNat : Int)) (by omega) (by omega)]
    have e : ((1 + (c : Int))).toNat = 1 + c := by omega
    rw [e, mkS_from]
    by_cases h : a.toNat < val ys
    · rw [if_pos (by omega), if_pos h]; rfl
    · rw [if_neg (by omega), if_neg h, wrap64_small (by omega) (by omega)]
  | succ d ih =>
    intro i hi
    have hi' : i < ys.length := by omega
    have hvi := val_lt (ys.take i)
    have hli : (ys.take i).length = i := by rw [List.length_take]; omega
    rw [hli] at hvi
    have hpi : 256 ^ i ≤ 256 ^ 7 := Nat.pow_le_pow_right (by omega) (by omega)
    have h7 : (256 : Nat) ^ 7 = 72057594037927936 := by decide
    refine Ev.step (fun k => ?_) (ih (i + 1) (by omega))
    rw [octet_Reader_Num.l0, if_pos (by omega), if_pos (by omega), if_pos (by rw [numsOf_length]; omega), rd_numsOf, or_add (by omega) (by exact (ys.getD i 0).toNat_lt)]
    have e6 : wrap64 ((i : Int) + 1) = ((i + 1 : Nat) : Int) := by rw [wrap64_small (by omega) (by omega)]; omega
    have e7 : val (ys.take (i + 1)) = val (ys.take i) * 256 + (ys.getD i 0).toNat := by
      rw [List.take_succ_eq_append_getElem hi', val_snoc, List.getD_eq_getElem?_getD, List.getElem?_eq_getElem hi']
      rfl
    rw [e6, e7]
theorem rnum_tells (st : Option (List UInt8)) (a : Int) (ha : a < 9223372036854775808) :
    Ev (fun k => octet_Reader_Num.f k (S st) (B st) a) (((got 0 (st.bind fun l => rdNum l a.toNat) : Nat) : Int), S (nxt (st.bind fun l => rdNum l a.toNat)), B (nxt (st.bind fun l => rdNum l a.toNat))) := by
  cases st with
  | none => exact Ev.congr (fun k => rfl) (Ev.now _)
  | some l =>
    have hfail : ∀ s : ByteArray, Ev (fun k => octet_Reader_Num.j0 k a true s false) ((0 : Int), (⟨#[]⟩ : ByteArray), true) := fun s =>
      Ev.step (f := fun _ => some ((0 : Int), (⟨#[]⟩ : ByteArray), true)) (fun k => by rw [octet_Reader_Num.j0, if_pos rfl]; rfl) (Ev.now _)
    cases l with
    | nil => exact Ev.congr (fun k => by show octet_Reader_Num.f k (mkS []) false a = _; unfold octet_Reader_Num.f; rw [if_neg (by decide), if_pos (mkS_toList [])]) (hfail (mkS []))
    | cons c t =>
      have hb0 : bt (mkS (c :: t)) 0 = (c.toNat : Int) := bt_mkS (c :: t) 0
      have hc := c.toNat_lt
      have hsz : ((mkS (c :: t)).size : Int) = (t.length : Int) + 1 := by rw [mkS_size]; simp
      have e1 : wrap64 ((c.toNat : Int)) = (c.toNat : Int) := wrap64_small (by omega) (by omega)
      have e2 : wrap64 (1 + (c.toNat : Int)) = ((1 + c.toNat : Nat) : Int) := by rw [wrap64_small (by omega) (by omega)]; omega
      have hne : ¬ (mkS (c :: t)).toList = ([] : List UInt8) := by rw [mkS_toList]; simp
      show Ev (fun k => octet_Reader_Num.f k (mkS (c :: t)) false a) (((got 0 (rdNum (c :: t) a.toNat) : Nat) : Int), S (nxt (rdNum (c :: t) a.toNat)), B (nxt (rdNum (c :: t) a.toNat)))
      rw [rdNum_cons]
      unfold octet_Reader_Num.f
      simp only [hb0, e1, e2, hsz, hne, if_false, Bool.false_eq_true]
      simp only [if_pos (show (0 : Int) < (t.length : Int) + 1 by omega)]
      by_cases h1 : 8 < c.toNat
      · simp only [if_pos (show (c.toNat : Int) > 8 by omega)]
        rw [if_pos (.inl h1)]
        exact hfail _
      simp only [if_neg (show ¬ (c.toNat : Int) > 8 by omega)]
      by_cases h2 : t.length < c.toNat
      · simp only [if_pos (show (t.length : Int) + 1 < ((1 + c.toNat : Nat) : Int) by omega)]
        rw [if_pos (.inr (.inl h2))]
        exact hfail _
      simp only [if_neg (show ¬ (t.length : Int) + 1 < ((1 + c.toNat : Nat) : Int) by omega)]
      have hgo : ¬ (0 < c.toNat ∧ t.head? = some 0) → Ev (fun k => octet_Reader_Num.j0 k a false (mkS (c :: t)) false) (((got 0 (if 8 < c.toNat ∨ t.length < c.toNat ∨ (0 < c.toNat ∧ t.head? = some 0) then none
          else if a.toNat < val (t.take c.toNat) then none else some (val (t.take c.toNat), t.drop c.toNat)) : Nat) : Int), S (nxt (if 8 < c.toNat ∨ t.length < c.toNat ∨ (0 < c.toNat ∧ t.head? = some 0) then none
          else if a.toNat < val (t.take c.toNat) then none else some (val (t.take c.toNat), t.drop c.toNat))), B (nxt (if 8 < c.toNat ∨ t.length < c.toNat ∨ (0 < c.toNat ∧ t.head? = some 0) then none
          else if a.toNat < val (t.take c.toNat) then none else some (val (t.take c.toNat), t.drop c.toNat)))) := by
        intro h3
        have hl : (t.take c.toNat).length = c.toNat := by rw [List.length_take]; omega
        have h := num_loop a ha (c :: t) (t.take c.toNat) c.toNat (by omega) hl (by simp; omega) c.toNat 0 (by omega)
        rw [if_neg (by rintro (h | h | h) <;> first | exact h1 h | exact h2 h | exact h3 h)]
        have e4 : (if a.toNat < val (t.take c.toNat) then ((0 : Int), (⟨#[]⟩ : ByteArray), true) else (((val (t.take c.toNat) : Nat) : Int), mkS ((c :: t).drop (1 + c.toNat)), false))
            = (((got 0 (if a.toNat < val (t.take c.toNat) then none else some (val (t.take c.toNat), t.drop c.toNat)) : Nat) : Int), S (nxt (if a.toNat < val (t.take c.toNat) then none else some (val (t.take c.toNat), t.drop c.toNat))), B (nxt (if a.toNat < val (t.take c.toNat) then none else some (val (t.take c.toNat), t.drop c.toNat)))) := by
          by_cases h5 : a.toNat < val (t.take c.toNat)
          · rw [if_pos h5, if_pos h5]; rfl
          · rw [if_neg h5, if_neg h5, Nat.add_comm 1, List.drop_succ_cons]; rfl
        rw [e4] at h
        refine Ev.step (fun k => ?_) h
        rw [octet_Reader_Num.j0, if_neg (by decide), hb0, e1, e2, hsz, if_pos (by omega), if_pos (by omega), if_pos (by omega)]
        have e5 : (mkS (c :: t)).extract 1 (((1 + c.toNat : Nat) : Int)).toNat = mkS (t.take c.toNat) := by
          rw [mkS_extract]
          have : (((1 + c.toNat : Nat) : Int)).toNat - 1 = c.toNat := by omega
          rw [this]
          rfl
        rw [e5, bytesOf_mkS]
        simp only [Option.bind_some]
        rw [numsOf_length, hl]
        rfl
      by_cases h3 : 0 < c.toNat
      · simp only [if_pos (show (c.toNat : Int) > 0 by omega)]
        simp only [if_pos (show (1 : Int) < (t.length : Int) + 1 by omega)]
        have hb1 : bt (mkS (c :: t)) 1 = ((t.getD 0 0).toNat : Int) := bt_mkS (c :: t) 1
        rw [hb1]
        by_cases h4 : t.head? = some 0
        · have e5 : t.getD 0 0 = 0 := by cases t with | nil => rfl | cons d t => simp at h4; simp [h4]
          rw [e5, if_pos (.inr (.inr ⟨h3, h4⟩))]
          exact hfail _
        · have e5 : (((t.getD 0 0).toNat : Int) == 0) = false := by
            cases t with
            | nil => simp at h2; omega
            | cons d t =>
              have : d ≠ 0 := fun e => h4 (by rw [e]; rfl)
              have : d.toNat ≠ 0 := fun e => this (UInt8.toNat_inj.1 e)
              rw [beq_eq_false_iff_ne]
              simp
              omega
          rw [e5]
          exact hgo (fun h => h4 h.2)
      · simp only [if_neg (show ¬ (c.toNat : Int) > 0 by omega)]
        exact hgo (fun h => h3 h.1)
theorem rtext_tells (st : Option (List UInt8)) (a : Int) (ha : a < 9223372036854775808) :
    Ev (fun k => octet_Reader_Text.f k (S st) (B st) a) (mkS (got [] (st.bind fun l => rdText l a.toNat)), S (nxt (st.bind fun l => rdText l a.toNat)), B (nxt (st.bind fun l => rdText l a.toNat))) := by
  have h := rnum_tells st a ha
  unfold octet_Reader_Text.f
  refine Ev.bind h ?_
  cases st with
  | none => exact Ev.now _
  | some l =>
    show Ev _ (mkS (got [] (rdText l a.toNat)), S (nxt (rdText l a.toNat)), B (nxt (rdText l a.toNat)))
    simp only [Option.bind_some]
    unfold rdText
    cases hr : rdNum l a.toNat with
    | none => exact Ev.now _
    | some p =>
      obtain ⟨n, t⟩ := p
      refine Ev.congr (f := fun _ => _) (fun k => ?_) (Ev.now _)
      show (if (false : Bool) = true then _ else if (n : Int) > ((mkS t).size : Int) then _ else if 0 ≤ (n : Int) then if (n : Int) ≤ ((mkS t).size : Int) then some ((mkS t).extract 0 ((n : Int)).toNat, (mkS t).extract ((n : Int)).toNat (mkS t).size, false) else none else none) = _
      rw [if_neg (by decide), mkS_size]
      by_cases h1 : t.length < n
      · rw [if_pos (by omega)]
        simp only [if_pos h1]
        rfl
      · rw [if_neg (by omega), if_pos (by omega), if_pos (by omega), ← mkS_size, mkS_from, mkS_to]
        simp only [if_neg h1]
        rfl
theorem rflag_tells (st : Option (List UInt8)) :
    octet_Reader_Flag.f (S st) (B st) = some (got false (st.bind rdFlag), S (nxt (st.bind rdFlag)), B (nxt (st.bind rdFlag))) := by
  cases st with
  | none => rfl
  | some l =>
    cases l with
    | nil => show octet_Reader_Flag.f (mkS []) false = _; unfold octet_Reader_Flag.f; rw [if_neg (by decide), if_pos (mkS_toList [])]; rfl
    | cons c t =>
      have hb0 : bt (mkS (c :: t)) 0 = (c.toNat : Int) := bt_mkS (c :: t) 0
      have hsz : ((mkS (c :: t)).size : Int) = (t.length : Int) + 1 := by rw [mkS_size]; simp
      show octet_Reader_Flag.f (mkS (c :: t)) false = some (got false (if 1 < c.toNat then none else some (c == 1, t)), S (nxt (if 1 < c.toNat then none else some (c == 1, t))), B (nxt (if 1 < c.toNat then none else some (c == 1, t))))
      unfold octet_Reader_Flag.f
      rw [if_neg (by decide), if_neg (by rw [mkS_toList]; simp), hsz, if_pos (by omega), hb0]
      by_cases h : 1 < c.toNat
      · rw [if_pos (by omega)]
        simp only [if_pos h]
        rfl
      · rw [if_neg (by omega), if_pos (by omega)]
        simp only [if_neg h]
        have e : (mkS (c :: t)).extract 1 (mkS (c :: t)).size = mkS t := by rw [mkS_from]; rfl
        have e2 : ((c.toNat : Int) == 1) = (c == 1) := by
          rw [Bool.eq_iff_iff]
          simp only [beq_iff_eq]
          constructor
          · intro h; exact UInt8.toNat_inj.1 (by simp; omega)
          · intro h; subst h; rfl
        rw [e, e2]
        rfl
theorem rerr_tells (st : Option (List UInt8)) : octet_Reader_Err.f (S st) (B st) = some ((if st.isNone then 2 else 0), S st, B st) := by cases st <;> rfl
theorem rleft_tells (st : Option (List UInt8)) : octet_Reader_Left.f (S st) (B st) = some ((((st.getD []).length : Nat) : Int), S st, B st) := by
  cases st with
  | none => rfl
  | some l => unfold octet_Reader_Left.f; show some (((mkS l).size : Int), _, _) = _; rw [mkS_size]; rfl
theorem rend_tells (st : Option (List UInt8)) : octet_Reader_End.f (S st) (B st) = some ((if st = some [] then 0 else 2), S st, B st) := by
  unfold octet_Reader_End.f
  rw [rleft_tells]
  simp only [Option.bind_some]
  cases st with
  | none => rfl
  | some l =>
    cases l with
    | nil => rfl
    | cons c t => rw [if_pos (by simp)]; rfl
end Go.Proofs.Ythpgpljpadlegaa.Oct
