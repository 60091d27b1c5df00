/- Where the row lies that append(v, s...) gives, s a string: at the old row's block, or in a new one; and the walk's step that says so. -/
import Derived.Lib.AppendStr
import Derived.ArgAppend
import Derived.Test.YthpgpljpadlegaaWWords
import Derived.Test.YthpgpljpadlegaaWLast
namespace Go.Proofs.Ythpgpljpadlegaa.Aid
open Go Go.RowKit Go.Proofs.YthpgpljpadlegaaW.PrintWords Go.Proofs.YthpgpljpadlegaaW.PrintLast
set_option linter.unusedVariables false
theorem bytesLess_total : ∀ a b : List UInt8, (Op.bytesLess a b || a == b) = !(Op.bytesLess b a)
  | [], [] => by simp [Op.bytesLess]
  | [], _ :: _ => by simp [Op.bytesLess]
  | _ :: _, [] => by simp [Op.bytesLess]
  | x :: a, y :: b => by
    have ih := bytesLess_total a b
    rcases Nat.lt_trichotomy x.toNat y.toNat with h | h | h
    · have h1 : x < y := UInt8.lt_iff_toNat_lt.2 h
      have h2 : ¬ y < x := fun h3 => by have := UInt8.lt_iff_toNat_lt.1 h3; omega
      have h3 : ¬ x = y := fun e => by subst e; omega
      have h4 : ¬ y = x := fun e => h3 e.symm
      simp [Op.bytesLess, h1, h2, h4]
    · have e : x = y := UInt8.toNat_inj.1 h
      subst e
      have h1 : ¬ x < x := fun h3 => by have := UInt8.lt_iff_toNat_lt.1 h3; omega
      simp only [Op.bytesLess, h1, decide_false, Bool.false_or, beq_self_eq_true, Bool.true_and, List.cons_beq_cons]
      exact ih
    · have h1 : y < x := UInt8.lt_iff_toNat_lt.2 h
      have h2 : ¬ x < y := fun h3 => by have := UInt8.lt_iff_toNat_lt.1 h3; omega
      have h3 : ¬ x = y := fun e => by subst e; omega
      simp [Op.bytesLess, h1, h2, h3]
theorem leq_str (t : TypeId) (a b : ByteArray) : binOp .leq t (.string a) (.string b) = pure (.bool (!Op.bytesLess b.toList a.toList)) := by
  rw [← bytesLess_total]; simp [binOp, Op.stringOp]
theorem gtr_str (t : TypeId) (a b : ByteArray) : binOp .gtr t (.string a) (.string b) = pure (.bool (Op.bytesLess b.toList a.toList)) := by
  have h := bytesLess_total a.toList b.toList
  have : Op.bytesLess b.toList a.toList = !(Op.bytesLess a.toList b.toList || a.toList == b.toList) := by rw [h]; simp
  rw [this]; simp [binOp, Op.stringOp]
theorem geq_str (t : TypeId) (a b : ByteArray) : binOp .geq t (.string a) (.string b) = pure (.bool !(Op.bytesLess a.toList b.toList)) := by simp [binOp, Op.stringOp]
/-- '[]byte(s)' of a string s that is no constant: a new row that is only read. -/
theorem conv_fact {P : Program} {src dst e : TypeId} (W : World) (hs : P.underlying src = some .string) (hd : P.underlying dst = some (.slice e)) (he : P.underlying e = some (.int .u8)) (s : ByteArray) (hm : s.size ≤ 9223372036854775807)
    (y : List Int) (hy : y = bytesOf s) :
    ∃ (A : Option Addr) (c : Nat) (w1 : World), (convert src dst (.string s)).run P W = .ok (.slice A y.length c) w1 ∧ Kd.C (Kd.int .u8) w1 A y.length y ∧ Below W.heap.size W w1 := by
  subst hy
  have hr := Lib.run_convert_string_bytes (P := P) W src dst e s hs hd he
  have hl : (bytesOf s).length = s.size := bytesOf_length s
  have hC := Kd.C_of_reads (d := (0 : Int)) (h1 := fun _ => rfl) (bytes_reads W e s hm)
  rw [← hl] at hC
  rw [← hl] at hr
  exact ⟨_, _, _, hr, hC, bytes_below (Below.refl _ _) (Nat.le_refl _) e s⟩
section
variable {P : Program}
theorem append_str_block (w : World) (base : Nat) (t u ty e : TypeId) (i : TypeInfo) (ht : P.underlying t = some (.slice e)) (hu : P.underlying u = some .string) (hi : P.info? e = some i) (hz : i.zero = some (.int .u8 0))
    (hsize : i.size = 1) (hby : i.bytes = 1) (v : Value) (n : Nat) (xs : List Value) (hown : w.ownsRow base e 1 v n xs) (s : ByteArray)
    (h63 : n + s.size ≤ maxLen) (hbytes : n + s.size ≤ 140737488355328) (v' : Value) (w' : World)
    (hr : (Builtin.append_ #[t, u] ty #[v, .string s]).run P w = .ok v' w') (hown' : w'.ownsRow base e 1 v' (n + s.size) (xs ++ Lib.strCells s)) :
    v'.ownBlock = v.ownBlock ∨ ∃ b, v'.ownBlock = some b ∧ w.heap.size ≤ b := by
  have hxl : xs.length = n := by simpa using hown.1
  rcases hown.2 with ⟨rfl, rfl⟩ | ⟨g, cap, cur, rfl, hbg, hg, hnc, hcm, hcs, htake⟩
  · by_cases hm : s.size = 0
    · left
      rcases hown'.2 with ⟨rfl, _⟩ | ⟨g, cap, cur, rfl, hbg, hg, hnc, hcm, hcs, htake⟩
      · rfl
      · exfalso
        have hn : Lib.strCells s = [] := List.eq_nil_of_length_eq_zero (by rw [Lib.strCells_length]; exact hm)
        have hf := Lib.run_firstCells_string (P := P) w 1 s
        rw [hm] at hf
        have hr2 : (Builtin.append_ #[t, u] ty #[.slice none 0 0, .string s]).run P w = .ok (.slice none 0 0) w := by
          simp [Builtin.append_, run_underlying ht, run_underlying hu, sizeOf, typeInfo, hi, hsize, Builtin.lenOf, hm, hf]
        rw [hr2] at hr
        injection hr with h1 h2
        cases h1
    · right
      have hr2 := run_append_nil_string (P := P) w t u ty e i (.int .u8 0) ht hu hi hz s (by omega) (by simp only [maxLen] at h63; omega) (by rw [hby]; omega)
      rw [hr2] at hr
      injection hr with h1 h2
      subst h1
      exact ⟨_, rfl, Nat.le_refl _⟩
  · by_cases hroom : n + s.size ≤ cap
    · left
      have hcs' : cur.size = cap := by simpa using hcs
      have hr2 := Lib.run_append_room_string (P := P) w t u ty e i ht hu hi hsize g n cap cur hg s hroom (by omega)
      rw [hr2] at hr
      injection hr with h1 h2
      subst h1
      rfl
    · right
      have holds : ∀ j u, xs[j]? = some u → w.cell? ((⟨g, 0, none⟩ : Addr).add j) = some u := hown.cells (g := g) rfl
      have hr2 := Lib.run_append_grow_string (P := P) w t u ty e i (.int .u8 0) ht hu hi hz ⟨g, 0, none⟩ n cap xs (by rw [hsize]; simpa using hxl) holds s (by omega) (by simp only [maxLen] at h63; omega) (by rw [hby]; exact growslice_fits (by omega) (by omega))
      rw [hr2] at hr
      injection hr with h1 h2
      subst h1
      exact ⟨_, rfl, Nat.le_refl _⟩
variable {ops : Array Oper} {rest : List Oper} {o : Oper} {a : Act} {Q : Exit → Act → World → Prop}
theorem R_append_str {w0 W : World} (base : Nat) (hgd : o.guard = none) (s x : Operand) (t u e : TypeId)
    (ho : o.op = .call { callee := .builtin .append, args := #[s, x], argTypes := #[t, u] })
    (ht : P.underlying t = some (.slice e)) (hu : P.underlying u = some .string) (hinfo : (P.info? e).map (fun i => (i.zero, i.size, i.bytes)) = some (some (.int .u8 0), 1, 1))
    (v : Value) (xs : List Int) (y : ByteArray) (ok : Nat → Prop) (hs : a.eval s = v) (hx : a.eval x = .string y) (hfresh : ∀ k, W.heap.size ≤ k → ok k)
    (HO : Kd.R (Kd.int .u8) e W base ok v xs) (HB : Below base w0 W) (hbase : base ≤ W.heap.size) (hl : xs.length + y.size ≤ 140737488355328)
    (h : ∀ v1 w1, Kd.R (Kd.int .u8) e w1 base ok v1 (xs ++ bytesOf y) → Below base w0 w1 → W.grownBy w1 v.ownBlock → wpList P ops Q rest (a.put o.dst v1) w1) :
    wpList P ops Q (o :: rest) a W := by
  obtain ⟨i0, hi, hzz⟩ := Option.map_eq_some_iff.1 hinfo
  simp only [Prod.mk.injEq] at hzz
  obtain ⟨hz0, hz1, hz2⟩ := hzz
  have HO2 := Kd.own_of_R HO
  refine wpList_plain hgd fun K hK => ?_
  obtain ⟨v', w', hr, h2, h3, h4⟩ := Lib.run_append_own_string (P := P) W base t u o.type e i0 ht hu hi hz0 hz1 hz2 v xs.length (nums .u8 xs) HO2 y (by simp only [maxLen]; omega) hl hbase
  have hat := append_str_block (P := P) W base t u o.type e i0 ht hu hi hz0 hz1 hz2 v xs.length (nums .u8 xs) HO2 y (by simp only [maxLen]; omega) hl v' w' hr h2
  have hl2 : (xs ++ bytesOf y).length = xs.length + y.size := by rw [List.length_append, bytesOf_length]
  have hc : nums .u8 (xs ++ bytesOf y) = nums .u8 xs ++ Lib.strCells y := by
    rw [nums_append]
    congr 1
    simp [nums, bytesOf, Lib.strCells]
  unfold Oper.wp execOp
  simp only [ho, resolve, invoke, builtin, Sem.run_bind, Sem.run_pure, Result.andThen_ok, List.map_toArray, List.map_cons, List.map_nil, hs, hx, hr]
  refine hK _ _ (h v' w' (Kd.R_of_own (h1 := fun _ => rfl) ?_ ?_) (HB.grown h3 hbase (own_base HO2)) h3)
  · have : w'.ownsRow base e 1 v' (xs ++ bytesOf y).length (nums .u8 (xs ++ bytesOf y)) := by rw [hl2, hc]; exact h2
    exact this
  · intro k hk
    rcases hat with hat | ⟨b, hb, hle⟩
    · exact HO.1 k (hat ▸ hk)
    · rw [hb] at hk
      injection hk with hk
      exact hfresh k (by omega)
end
end Go.Proofs.Ythpgpljpadlegaa.Aid
