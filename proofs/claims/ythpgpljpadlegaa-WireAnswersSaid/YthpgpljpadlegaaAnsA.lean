/- What stands in memory while WireAnswers runs: the two answers' boxes, what was read, and an error's answer. -/
import Derived.Test.YthpgpljpadlegaaQx0
import Derived.Deep.MidRow
namespace Go.Proofs.Ythpgpljpadlegaa.Q
open Go Go.RowKit Go.Proofs.YthpgpljpadlegaaW.PrintWords Go.Proofs.YthpgpljpadlegaaW.PrintLast Go.Proofs.YthpgpljpadlegaaW.PrintMore
set_option linter.unusedVariables false
abbrev V3 (e n : Int) (A : Option Addr) (m c : Nat) : Array Value := #[.int .i64 e, .int .i64 n, .slice A m c]
def AtB (g : Nat) (cs : Array Value) (W : World) : Prop := W.heap[g]? = some (.cells cs 59 (0, 0))
def OneP (w0 : World) (g2 : Nat) (c2 : Array Value) (W : World) : Prop := Below w0.heap.size w0 W ∧ AtB g2 c2 W
def TwoP (w0 : World) (g2 g3 : Nat) (c2 c3 : Array Value) (W : World) : Prop := OneP w0 g2 c2 W ∧ AtB g3 c3 W
def TextsP (w0 : World) (g2 g3 : Nat) (c2 c3 : Array Value) (A : Option Addr) (l : List ByteArray) (W : World) : Prop := TwoP w0 g2 g3 c2 c3 W ∧ Kd.C Kd.string W A l.length l
def ThreeP (w0 : World) (g2 g3 g7 : Nat) (c2 c3 c7 : Array Value) (A : Option Addr) (l : List ByteArray) (W : World) : Prop := TextsP w0 g2 g3 c2 c3 A l W ∧ AtB g7 c7 W
def FourP (w0 : World) (g2 g3 g7 g11 : Nat) (c2 c3 c7 c11 : Array Value) (A : Option Addr) (l : List ByteArray) (W : World) : Prop := ThreeP w0 g2 g3 g7 c2 c3 c7 A l W ∧ AtB g11 c11 W
variable {w0 W w1 : World} {g g2 g3 g7 g11 : Nat} {cs c2 c3 c7 c11 : Array Value} {A : Option Addr} {l : List ByteArray}
theorem AtB.below (h : AtB g cs W) (hl : Below W.heap.size W w1) : AtB g cs w1 := blk_below h hl
theorem AtB.cell (h : AtB g cs W) (i : Nat) : W.cell? ⟨g, i, none⟩ = cs[i]? := blk_cell h i
theorem OneP.below (h : OneP w0 g2 c2 W) (hl : Below W.heap.size W w1) : OneP w0 g2 c2 w1 := ⟨below_step h.1 hl, h.2.below hl⟩
theorem TwoP.below (h : TwoP w0 g2 g3 c2 c3 W) (hl : Below W.heap.size W w1) : TwoP w0 g2 g3 c2 c3 w1 := ⟨h.1.below hl, h.2.below hl⟩
theorem TextsP.below (h : TextsP w0 g2 g3 c2 c3 A l W) (hl : Below W.heap.size W w1) : TextsP w0 g2 g3 c2 c3 A l w1 := ⟨h.1.below hl, Kd.C_below h.2 hl⟩
theorem ThreeP.below (h : ThreeP w0 g2 g3 g7 c2 c3 c7 A l W) (hl : Below W.heap.size W w1) : ThreeP w0 g2 g3 g7 c2 c3 c7 A l w1 := ⟨h.1.below hl, h.2.below hl⟩
theorem FourP.below (h : FourP w0 g2 g3 g7 g11 c2 c3 c7 c11 A l W) (hl : Below W.heap.size W w1) : FourP w0 g2 g3 g7 g11 c2 c3 c7 c11 A l w1 := ⟨h.1.below hl, h.2.below hl⟩
theorem drewB (W : World) : Below W.heap.size W W.drew := below_drew (Below.refl _ _)
theorem drewNB (W : World) (m : Nat) : Below W.heap.size W (W.drewN m) := pw_below_drewN (Below.refl _ _) m
theorem OneP.drew (h : OneP w0 g2 c2 W) : OneP w0 g2 c2 W.drew := h.below (drewB W)
theorem OneP.drewN (h : OneP w0 g2 c2 W) (m : Nat) : OneP w0 g2 c2 (W.drewN m) := h.below (drewNB W m)
theorem TwoP.drew (h : TwoP w0 g2 g3 c2 c3 W) : TwoP w0 g2 g3 c2 c3 W.drew := h.below (drewB W)
theorem TwoP.drewN (h : TwoP w0 g2 g3 c2 c3 W) (m : Nat) : TwoP w0 g2 g3 c2 c3 (W.drewN m) := h.below (drewNB W m)
theorem TextsP.drew (h : TextsP w0 g2 g3 c2 c3 A l W) : TextsP w0 g2 g3 c2 c3 A l W.drew := h.below (drewB W)
theorem TextsP.drewN (h : TextsP w0 g2 g3 c2 c3 A l W) (m : Nat) : TextsP w0 g2 g3 c2 c3 A l (W.drewN m) := h.below (drewNB W m)
theorem ThreeP.drew (h : ThreeP w0 g2 g3 g7 c2 c3 c7 A l W) : ThreeP w0 g2 g3 g7 c2 c3 c7 A l W.drew := h.below (drewB W)
theorem ThreeP.drewN (h : ThreeP w0 g2 g3 g7 c2 c3 c7 A l W) (m : Nat) : ThreeP w0 g2 g3 g7 c2 c3 c7 A l (W.drewN m) := h.below (drewNB W m)
theorem FourP.drew (h : FourP w0 g2 g3 g7 g11 c2 c3 c7 c11 A l W) : FourP w0 g2 g3 g7 g11 c2 c3 c7 c11 A l W.drew := h.below (drewB W)
theorem FourP.drewN (h : FourP w0 g2 g3 g7 g11 c2 c3 c7 c11 A l W) (m : Nat) : FourP w0 g2 g3 g7 g11 c2 c3 c7 c11 A l (W.drewN m) := h.below (drewNB W m)
theorem OneP.bel (h : OneP w0 g2 c2 W) : Below w0.heap.size w0 W := h.1
theorem TwoP.bel (h : TwoP w0 g2 g3 c2 c3 W) : Below w0.heap.size w0 W := h.1.1
theorem TextsP.bel (h : TextsP w0 g2 g3 c2 c3 A l W) : Below w0.heap.size w0 W := h.1.1.1
theorem ThreeP.bel (h : ThreeP w0 g2 g3 g7 c2 c3 c7 A l W) : Below w0.heap.size w0 W := h.1.1.1.1
theorem FourP.bel (h : FourP w0 g2 g3 g7 g11 c2 c3 c7 c11 A l W) : Below w0.heap.size w0 W := h.1.1.1.1.1
theorem TwoP.a (h : TwoP w0 g2 g3 c2 c3 W) : AtB g2 c2 W := h.1.2
theorem TwoP.b (h : TwoP w0 g2 g3 c2 c3 W) : AtB g3 c3 W := h.2
theorem TextsP.a (h : TextsP w0 g2 g3 c2 c3 A l W) : AtB g2 c2 W := h.1.1.2
theorem TextsP.b (h : TextsP w0 g2 g3 c2 c3 A l W) : AtB g3 c3 W := h.1.2
theorem ThreeP.a (h : ThreeP w0 g2 g3 g7 c2 c3 c7 A l W) : AtB g2 c2 W := h.1.1.1.2
theorem ThreeP.b (h : ThreeP w0 g2 g3 g7 c2 c3 c7 A l W) : AtB g3 c3 W := h.1.1.2
theorem ThreeP.c (h : ThreeP w0 g2 g3 g7 c2 c3 c7 A l W) : AtB g7 c7 W := h.2
theorem FourP.a (h : FourP w0 g2 g3 g7 g11 c2 c3 c7 c11 A l W) : AtB g2 c2 W := h.1.a
theorem FourP.b (h : FourP w0 g2 g3 g7 g11 c2 c3 c7 c11 A l W) : AtB g3 c3 W := h.1.b
theorem FourP.c (h : FourP w0 g2 g3 g7 g11 c2 c3 c7 c11 A l W) : AtB g7 c7 W := h.1.c
theorem FourP.d (h : FourP w0 g2 g3 g7 g11 c2 c3 c7 c11 A l W) : AtB g11 c11 W := h.2
theorem FourP.texts (h : FourP w0 g2 g3 g7 g11 c2 c3 c7 c11 A l W) : Kd.C Kd.string W A l.length l := h.1.1.2
def Mid (P : World → Prop) (g : Nat) (cs : Array Value) (W : World) : Prop := ∃ W0, P W0 ∧ W0.heap.size ≤ g ∧ Below W0.heap.size W0 W ∧ AtB g cs W
theorem Mid.ofBox {P : World → Prop} (h : P W) (hg : g = W.heap.size) (hb : w1.heap[g]? = some (.cells cs 59 (0, 0))) (hl : Below W.heap.size W w1) : Mid P g cs w1 := ⟨W, h, Nat.le_of_eq hg.symm, hl, hb⟩
theorem Mid.drew {P : World → Prop} (h : Mid P g cs W) : Mid P g cs W.drew := by obtain ⟨W0, h1, h2, h3, h4⟩ := h; exact ⟨W0, h1, h2, below_drew1 h3, h4⟩
theorem Mid.drewN {P : World → Prop} (h : Mid P g cs W) (m : Nat) : Mid P g cs (W.drewN m) := by obtain ⟨W0, h1, h2, h3, h4⟩ := h; exact ⟨W0, h1, h2, pw_below_drewN h3 m, h4⟩
section
variable {ops : Array Oper} {rest : List Oper} {o : Oper} {a : Act} {Q : Exit → Act → World → Prop}
theorem info59 : (Try.prog.info? 59).map (·.size) = some 3 := by kernel_rfl
theorem put_event3 {W : World} (hgd : o.guard = none) (hN : o.dst = none) (p y : Operand) (ho : o.op = .store 59 p y) (g : Nat) (cur : Array Value) {e n : Int} {A : Option Addr} {m c : Nat}
    (haddr : a.eval p = .pointer (some ⟨g, 0, none⟩)) (hx : a.eval y = .agg (V3 e n A m c)) (hh : W.heap[g]? = some (.cells cur 59 (0, 0))) (hs : cur.size = 3)
    (h : ∀ w1, w1.heap[g]? = some (.cells (V3 e n A m c) 59 (0, 0)) → W.grownBy w1 (some g) → wpList Try.prog ops Q rest a w1) : wpList Try.prog ops Q (o :: rest) a W := by
  refine wpList_plain hgd fun K hK => ?_
  have h1 : ∀ q ∈ (V3 e n A m c).toList, q.oneCell' = true := by
    intro q hq
    simp only [List.mem_cons, List.not_mem_nil, or_false] at hq
    rcases hq with rfl | rfl | rfl <;> rfl
  have hfit : 0 + (V3 e n A m c).toList.length ≤ cur.size := by rw [hs]; exact Nat.le_refl 3
  have hrun := run_store_run (P := Try.prog) (o := 0) 59 (.agg (V3 e n A m c)) (V3 e n A m c).toList hh rfl info59 hfit h1
  unfold Oper.wp execOp
  simp only [ho, haddr, hx, Sem.run_bind, Sem.run_pure, Result.andThen_ok, hrun]
  show K (a.put o.dst undef) _
  rw [hN]
  obtain ⟨s1, s2, s3, s4⟩ := setCells_same g (V3 e n A m c).toList 0 W
  obtain ⟨cur2, hb2, _, hl2⟩ := setCells_row (V3 e n A m c).toList 0 W cur hh hfit
  have he : cur2 = V3 e n A m c := by
    refine Array.toList_inj.1 (hl2.trans ?_)
    have h9 : cur.toList.drop 3 = [] := List.drop_of_length_le (by rw [Array.length_toList, hs]; exact Nat.le_refl 3)
    show cur.toList.take 0 ++ (V3 e n A m c).toList ++ cur.toList.drop (0 + 3) = _
    rw [Nat.zero_add, h9]
    simp
  subst he
  exact hK _ _ (h _ hb2 ⟨s1, s2, s3, Nat.le_of_eq s4.symm, fun k _ hk => setCells_far _ 0 k (fun e => hk (by rw [e]))⟩)
theorem Mid.store_event {P : World → Prop} (hP : ∀ {W w1 : World}, P W → Below W.heap.size W w1 → P w1) (hgd : o.guard = none) (hN : o.dst = none) (p y : Operand) (ho : o.op = .store 59 p y) {e n : Int} {A : Option Addr} {m c : Nat} (h1 : Mid P g cs W) (hs : cs.size = 3)
    (ha : a.eval p = .pointer (some ⟨g, 0, none⟩)) (hx : a.eval y = .agg (V3 e n A m c)) (h : ∀ w1, P w1 → AtB g (V3 e n A m c) w1 → wpList Try.prog ops Q rest a w1) : wpList Try.prog ops Q (o :: rest) a W := by
  obtain ⟨W0, h2, h3, h4, h5⟩ := h1
  exact put_event3 hgd hN p y ho g cs ha hx h5 hs fun w1 hb hg => h w1 (hP h2 (pw_below_grown h4 _ h4.size hg (fun k hk => by injection hk with hk; exact hk ▸ h3))) hb
end
end Go.Proofs.Ythpgpljpadlegaa.Q
