/- By a program of this session, out of the translation as Lean prints it: what the Go code computes, and that it does. -/
import Derived.Test.YthpgpljpadlegaaQx0
import Derived.Test.YthpgpljpadlegaaQxf20
import Derived.Test.YthpgpljpadlegaaQxf22
import Derived.Test.YthpgpljpadlegaaQxf24
import Derived.Test.YthpgpljpadlegaaQxf25
import Derived.Test.YthpgpljpadlegaaQxf26
namespace Go.Proofs.Ythpgpljpadlegaa.Q
open Go.RowKit Go.Proofs.YthpgpljpadlegaaW.PrintWords Go.Proofs.YthpgpljpadlegaaW.PrintLast Go.Proofs.YthpgpljpadlegaaW.PrintMore
attribute [local go_sem] max2_int min2_int max_two min_two max_three min_three max_four min_four Aid.leq_str Aid.gtr_str Aid.geq_str   -- for this text's walks alone
set_option linter.unusedVariables false
set_option linter.unusedSimpArgs false

/-! ### wire_ReadAnswer: function 35 -/
def wire_ReadAnswer.l0 : Nat → ByteArray → Int → Int → ByteArray → Bool → Int → Int → List ByteArray → Option (Int × Int × List ByteArray × Int)
  | 0, _, _, _, _, _, _, _, _ => none
  | k + 1, x0, x16, x17, x396000, x396001, x403000, x403001, x403002 => if x17 < x16 then ((octet_Reader_Err.f x396000 x396001).bind fun bt409 => (if bt409.1 = 0 then ((octet_Reader_Text.f k bt409.2.1 bt409.2.2 (x0.size : Int)).bind fun bt412 => (if x403002.length < 8796093022208 then (wire_ReadAnswer.l0 k x0 x16 (wrap64 (x17 + 1)) bt412.2.1 bt412.2.2 x403000 x403001 (x403002 ++ [bt412.1])) else (none))) else ((octet_Reader_End.f bt409.2.1 bt409.2.2).bind fun bt418 => (if bt418.1 = 0 then (some (x403000, x403001, x403002, 0)) else (some (0, 0, ([] : List ByteArray), 2)))))) else ((octet_Reader_End.f x396000 x396001).bind fun bt406 => (if bt406.1 = 0 then (some (x403000, x403001, x403002, 0)) else (some (0, 0, ([] : List ByteArray), 2))))
def wire_ReadAnswer.f (k : Nat) (a0 : ByteArray) : Option (Int × Int × List ByteArray × Int) := (octet_Read.f a0).bind fun bt393 => ((octet_Reader_Num.f k bt393.1 bt393.2 1000).bind fun bt396 => ((octet_Reader_Num.f k bt396.2.1 bt396.2.2 1099511627776).bind fun bt399 => ((octet_Reader_Num.f k bt399.2.1 bt399.2.2 (a0.size : Int)).bind fun bt403 => (wire_ReadAnswer.l0 k a0 bt403.1 0 bt403.2.1 bt403.2.2 bt396.1 bt399.1 ([] : List ByteArray)))))
theorem wire_ReadAnswer.mono_l : ∀ k, (∀ y0 y1 y2 y3 y4 y5 y6 y7, LeO (wire_ReadAnswer.l0 k y0 y1 y2 y3 y4 y5 y6 y7) (wire_ReadAnswer.l0 (k + 1) y0 y1 y2 y3 y4 y5 y6 y7))
  | 0 => fun _ _ _ _ _ _ _ _ r h => by simp [wire_ReadAnswer.l0] at h
  | k + 1 => by
    have ih0 := wire_ReadAnswer.mono_l k
    · intro y0 y1 y2 y3 y4 y5 y6 y7
      unfold wire_ReadAnswer.l0
      repeat' first
      | (with_reducible exact ih0 _ _ _ _ _ _ _ _)
      | (with_reducible exact octet_Reader_Num.mono _ _ _ _)
      | (with_reducible exact octet_Reader_Text.mono _ _ _ _)
      | (with_reducible exact LeO.refl _)
      | (with_reducible exact LeO.none _)
      | (with_reducible refine LeO.ite ?_ ?_)
      | (with_reducible refine LeO.bind ?_ (fun _ => ?_))
      | exact ih0 _ _ _ _ _ _ _ _
      | exact octet_Reader_Num.mono _ _ _ _
      | exact octet_Reader_Text.mono _ _ _ _
      | exact LeO.none _
      | refine LeO.ite ?_ ?_
      | refine LeO.bind ?_ (fun _ => ?_)
theorem wire_ReadAnswer.mono : ∀ a0 k, LeO (wire_ReadAnswer.f k a0) (wire_ReadAnswer.f (k + 1) a0) := by
  intro a0 k
  have ih0 := wire_ReadAnswer.mono_l k
  unfold wire_ReadAnswer.f
  repeat' first
      | (with_reducible exact ih0 _ _ _ _ _ _ _ _)
      | (with_reducible exact octet_Reader_Num.mono _ _ _ _)
      | (with_reducible exact octet_Reader_Text.mono _ _ _ _)
      | (with_reducible exact LeO.refl _)
      | (with_reducible exact LeO.none _)
      | (with_reducible refine LeO.ite ?_ ?_)
      | (with_reducible refine LeO.bind ?_ (fun _ => ?_))
      | exact ih0 _ _ _ _ _ _ _ _
      | exact octet_Reader_Num.mono _ _ _ _
      | exact octet_Reader_Text.mono _ _ _ _
      | exact LeO.none _
      | refine LeO.ite ?_ ?_
      | refine LeO.bind ?_ (fun _ => ?_)
def wire_ReadAnswer.T6 : Bool × List (List Nat × List Nat) := (true, [([], []), ([0], [0]), ([], []), ([], []), ([3], [3]), ([2, 4], [2, 4]), ([5], [5]), ([1, 6, 5], [1, 6]), ([0, 1, 2, 3, 4, 5, 6, 7], []), ([8, 7, 7, 0, 1, 2, 3, 4, 5, 6, 7], [7, 8])])
def wire_ReadAnswer.B6 : List Nat := [0, 1, 0, 0, 8, 28, 60, 127, 255, 511]
theorem wire_ReadAnswer.tab6 : rtab .any (opsOf Try.f35 6) = wire_ReadAnswer.T6 := by kernel_rfl
theorem wire_ReadAnswer.bits6 : waitsOk wire_ReadAnswer.T6.2 wire_ReadAnswer.B6 = true := by kernel_rfl
set_option maxHeartbeats 8000000 in
set_option maxRecDepth 100000 in
theorem wire_ReadAnswer.calls (k : Nat) (a0 : ByteArray) (r1 : Int) (r2 : Int) (r3 : List ByteArray) (r4 : Int) (w : World) (h : wire_ReadAnswer.f k a0 = some (r1, r2, r3, r4)) :
    Calls Try.prog 35 #[.string a0] w fun e w' => ∃ v2_ : Value, e = .returned (.tuple #[.agg #[.int .i64 r1, .int .i64 r2, v2_], .int .i64 r4]) ∧ Kd.R Kd.string 9 w' w.heap.size (fun _ => True) v2_ r3 ∧ Below w.heap.size w w' := by
  have hu59 := Try.underlying59
  have HB := Aside0.mk (Below.refl w.heap.size w)
  have H : ((octet_Read.f a0).bind fun bt393 => ((octet_Reader_Num.f k bt393.1 bt393.2 1000).bind fun bt396 => ((octet_Reader_Num.f k bt396.2.1 bt396.2.2 1099511627776).bind fun bt399 => ((octet_Reader_Num.f k bt399.2.1 bt399.2.2 (a0.size : Int)).bind fun bt403 => (wire_ReadAnswer.l0 k a0 bt403.1 0 bt403.2.1 bt403.2.2 bt396.1 bt399.1 ([] : List ByteArray)))))) = some (r1, r2, r3, r4) := h
  clear h
  replace H := Option.bind_eq_some_iff.mp H
  obtain ⟨⟨t393, t394⟩, A20, H⟩ := H
  replace H : ((octet_Reader_Num.f k t393 t394 1000).bind fun bt396 => ((octet_Reader_Num.f k bt396.2.1 bt396.2.2 1099511627776).bind fun bt399 => ((octet_Reader_Num.f k bt399.2.1 bt399.2.2 (a0.size : Int)).bind fun bt403 => (wire_ReadAnswer.l0 k a0 bt403.1 0 bt403.2.1 bt403.2.2 bt396.1 bt399.1 ([] : List ByteArray))))) = some (r1, r2, r3, r4) := H
  have A2 := Aside0.mk A20
  clear A20
  replace H := Option.bind_eq_some_iff.mp H
  obtain ⟨⟨t396, t397, t398⟩, A30, H⟩ := H
  replace H : ((octet_Reader_Num.f k t397 t398 1099511627776).bind fun bt399 => ((octet_Reader_Num.f k bt399.2.1 bt399.2.2 (a0.size : Int)).bind fun bt403 => (wire_ReadAnswer.l0 k a0 bt403.1 0 bt403.2.1 bt403.2.2 t396 bt399.1 ([] : List ByteArray)))) = some (r1, r2, r3, r4) := H
  have A3 := Aside0.mk A30
  clear A30
  replace H := Option.bind_eq_some_iff.mp H
  obtain ⟨⟨t399, t400, t401⟩, A40, H⟩ := H
  replace H : ((octet_Reader_Num.f k t400 t401 (a0.size : Int)).bind fun bt403 => (wire_ReadAnswer.l0 k a0 bt403.1 0 bt403.2.1 bt403.2.2 t396 t399 ([] : List ByteArray))) = some (r1, r2, r3, r4) := H
  have A4 := Aside0.mk A40
  clear A40
  replace H := Option.bind_eq_some_iff.mp H
  obtain ⟨⟨t403, t404, t405⟩, A50, H⟩ := H
  replace H : (wire_ReadAnswer.l0 k a0 t403 0 t404 t405 t396 t399 ([] : List ByteArray)) = some (r1, r2, r3, r4) := H
  have A5 := Aside0.mk A50
  clear A50
  have H' := Aside0.mk H
  clear H
  go_enter Try.func35, Try.ntmps35
  go_wp2_with (first | ((with_reducible refine gate_dst (N := 2) rfl ?_); refine box_event ?hg (N := 2) ?hd (cs := #[.int .i64 0, .int .i64 0, .slice none 0 0]) (t := 59) ?hr ?_; (case hd => rfl); (case hg => rfl); (case hr => first | (go_simp; done) | (go_simp; rfl)); intro gb392 hg w6 hbox hb; have n0_ := Aside0.mk (below_step (by repeat (first | (with_reducible first | exact HB.out | apply below_alloc | apply pw_below_drewN | apply below_drew1) | exact HB.out)) hb); have n1_ := Aside0.mk (hbox); have n2_ := Aside0.mk ((by rw [hg]; exact (below_size (by repeat (first | (with_reducible first | exact HB.out | apply below_alloc | apply pw_below_drewN | apply below_drew1) | exact HB.out))) : w.heap.size ≤ gb392)); have n3_ := Aside0.mk ((by rw [hg]; exact (below_size (by repeat (first | (with_reducible first | exact HB.out | apply below_alloc | apply pw_below_drewN | apply below_drew1) | exact HB.out))) : w.heap.size ≤ gb392)); clear HB; have HB := n0_; have BK392 := n1_; have GW392 := n2_; have GE392 := n3_; clear n0_ n1_ n2_ n3_; clear hb hbox hg) | ((with_reducible refine gate_callee (f := 20) rfl ?_); refine goesL_ (some 7) rfl rfl Try.func20 (by kernel_rfl) rfl #[.string a0] rfl (by (try simp only [List.map_toArray, List.map_cons, List.map_nil]); first | done | rfl | (simp only [List.length_drop, List.length_take]; rfl)) ?_; (with_reducible refine (octet_Read.calls a0 t393 t394 w _ ?side1 A2.out).mono ?_); (case side1 => repeat (first | (with_reducible first | exact HB.out | apply below_alloc | apply pw_below_drewN | apply below_drew1 | refine below_set ?_ GE392.out) | exact HB.out)); rintro e w7 ⟨g395, rfl, hi, hb, hb2⟩; refine ⟨_, rfl, ?_⟩; have n0_ := Aside0.mk (blk_below (g := gb392) (o := .cells #[.int .i64 0, .int .i64 0, .slice none 0 0] 59 (0, 0)) (by (with_reducible repeat (first | refine blk_drewN ?_ _ | refine blk_drew ?_ | refine blk_alloc ?_ _)); exact BK392.out) hb2); have n1_ := Aside0.mk (hb); have n2_ := Aside0.mk (hi); have n3_ := Aside0.mk (IsS70.ne_blk hi (blk_below (g := gb392) (o := .cells #[.int .i64 0, .int .i64 0, .slice none 0 0] 59 (0, 0)) (by (with_reducible repeat (first | refine blk_drewN ?_ _ | refine blk_drew ?_ | refine blk_alloc ?_ _)); exact BK392.out) hb2) (by decide)); have n4_ := Aside0.mk (Ne.symm (IsS70.ne_blk hi (blk_below (g := gb392) (o := .cells #[.int .i64 0, .int .i64 0, .slice none 0 0] 59 (0, 0)) (by (with_reducible repeat (first | refine blk_drewN ?_ _ | refine blk_drew ?_ | refine blk_alloc ?_ _)); exact BK392.out) hb2) (by decide))); clear BK392; clear HB; have BK392 := n0_; have HB := n1_; have HI395 := n2_; have NB395_392 := n3_; have NB392_395 := n4_; clear n0_ n1_ n2_ n3_ n4_; (try clear hb); (try clear hb2); (try clear hk); (try clear hi)) | ((with_reducible refine gate_callee (f := 25) rfl ?_); refine goesL_ (some 9) rfl rfl Try.func25 (by kernel_rfl) rfl #[.pointer (some ⟨g395, 0, none⟩), .int .i64 1000] rfl (by (try simp only [List.map_toArray, List.map_cons, List.map_nil]); first | done | rfl | (simp only [List.length_drop, List.length_take]; rfl)) ?_; (with_reducible refine (octet_Reader_Num.calls k g395 t393 t394 1000 t396 t397 t398 w _ ?side1 ?side2 A3.out).mono ?_); (case side1 => repeat (first | (with_reducible first | exact HI395.out | apply IsS70.alloc | apply IsS70.drewN | apply IsS70.drew | apply IsS70.set_0 | apply IsS70.set_1 | refine IsS70.far ?_ NB395_392.out _) | exact HI395.out)); (case side2 => repeat (first | (with_reducible first | exact HB.out | apply below_alloc | apply pw_below_drewN | apply below_drew1 | refine below_set ?_ (IsS70.ge HI395.out) | refine below_set ?_ GE392.out) | exact HB.out)); rintro e w8 ⟨rfl, hi, hb, hk⟩; refine ⟨_, rfl, ?_⟩; have n0_ := Aside0.mk (KeepBut.blk hk (g' := gb392) (o := .cells #[.int .i64 0, .int .i64 0, .slice none 0 0] 59 (0, 0)) (by (with_reducible repeat (first | refine blk_drewN ?_ _ | refine blk_drew ?_ | refine blk_alloc ?_ _)); exact BK392.out) NB392_395.out (by simp)); have n1_ := Aside0.mk (hb); have n2_ := Aside0.mk (hi); clear BK392; clear HB; clear HI395; have BK392 := n0_; have HB := n1_; have HI395 := n2_; clear n0_ n1_ n2_; (try clear hb); (try clear hb2); (try clear hk); (try clear hi)) | ((with_reducible refine gate_callee (f := 25) rfl ?_); refine goesL_ (some 11) rfl rfl Try.func25 (by kernel_rfl) rfl #[.pointer (some ⟨g395, 0, none⟩), .int .i64 1099511627776] rfl (by (try simp only [List.map_toArray, List.map_cons, List.map_nil]); first | done | rfl | (simp only [List.length_drop, List.length_take]; rfl)) ?_; (with_reducible refine (octet_Reader_Num.calls k g395 t397 t398 1099511627776 t399 t400 t401 w _ ?side1 ?side2 A4.out).mono ?_); (case side1 => repeat (first | (with_reducible first | exact HI395.out | apply IsS70.alloc | apply IsS70.drewN | apply IsS70.drew | apply IsS70.set_0 | apply IsS70.set_1 | refine IsS70.far ?_ NB395_392.out _) | exact HI395.out)); (case side2 => repeat (first | (with_reducible first | exact HB.out | apply below_alloc | apply pw_below_drewN | apply below_drew1 | refine below_set ?_ (IsS70.ge HI395.out) | refine below_set ?_ GE392.out) | exact HB.out)); rintro e w9 ⟨rfl, hi, hb, hk⟩; refine ⟨_, rfl, ?_⟩; have n0_ := Aside0.mk (KeepBut.blk hk (g' := gb392) (o := .cells #[.int .i64 0, .int .i64 0, .slice none 0 0] 59 (0, 0)) (by (with_reducible repeat (first | refine blk_drewN ?_ _ | refine blk_drew ?_ | refine blk_alloc ?_ _)); exact BK392.out) NB392_395.out (by simp)); have n1_ := Aside0.mk (hb); have n2_ := Aside0.mk (hi); clear BK392; clear HB; clear HI395; have BK392 := n0_; have HB := n1_; have HI395 := n2_; clear n0_ n1_ n2_; (try clear hb); (try clear hb2); (try clear hk); (try clear hi)) | ((with_reducible refine gate_dst (N := 5) rfl ?_); refine box_event ?hg (N := 5) ?hd (cs := #[.int .i64 0, .int .i64 0, .slice none 0 0]) (t := 59) ?hr ?_; (case hd => rfl); (case hg => rfl); (case hr => first | (go_simp; done) | (go_simp; rfl)); intro gb402 hg w10 hbox hb; have n0_ := Aside0.mk (blk_below (g := gb392) (o := .cells #[.int .i64 0, .int .i64 0, .slice none 0 0] 59 (0, 0)) (by (with_reducible repeat (first | refine blk_drewN ?_ _ | refine blk_drew ?_ | refine blk_alloc ?_ _)); exact BK392.out) hb); have n1_ := Aside0.mk (IsS70.below (by repeat (first | (with_reducible first | exact HI395.out | apply IsS70.alloc | apply IsS70.drewN | apply IsS70.drew | apply IsS70.set_0 | apply IsS70.set_1 | refine IsS70.far ?_ NB395_392.out _) | exact HI395.out)) hb); have n2_ := Aside0.mk (below_step (by repeat (first | (with_reducible first | exact HB.out | apply below_alloc | apply pw_below_drewN | apply below_drew1 | refine below_set ?_ (IsS70.ge HI395.out) | refine below_set ?_ GE392.out) | exact HB.out)) hb); have n3_ := Aside0.mk (hbox); have n4_ := Aside0.mk ((by rw [hg]; exact (below_size (by repeat (first | (with_reducible first | exact HB.out | apply below_alloc | apply pw_below_drewN | apply below_drew1 | refine below_set ?_ (IsS70.ge HI395.out) | refine below_set ?_ GE392.out) | exact HB.out))) : w.heap.size ≤ gb402)); have n5_ := Aside0.mk ((by rw [hg]; exact (below_size (by repeat (first | (with_reducible first | exact HB.out | apply below_alloc | apply pw_below_drewN | apply below_drew1 | refine below_set ?_ (IsS70.ge HI395.out) | refine below_set ?_ GE392.out) | exact HB.out))) : w.heap.size ≤ gb402)); have n6_ := Aside0.mk ((by rw [hg]; exact Nat.ne_of_lt (blk_lt (g := gb392) (o := .cells #[.int .i64 0, .int .i64 0, .slice none 0 0] 59 (0, 0)) (by (with_reducible repeat (first | refine blk_drewN ?_ _ | refine blk_drew ?_ | refine blk_alloc ?_ _)); exact BK392.out)) : gb392 ≠ gb402)); have n7_ := Aside0.mk ((by rw [hg]; exact Nat.ne_of_gt (blk_lt (g := gb392) (o := .cells #[.int .i64 0, .int .i64 0, .slice none 0 0] 59 (0, 0)) (by (with_reducible repeat (first | refine blk_drewN ?_ _ | refine blk_drew ?_ | refine blk_alloc ?_ _)); exact BK392.out)) : gb402 ≠ gb392)); have n8_ := Aside0.mk ((by rw [hg]; exact Nat.ne_of_lt (IsS70.lt (show IsS70 w _ g395 t400 t401 from by repeat (first | (with_reducible first | exact HI395.out | apply IsS70.alloc | apply IsS70.drewN | apply IsS70.drew | apply IsS70.set_0 | apply IsS70.set_1 | refine IsS70.far ?_ NB395_392.out _) | exact HI395.out))) : g395 ≠ gb402)); have n9_ := Aside0.mk ((by rw [hg]; exact Nat.ne_of_gt (IsS70.lt (show IsS70 w _ g395 t400 t401 from by repeat (first | (with_reducible first | exact HI395.out | apply IsS70.alloc | apply IsS70.drewN | apply IsS70.drew | apply IsS70.set_0 | apply IsS70.set_1 | refine IsS70.far ?_ NB395_392.out _) | exact HI395.out))) : gb402 ≠ g395)); clear BK392; clear HI395; clear HB; have BK392 := n0_; have HI395 := n1_; have HB := n2_; have BK402 := n3_; have GW402 := n4_; have GE402 := n5_; have NB392_402 := n6_; have NB402_392 := n7_; have NB395_402 := n8_; have NB402_395 := n9_; clear n0_ n1_ n2_ n3_ n4_ n5_ n6_ n7_ n8_ n9_; clear hb hbox hg; have hnb11 := NB402_392.out; have hnc11 := NB392_402.out; have hnb12 := NB402_395.out; have hnc12 := NB395_402.out; have hcz13_0 : w10.cell? ⟨gb402, 0, none⟩ = some (.int .i64 0) := (blk_cell BK402.out 0).trans rfl; have hcz13_1 : w10.cell? ⟨gb402, 1, none⟩ = some (.int .i64 0) := (blk_cell BK402.out 1).trans rfl; have hcz13_2 : w10.cell? ⟨gb402, 2, none⟩ = some (.slice none 0 0) := (blk_cell BK402.out 2).trans rfl; have hfz13_0 := blk_frozen BK402.out 0; have hfz13_1 := blk_frozen BK402.out 1; have hfz13_2 := blk_frozen BK402.out 2) | ((with_reducible refine gate_callee (f := 25) rfl ?_); refine goesL_ (some 16) rfl rfl Try.func25 (by kernel_rfl) rfl #[.pointer (some ⟨g395, 0, none⟩), .int .i64 (a0.size : Int)] rfl (by (try simp only [List.map_toArray, List.map_cons, List.map_nil]); first | done | rfl | (simp only [List.length_drop, List.length_take]; rfl)) ?_; (with_reducible refine (octet_Reader_Num.calls k g395 t400 t401 (a0.size : Int) t403 t404 t405 w _ ?side1 ?side2 A5.out).mono ?_); (case side1 => repeat (first | (with_reducible first | exact HI395.out | apply IsS70.alloc | apply IsS70.drewN | apply IsS70.drew | apply IsS70.set_0 | apply IsS70.set_1 | refine IsS70.far ?_ NB395_392.out _ | refine IsS70.far ?_ NB395_402.out _) | exact HI395.out)); (case side2 => repeat (first | (with_reducible first | exact HB.out | apply below_alloc | apply pw_below_drewN | apply below_drew1 | refine below_set ?_ (IsS70.ge HI395.out) | refine below_set ?_ GE392.out | refine below_set ?_ GE402.out) | exact HB.out)); rintro e w14 ⟨rfl, hi, hb, hk⟩; refine ⟨_, rfl, ?_⟩; have n0_ := Aside0.mk (KeepBut.blk hk (g' := gb392) (o := .cells #[.int .i64 0, .int .i64 0, .slice none 0 0] 59 (0, 0)) (by (with_reducible repeat (first | refine blk_drewN ?_ _ | refine blk_drew ?_ | refine blk_alloc ?_ _)); refine blk_far ?_ NB392_402.out _; (with_reducible repeat (first | refine blk_drewN ?_ _ | refine blk_drew ?_ | refine blk_alloc ?_ _)); refine blk_far ?_ NB392_402.out _; (with_reducible repeat (first | refine blk_drewN ?_ _ | refine blk_drew ?_ | refine blk_alloc ?_ _)); refine blk_far ?_ NB392_402.out _; (with_reducible repeat (first | refine blk_drewN ?_ _ | refine blk_drew ?_ | refine blk_alloc ?_ _)); exact BK392.out) NB392_395.out (by simp)); have n1_ := Aside0.mk (KeepBut.blk hk (g' := gb402) (o := .cells #[.int .i64 t396, .int .i64 t399, .slice none 0 0] 59 (0, 0)) (by (with_reducible repeat (first | refine blk_drewN ?_ _ | refine blk_drew ?_ | refine blk_alloc ?_ _)); refine blk_put (cs := #[.int .i64 t396, .int .i64 t399, .slice none 0 0]) ?_ 2 _ rfl; (with_reducible repeat (first | refine blk_drewN ?_ _ | refine blk_drew ?_ | refine blk_alloc ?_ _)); refine blk_put (cs := #[.int .i64 t396, .int .i64 0, .slice none 0 0]) ?_ 1 _ rfl; (with_reducible repeat (first | refine blk_drewN ?_ _ | refine blk_drew ?_ | refine blk_alloc ?_ _)); refine blk_put (cs := #[.int .i64 0, .int .i64 0, .slice none 0 0]) ?_ 0 _ rfl; (with_reducible repeat (first | refine blk_drewN ?_ _ | refine blk_drew ?_ | refine blk_alloc ?_ _)); exact BK402.out) NB402_395.out (by simp)); have n2_ := Aside0.mk (hb); have n3_ := Aside0.mk (hi); clear BK392; clear BK402; clear HB; clear HI395; have BK392 := n0_; have BK402 := n1_; have HB := n2_; have HI395 := n3_; clear n0_ n1_ n2_ n3_; (try clear hb); (try clear hb2); (try clear hk); (try clear hi)))
  go_loopg [17] k (fun kq v17 w' => ∃ (x17_1 : Int) (x396000_1 : ByteArray) (x396001_1 : Bool) (x403002_1 : List ByteArray) (u403002 : Value), v17 = .int .i64 x17_1 ∧ Aside0 (wire_ReadAnswer.l0 kq a0 t403 x17_1 x396000_1 x396001_1 t396 t399 x403002_1 = some (r1, r2, r3, r4)) ∧ Aside0 (kq ≤ k) ∧ Aside0 (Kd.R Kd.string 9 w' w.heap.size (fun _ => True) u403002 x403002_1) ∧ Aside0 (w'.heap[gb392]? = some (.cells #[.int .i64 0, .int .i64 0, (.slice none 0 0)] 59 (0, 0))) ∧ Aside0 (w'.heap[gb402]? = some (.cells #[.int .i64 t396, .int .i64 t399, u403002] 59 (0, 0))) ∧ Aside0 (IsS70 w w' g395 x396000_1 x396001_1) ∧ Aside0 (Below w.heap.size w w'))
  case atStart => exact ⟨(0), (t404), (t405), (([] : List ByteArray)), (.slice none 0 0), (by first | rfl | (simp; done) | (simp [*]; done)), H', ⟨Nat.le_refl _⟩, ⟨by first | exact Kd.R_nil _ _ _ _ _ | exact Kd.N_nil _ _ _ _ _ | exact Kd.V_nil _ _ _ _ _ | exact Kd.Q_nil _ _ _ _ _ | exact Kd.S_nil _ _ _ _ _⟩, ⟨by (with_reducible repeat (first | refine blk_drewN ?_ _ | refine blk_drew ?_ | refine blk_alloc ?_ _)); exact BK392.out⟩, ⟨by (with_reducible repeat (first | refine blk_drewN ?_ _ | refine blk_drew ?_ | refine blk_alloc ?_ _)); exact BK402.out⟩, ⟨by repeat (first | (with_reducible first | exact HI395.out | apply IsS70.alloc | apply IsS70.drewN | apply IsS70.drew | apply IsS70.set_0 | apply IsS70.set_1 | refine IsS70.far ?_ NB395_392.out _ | refine IsS70.far ?_ NB395_402.out _) | exact HI395.out)⟩, ⟨by repeat (first | (with_reducible first | exact HB.out | apply below_alloc | apply pw_below_drewN | apply below_drew1 | refine below_set ?_ (IsS70.ge HI395.out) | refine below_set ?_ GE392.out | refine below_set ?_ GE402.out) | exact HB.out)⟩⟩
  case round =>
    clear H'
    try clear c1
    try clear c2
    try clear p2
    try clear c3
    try clear c11
    try clear c12
    try clear hcz13_0
    try clear hcz13_1
    try clear hcz13_2
    try clear hfz13_0
    try clear hfz13_1
    try clear hfz13_2
    obtain ⟨x17_1, x396000_1, x396001_1, x403002_1, u403002, rfl, HA, HK1, HO_403002, BK392, BK402, HI395, HB⟩ := hrel
    cases gk with
    | zero => exact absurd HA.out (by simp [wire_ReadAnswer.l0])
    | succ k1 =>
      have H := HA.out
      clear HA
      simp only [wire_ReadAnswer.l0] at H
      by_cases c15 : x17_1 < t403
      · rw [if_pos c15] at H
        have c15b0 : decide (x17_1 < t403) = true := decide_eq_true c15
        clear c15
        replace H := Option.bind_eq_some_iff.mp H
        obtain ⟨⟨t409, t410, t411⟩, A160, H⟩ := H
        replace H : (if t409 = 0 then ((octet_Reader_Text.f k1 t410 t411 (a0.size : Int)).bind fun bt412 => (if x403002_1.length < 8796093022208 then (wire_ReadAnswer.l0 k1 a0 t403 (wrap64 (x17_1 + 1)) bt412.2.1 bt412.2.2 t396 t399 (x403002_1 ++ [bt412.1])) else (none))) else ((octet_Reader_End.f t410 t411).bind fun bt418 => (if bt418.1 = 0 then (some (t396, t399, x403002_1, 0)) else (some (0, 0, ([] : List ByteArray), 2))))) = some (r1, r2, r3, r4) := H
        have A16 := Aside0.mk A160
        clear A160
        by_cases c17 : t409 = 0
        · rw [if_pos c17] at H
          have c17b0 : (t409 == 0) = true := beq_iff_eq.mpr c17
          have c17b1 : (t409 != 0) = false := bne_eq_false_iff_eq.mpr c17
          clear c17
          replace H := Option.bind_eq_some_iff.mp H
          obtain ⟨⟨t412, t413, t414⟩, A180, H⟩ := H
          replace H : (if x403002_1.length < 8796093022208 then (wire_ReadAnswer.l0 k1 a0 t403 (wrap64 (x17_1 + 1)) t413 t414 t396 t399 (x403002_1 ++ [t412])) else (none)) = some (r1, r2, r3, r4) := H
          have A18 := Aside0.mk A180
          clear A180
          by_cases c19 : x403002_1.length < 8796093022208
          · rw [if_pos c19] at H
            have LMc19 := Aside0.mk c19
            clear c19
            obtain ⟨y415, hy415⟩ : ∃ y_ : List ByteArray, y_ = (x403002_1 ++ [t412]) := ⟨_, rfl⟩
            replace H : (wire_ReadAnswer.l0 k1 a0 t403 (wrap64 (x17_1 + 1)) t413 t414 t396 t399 y415) = some (r1, r2, r3, r4) := by first | (rw [hy415]; with_reducible exact H) | (have H2_ := (Option.bind_some _ _).symm.trans H; rw [hy415]; with_reducible exact H2_) | (have H2_ := (Option.bind_some _ _).symm.trans H; with_reducible exact H2_) | with_reducible exact H | (rw [hy415]; exact H) | exact H
            have Ny415 := Aside0.mk hy415
            clear hy415
            have H' := Aside0.mk H
            clear H
            try go_wp2_with (first | ((with_reducible refine gate_callee (f := 22) rfl ?_); refine goesL_ (some 20) rfl rfl Try.func22 (by kernel_rfl) rfl #[.pointer (some ⟨g395, 0, none⟩)] rfl (by (try simp only [List.map_toArray, List.map_cons, List.map_nil]); first | done | rfl | (simp only [List.length_drop, List.length_take]; rfl)) ?_; (with_reducible refine (octet_Reader_Err.calls g395 x396000_1 x396001_1 t409 t410 t411 w _ ?side1 ?side2 A16.out).mono ?_); (case side1 => repeat (first | (with_reducible first | exact HI395.out | apply IsS70.alloc | apply IsS70.drewN | apply IsS70.drew | apply IsS70.set_0 | apply IsS70.set_1 | refine IsS70.far ?_ NB395_392.out _ | refine IsS70.far ?_ NB395_402.out _) | exact HI395.out)); (case side2 => repeat (first | (with_reducible first | exact HB.out | apply below_alloc | apply pw_below_drewN | apply below_drew1 | refine below_set ?_ (IsS70.ge HI395.out) | refine below_set ?_ GE392.out | refine below_set ?_ GE402.out) | exact HB.out)); rintro e w20 ⟨rfl, hi, hb, hk⟩; refine ⟨_, rfl, ?_⟩; have n0_ := Aside0.mk (Kd.R_mono (Kd.R_keep (IsS70.apart (show IsS70 w _ g395 x396000_1 x396001_1 from by repeat (first | (with_reducible first | exact HI395.out | apply IsS70.alloc | apply IsS70.drewN | apply IsS70.drew | apply IsS70.set_0 | apply IsS70.set_1 | refine IsS70.far ?_ NB395_392.out _ | refine IsS70.far ?_ NB395_402.out _) | exact HI395.out)) (by (with_reducible repeat (first | apply Kd.R_alloc | apply Kd.R_drewN | apply Kd.R_drew)); exact HO_403002.out) (by decide)) hk (fun _ h => h.2)) (fun _ h => h.1)); have n1_ := Aside0.mk (KeepBut.blk hk (g' := gb392) (o := .cells #[.int .i64 0, .int .i64 0, .slice none 0 0] 59 (0, 0)) (by (with_reducible repeat (first | refine blk_drewN ?_ _ | refine blk_drew ?_ | refine blk_alloc ?_ _)); exact BK392.out) NB392_395.out (by simp)); have n2_ := Aside0.mk (KeepBut.blk hk (g' := gb402) (o := .cells #[.int .i64 t396, .int .i64 t399, u403002] 59 (0, 0)) (by (with_reducible repeat (first | refine blk_drewN ?_ _ | refine blk_drew ?_ | refine blk_alloc ?_ _)); exact BK402.out) NB402_395.out (by simp)); have n3_ := Aside0.mk (hb); have n4_ := Aside0.mk (hi); clear HO_403002; clear BK392; clear BK402; clear HB; clear HI395; have HO_403002 := n0_; have BK392 := n1_; have BK402 := n2_; have HB := n3_; have HI395 := n4_; clear n0_ n1_ n2_ n3_ n4_; (try clear hb); (try clear hb2); (try clear hk); (try clear hi)))
            have n0_ := Aside0.mk (Kd.R_drew HO_403002.out)
            have n1_ := Aside0.mk (blk_drew BK392.out)
            have n2_ := Aside0.mk (blk_drew BK402.out)
            have n3_ := Aside0.mk (IsS70.drew HI395.out)
            have n4_ := Aside0.mk (below_drew1 HB.out)
            clear HO_403002
            clear BK392
            clear BK402
            clear HI395
            clear HB
            have HO_403002 := n0_
            have BK392 := n1_
            have BK402 := n2_
            have HI395 := n3_
            have HB := n4_
            clear n0_ n1_ n2_ n3_ n4_
            refine start_ (n := 10) (S := fun w' => w'.cell? ⟨gb402, 0, none⟩ = some (.int .i64 t396) ∧ w'.cell? ⟨gb402, 1, none⟩ = some (.int .i64 t399) ∧ w'.cell? ⟨gb402, 2, none⟩ = some (u403002)) (ds := [9]) #[false, false, false, false, false, false, false, false, false, false] (by kernel_rfl) rfl rfl ⟨(blk_cell BK402.out 0).trans rfl, (blk_cell BK402.out 1).trans rfl, (blk_cell BK402.out 2).trans rfl⟩ (fun hHeld => ?_); refine with_tabW wire_ReadAnswer.tab6 wire_ReadAnswer.bits6 (fun HT_ HW_ => ?_)
            generalize w20.drew = w21 at HO_403002 BK392 BK402 HI395 HB hHeld ⊢
            refine pure_ (i := 0) (N := some 22) (v := ?_) (a' := ?_) #[true, false, false, false, false, false, false, false, false, false] rfl rfl (any_of HT_.out (by kernel_rfl)) (fun _ _ _ h => h) (Or.inl ⟨by rfl, ?_⟩) ?_ ?_
            rotate_left
            · intro w'
              go_simp
              with_reducible rfl
            rotate_left
            · simp only [Act.put, List.setIfInBounds_toArray, List.set_cons_zero, List.set_cons_succ, i64_w, i32_w]
              rfl
            refine pure_ (i := 2) (N := some 24) (v := ?_) (a' := ?_) #[true, false, true, false, false, false, false, false, false, false] rfl rfl (any_of HT_.out (by kernel_rfl)) (fun _ _ _ h => h) (Or.inl ⟨by rfl, ?_⟩) ?_ ?_
            rotate_left
            · intro w'
              go_simp
              with_reducible rfl
            rotate_left
            · simp only [Act.put, List.setIfInBounds_toArray, List.set_cons_zero, List.set_cons_succ, i64_w, i32_w]
              rfl
            refine pure_ (i := 3) (N := some 25) (v := ?_) (a' := ?_) #[true, false, true, true, false, false, false, false, false, false] rfl rfl (any_of HT_.out (by kernel_rfl)) (fun _ _ _ h => h) (Or.inl ⟨by rfl, ?_⟩) ?_ ?_
            rotate_left
            · intro w'
              go_simp
              with_reducible rfl
            rotate_left
            · simp only [Act.put, List.setIfInBounds_toArray, List.set_cons_zero, List.set_cons_succ, i64_w, i32_w]
              rfl
            refine pure_ (i := 4) (N := some 26) (v := ?_) (a' := ?_) #[true, false, true, true, true, false, false, false, false, false] rfl rfl (any_of HT_.out (by kernel_rfl)) (fun _ _ _ h => h) (Or.inl ⟨by rfl, ?_⟩) ?_ ?_
            rotate_left
            · intro w'
              go_simp
              with_reducible rfl
            rotate_left
            · simp only [Act.put, List.setIfInBounds_toArray, List.set_cons_zero, List.set_cons_succ, i64_w, i32_w]
              rfl
            refine take_ (i := 1) (N := some 23) (v := ?_) (a' := ?_) #[true, true, true, true, true, false, false, false, false, false] rfl rfl (take_ofW HT_.out HW_.out (by kernel_rfl)) (fun _ _ _ h => h) (Or.inl ⟨by rfl, ?_⟩) hHeld ?_ ?_
            rotate_left
            · rintro w' ⟨s0, s1, s2⟩
              go_simp
              with_reducible rfl
            rotate_left
            · simp only [Act.put, List.setIfInBounds_toArray, List.set_cons_zero, List.set_cons_succ, i64_w, i32_w]
              rfl
            refine one_ (i := 5) (N := some 27) #[true, true, true, true, true, true, false, false, false, false] rfl rfl (one_of HT_.out (by kernel_rfl)) (by decide) (fun K hK => ?_)
            refine goes_ Try.func26 (by kernel_rfl) rfl #[.pointer (some ⟨g395, 0, none⟩), .int .i64 (a0.size : Int)] (by rfl) rfl rfl (by (try simp only [List.map_toArray, List.map_cons, List.map_nil]); first | done | rfl | (simp only [List.length_drop, List.length_take]; rfl)) ?_
            with_reducible refine (octet_Reader_Text.calls k1 g395 t410 t411 (a0.size : Int) t412 t413 t414 w _ ?side1 ?side2 A18.out).mono ?_
            (case side1 => repeat (first | (with_reducible first | exact HI395.out | apply IsS70.alloc | apply IsS70.drewN | apply IsS70.drew | apply IsS70.set_0 | apply IsS70.set_1 | refine IsS70.far ?_ NB395_392.out _ | refine IsS70.far ?_ NB395_402.out _) | exact HI395.out))
            (case side2 => repeat (first | (with_reducible first | exact HB.out | apply below_alloc | apply pw_below_drewN | apply below_drew1 | refine below_set ?_ (IsS70.ge HI395.out) | refine below_set ?_ GE392.out | refine below_set ?_ GE402.out) | exact HB.out))
            rintro e w22 ⟨rfl, hi, hb, hk⟩
            refine ⟨_, rfl, ?_⟩
            have n0_ := Aside0.mk (Kd.R_mono (Kd.R_keep (IsS70.apart (show IsS70 w _ g395 t410 t411 from by repeat (first | (with_reducible first | exact HI395.out | apply IsS70.alloc | apply IsS70.drewN | apply IsS70.drew | apply IsS70.set_0 | apply IsS70.set_1 | refine IsS70.far ?_ NB395_392.out _ | refine IsS70.far ?_ NB395_402.out _) | exact HI395.out)) (by (with_reducible repeat (first | apply Kd.R_alloc | apply Kd.R_drewN | apply Kd.R_drew)); exact HO_403002.out) (by decide)) hk (fun _ h => h.2)) (fun _ h => h.1))
            have n1_ := Aside0.mk (KeepBut.blk hk (g' := gb392) (o := .cells #[.int .i64 0, .int .i64 0, .slice none 0 0] 59 (0, 0)) (by (with_reducible repeat (first | refine blk_drewN ?_ _ | refine blk_drew ?_ | refine blk_alloc ?_ _)); exact BK392.out) NB392_395.out (by simp))
            have n2_ := Aside0.mk (KeepBut.blk hk (g' := gb402) (o := .cells #[.int .i64 t396, .int .i64 t399, u403002] 59 (0, 0)) (by (with_reducible repeat (first | refine blk_drewN ?_ _ | refine blk_drew ?_ | refine blk_alloc ?_ _)); exact BK402.out) NB402_395.out (by simp))
            have n3_ := Aside0.mk (hb)
            have n4_ := Aside0.mk (hi)
            clear HO_403002
            clear BK392
            clear BK402
            clear HB
            clear HI395
            have HO_403002 := n0_
            have BK392 := n1_
            have BK402 := n2_
            have HB := n3_
            have HI395 := n4_
            clear n0_ n1_ n2_ n3_ n4_
            (try clear hb)
            (try clear hb2)
            (try clear hk)
            (try clear hi)
            refine hK.out _ _ ⟨(blk_cell BK402.out 0).trans rfl, (blk_cell BK402.out 1).trans rfl, (blk_cell BK402.out 2).trans rfl⟩ (fun hHeld => ?_)
            clear hK K
            refine norm_ (a' := ?_) ?_ ?_
            rotate_left
            · show Act.put _ (some 27) _ = _
              simp only [Act.put, List.setIfInBounds_toArray, List.set_cons_zero, List.set_cons_succ, i64_w, i32_w]
              rfl
            refine one_ (i := 6) (N := some 28) #[true, true, true, true, true, true, true, false, false, false] rfl rfl (one_of HT_.out (by kernel_rfl)) (by decide) (fun K hK => ?_)
            refine value_ (w1 := ?_) (v := ?_) (by rfl) rfl ?_ ?_
            rotate_left 2
            · go_simp
              constructor
              · rfl
              · rfl
            refine hK.out _ _ ⟨(blk_cell (blk_alloc BK402.out _) 0).trans rfl, (blk_cell (blk_alloc BK402.out _) 1).trans rfl, (blk_cell (blk_alloc BK402.out _) 2).trans rfl⟩ (fun hHeld => ?_)
            clear hK K
            refine norm_ (a' := ?_) ?_ ?_
            rotate_left
            · show Act.put _ (some 28) _ = _
              simp only [Act.put, List.setIfInBounds_toArray, List.set_cons_zero, List.set_cons_succ, i64_w, i32_w]
              rfl
            refine one_ (i := 7) (N := some 29) #[true, true, true, true, true, true, true, true, false, false] rfl rfl (one_of HT_.out (by kernel_rfl)) (by decide) (fun K hK => ?_)
            refine Kd.R_append_step Kd.string (w0 := w) w.heap.size (by rfl) (.tmp 23) (.tmp 28) 57 9 (.string ⟨#[]⟩) 16 rfl Try.underlying57 info9 rfl (by decide) (by omega) u403002 x403002_1 t412 [.string t412] (fun _ => True) (fun _ => False) rfl rfl ?aP (fun _ hk => hk.elim) ?aF ?aO ?aB ?aS ?aL ?_
            (case aP => exact rfl)
            (case aB => exact (by repeat (first | (with_reducible first | exact HB.out | apply below_alloc | apply pw_below_drewN | apply below_drew1 | refine below_set ?_ (IsS70.ge HI395.out) | refine below_set ?_ GE392.out | refine below_set ?_ GE402.out) | exact HB.out)))
            (case aF => exact (fun _ _ => trivial))
            (case aO => exact (by (with_reducible repeat (first | apply Kd.R_alloc | apply Kd.R_drewN | apply Kd.R_drew)); exact HO_403002.out))
            (case aS => exact (below_size (by repeat (first | (with_reducible first | exact HB.out | apply below_alloc | apply pw_below_drewN | apply below_drew1 | refine below_set ?_ (IsS70.ge HI395.out) | refine below_set ?_ GE392.out | refine below_set ?_ GE402.out) | exact HB.out))))
            (case aL => have := LMc19.out; omega)
            intro v416 w23 ho hb hg hat
            rw [← Ny415.out] at ho
            have n0_ := Aside0.mk (blk_grown (g := gb392) (o := .cells #[.int .i64 0, .int .i64 0, .slice none 0 0] 59 (0, 0)) (by (with_reducible repeat (first | refine blk_drewN ?_ _ | refine blk_drew ?_ | refine blk_alloc ?_ _)); exact BK392.out) hg (Kd.R_ne HO_403002.out BK392.out (by decide)))
            have n1_ := Aside0.mk (blk_grown (g := gb402) (o := .cells #[.int .i64 t396, .int .i64 t399, u403002] 59 (0, 0)) (by (with_reducible repeat (first | refine blk_drewN ?_ _ | refine blk_drew ?_ | refine blk_alloc ?_ _)); exact BK402.out) hg (Kd.R_ne HO_403002.out BK402.out (by decide)))
            have n2_ := Aside0.mk (IsS70.grown (by repeat (first | (with_reducible first | exact HI395.out | apply IsS70.alloc | apply IsS70.drewN | apply IsS70.drew | apply IsS70.set_0 | apply IsS70.set_1 | refine IsS70.far ?_ NB395_392.out _ | refine IsS70.far ?_ NB395_402.out _) | exact HI395.out)) hg (IsS70.own_ne HI395.out HO_403002.out (by decide)))
            have n3_ := Aside0.mk (hb)
            have n4_ := Aside0.mk (ho)
            clear BK392
            clear BK402
            clear HI395
            clear HB
            clear HO_403002
            have BK392 := n0_
            have BK402 := n1_
            have HI395 := n2_
            have HB := n3_
            have HO417 := n4_
            clear n0_ n1_ n2_ n3_ n4_
            clear ho hb hg hat
            obtain ⟨Ao24, co24, eo24⟩ := Kd.R_slice HO417.out
            (first | subst eo24 | (injection eo24 with f1_ f2_ f3_; have f4_ := f1_.symm; have f5_ := f3_.symm; clear f1_ f2_ f3_; subst f4_; subst f5_))
            refine hK.out _ _ ⟨(blk_cell BK402.out 0).trans rfl, (blk_cell BK402.out 1).trans rfl, (blk_cell BK402.out 2).trans rfl⟩ (fun hHeld => ?_)
            clear hK K
            refine norm_ (a' := ?_) ?_ ?_
            rotate_left
            · show Act.put _ (some 29) _ = _
              simp only [Act.put, List.setIfInBounds_toArray, List.set_cons_zero, List.set_cons_succ, i64_w, i32_w]
              rfl
            refine pure_ (i := 8) (N := some 30) (v := ?_) (a' := ?_) #[true, true, true, true, true, true, true, true, true, false] rfl rfl (any_of HT_.out (by kernel_rfl)) (fun _ _ _ h => h) (Or.inl ⟨by rfl, ?_⟩) ?_ ?_
            rotate_left
            · intro w'
              go_simp
              with_reducible rfl
            rotate_left
            · simp only [Act.put, List.setIfInBounds_toArray, List.set_cons_zero, List.set_cons_succ, i64_w, i32_w]
              rfl
            refine last_ (i := 9) (N := none) #[true, true, true, true, true, true, true, true, true, true] rfl rfl (one_of HT_.out (by kernel_rfl)) (by decide) (fun K hK => ?_)
            have hs25 : w23.cell? ⟨gb402, 2, none⟩ = some (u403002) := (blk_cell BK402.out 2).trans rfl
            have hfs25 := blk_frozen BK402.out 2
            have hns25_0 := NB392_402.out
            have hms25_0 := NB402_392.out
            refine skip_ (w1 := ?_) (by rfl) rfl ?_ ?_
            rotate_left
            · go_simp
              rfl
            refine hK.out _ _ ?_
            clear hK K
            refine done_ (done_of HT_.out (by kernel_rfl)) ?_
            try go_wp2
            go_roundg k1
            case measure => have := HK1.out; omega
            case rel => exact ⟨(wrap64 (x17_1 + 1)), (t413), (t414), (y415), (.slice Ao24 y415.length co24), (by first | rfl | (simp; done) | (simp [*]; done)), H', ⟨by have := HK1.out; omega⟩, ⟨by (with_reducible repeat (first | apply Kd.R_alloc | apply Kd.R_drewN | apply Kd.R_drew)); exact Kd.R_mono (Kd.R_far (p := ⟨gb402, 2, none⟩) (Kd.R_types HO417.out BK402.out (by decide)) (fun _ hk => hk.2) (.slice Ao24 y415.length co24)) (fun _ hk => trivial)⟩, ⟨by (with_reducible repeat (first | refine blk_drewN ?_ _ | refine blk_drew ?_ | refine blk_alloc ?_ _)); refine blk_far ?_ NB392_402.out _; (with_reducible repeat (first | refine blk_drewN ?_ _ | refine blk_drew ?_ | refine blk_alloc ?_ _)); exact BK392.out⟩, ⟨by (with_reducible repeat (first | refine blk_drewN ?_ _ | refine blk_drew ?_ | refine blk_alloc ?_ _)); refine blk_put (cs := #[.int .i64 t396, .int .i64 t399, u403002]) ?_ 2 _ rfl; (with_reducible repeat (first | refine blk_drewN ?_ _ | refine blk_drew ?_ | refine blk_alloc ?_ _)); exact BK402.out⟩, ⟨by repeat (first | (with_reducible first | exact HI395.out | apply IsS70.alloc | apply IsS70.drewN | apply IsS70.drew | apply IsS70.set_0 | apply IsS70.set_1 | refine IsS70.far ?_ NB395_392.out _ | refine IsS70.far ?_ NB395_402.out _) | exact HI395.out)⟩, ⟨by repeat (first | (with_reducible first | exact HB.out | apply below_alloc | apply pw_below_drewN | apply below_drew1 | refine below_set ?_ (IsS70.ge HI395.out) | refine below_set ?_ GE392.out | refine below_set ?_ GE402.out) | exact HB.out)⟩⟩
          · rw [if_neg c19] at H
            exact absurd H (by simp)
        · rw [if_neg c17] at H
          have c17b0 : (t409 == 0) = false := beq_eq_false_iff_ne.mpr c17
          have c17b1 : (t409 != 0) = true := bne_iff_ne.mpr c17
          replace H := Option.bind_eq_some_iff.mp H
          obtain ⟨⟨t418, t419, t420⟩, A260, H⟩ := H
          replace H : (if t418 = 0 then (some (t396, t399, x403002_1, 0)) else (some (0, 0, ([] : List ByteArray), 2))) = some (r1, r2, r3, r4) := H
          have A26 := Aside0.mk A260
          clear A260
          by_cases c27 : t418 = 0
          · rw [if_pos c27] at H
            have c27b0 : (t418 == 0) = true := beq_iff_eq.mpr c27
            have c27b1 : (t418 != 0) = false := bne_eq_false_iff_eq.mpr c27
            clear c27
            simp only [Option.some.injEq, Prod.mk.injEq] at H
            obtain ⟨rfl, rfl, rfl, rfl⟩ := H
            go_wp2_with (first | ((with_reducible refine gate_callee (f := 22) rfl ?_); refine goesL_ (some 20) rfl rfl Try.func22 (by kernel_rfl) rfl #[.pointer (some ⟨g395, 0, none⟩)] rfl (by (try simp only [List.map_toArray, List.map_cons, List.map_nil]); first | done | rfl | (simp only [List.length_drop, List.length_take]; rfl)) ?_; (with_reducible refine (octet_Reader_Err.calls g395 x396000_1 x396001_1 t409 t410 t411 w _ ?side1 ?side2 A16.out).mono ?_); (case side1 => repeat (first | (with_reducible first | exact HI395.out | apply IsS70.alloc | apply IsS70.drewN | apply IsS70.drew | apply IsS70.set_0 | apply IsS70.set_1 | refine IsS70.far ?_ NB395_392.out _ | refine IsS70.far ?_ NB395_402.out _) | exact HI395.out)); (case side2 => repeat (first | (with_reducible first | exact HB.out | apply below_alloc | apply pw_below_drewN | apply below_drew1 | refine below_set ?_ (IsS70.ge HI395.out) | refine below_set ?_ GE392.out | refine below_set ?_ GE402.out) | exact HB.out)); rintro e w28 ⟨rfl, hi, hb, hk⟩; refine ⟨_, rfl, ?_⟩; have n0_ := Aside0.mk (Kd.R_mono (Kd.R_keep (IsS70.apart (show IsS70 w _ g395 x396000_1 x396001_1 from by repeat (first | (with_reducible first | exact HI395.out | apply IsS70.alloc | apply IsS70.drewN | apply IsS70.drew | apply IsS70.set_0 | apply IsS70.set_1 | refine IsS70.far ?_ NB395_392.out _ | refine IsS70.far ?_ NB395_402.out _) | exact HI395.out)) (by (with_reducible repeat (first | apply Kd.R_alloc | apply Kd.R_drewN | apply Kd.R_drew)); exact HO_403002.out) (by decide)) hk (fun _ h => h.2)) (fun _ h => h.1)); have n1_ := Aside0.mk (KeepBut.blk hk (g' := gb392) (o := .cells #[.int .i64 0, .int .i64 0, .slice none 0 0] 59 (0, 0)) (by (with_reducible repeat (first | refine blk_drewN ?_ _ | refine blk_drew ?_ | refine blk_alloc ?_ _)); exact BK392.out) NB392_395.out (by simp)); have n2_ := Aside0.mk (KeepBut.blk hk (g' := gb402) (o := .cells #[.int .i64 t396, .int .i64 t399, u403002] 59 (0, 0)) (by (with_reducible repeat (first | refine blk_drewN ?_ _ | refine blk_drew ?_ | refine blk_alloc ?_ _)); exact BK402.out) NB402_395.out (by simp)); have n3_ := Aside0.mk (hb); have n4_ := Aside0.mk (hi); clear HO_403002; clear BK392; clear BK402; clear HB; clear HI395; have HO_403002 := n0_; have BK392 := n1_; have BK402 := n2_; have HB := n3_; have HI395 := n4_; clear n0_ n1_ n2_ n3_ n4_; (try clear hb); (try clear hb2); (try clear hk); (try clear hi)) | ((with_reducible refine gate_callee (f := 24) rfl ?_); refine goesL_ (some 33) rfl rfl Try.func24 (by kernel_rfl) rfl #[.pointer (some ⟨g395, 0, none⟩)] rfl (by (try simp only [List.map_toArray, List.map_cons, List.map_nil]); first | done | rfl | (simp only [List.length_drop, List.length_take]; rfl)) ?_; (with_reducible refine (octet_Reader_End.calls g395 t410 t411 t418 t419 t420 w _ ?side1 ?side2 A26.out).mono ?_); (case side1 => repeat (first | (with_reducible first | exact HI395.out | apply IsS70.alloc | apply IsS70.drewN | apply IsS70.drew | apply IsS70.set_0 | apply IsS70.set_1 | refine IsS70.far ?_ NB395_392.out _ | refine IsS70.far ?_ NB395_402.out _) | exact HI395.out)); (case side2 => repeat (first | (with_reducible first | exact HB.out | apply below_alloc | apply pw_below_drewN | apply below_drew1 | refine below_set ?_ (IsS70.ge HI395.out) | refine below_set ?_ GE392.out | refine below_set ?_ GE402.out) | exact HB.out)); rintro e w29 ⟨rfl, hi, hb, hk⟩; refine ⟨_, rfl, ?_⟩; have n0_ := Aside0.mk (Kd.R_mono (Kd.R_keep (IsS70.apart (show IsS70 w _ g395 t410 t411 from by repeat (first | (with_reducible first | exact HI395.out | apply IsS70.alloc | apply IsS70.drewN | apply IsS70.drew | apply IsS70.set_0 | apply IsS70.set_1 | refine IsS70.far ?_ NB395_392.out _ | refine IsS70.far ?_ NB395_402.out _) | exact HI395.out)) (by (with_reducible repeat (first | apply Kd.R_alloc | apply Kd.R_drewN | apply Kd.R_drew)); exact HO_403002.out) (by decide)) hk (fun _ h => h.2)) (fun _ h => h.1)); have n1_ := Aside0.mk (KeepBut.blk hk (g' := gb392) (o := .cells #[.int .i64 0, .int .i64 0, .slice none 0 0] 59 (0, 0)) (by (with_reducible repeat (first | refine blk_drewN ?_ _ | refine blk_drew ?_ | refine blk_alloc ?_ _)); exact BK392.out) NB392_395.out (by simp)); have n2_ := Aside0.mk (KeepBut.blk hk (g' := gb402) (o := .cells #[.int .i64 t396, .int .i64 t399, u403002] 59 (0, 0)) (by (with_reducible repeat (first | refine blk_drewN ?_ _ | refine blk_drew ?_ | refine blk_alloc ?_ _)); exact BK402.out) NB402_395.out (by simp)); have n3_ := Aside0.mk (hb); have n4_ := Aside0.mk (hi); clear HO_403002; clear BK392; clear BK402; clear HB; clear HI395; have HO_403002 := n0_; have BK392 := n1_; have BK402 := n2_; have HB := n3_; have HI395 := n4_; clear n0_ n1_ n2_ n3_ n4_; (try clear hb); (try clear hb2); (try clear hk); (try clear hi); have hnb30 := NB402_392.out; have hnc30 := NB392_402.out; have hnb31 := NB402_395.out; have hnc31 := NB395_402.out; have hcz32_0 : w29.cell? ⟨gb402, 0, none⟩ = some (.int .i64 t396) := (blk_cell BK402.out 0).trans rfl; have hcz32_1 : w29.cell? ⟨gb402, 1, none⟩ = some (.int .i64 t399) := (blk_cell BK402.out 1).trans rfl; have hcz32_2 : w29.cell? ⟨gb402, 2, none⟩ = some (u403002) := (blk_cell BK402.out 2).trans rfl; have hfz32_0 := blk_frozen BK402.out 0; have hfz32_1 := blk_frozen BK402.out 1; have hfz32_2 := blk_frozen BK402.out 2; have hnb33 := NB392_395.out; have hnc33 := NB395_392.out; have hcz34_0 : w29.cell? ⟨gb392, 0, none⟩ = some (.int .i64 0) := (blk_cell BK392.out 0).trans rfl; have hcz34_1 : w29.cell? ⟨gb392, 1, none⟩ = some (.int .i64 0) := (blk_cell BK392.out 1).trans rfl; have hcz34_2 : w29.cell? ⟨gb392, 2, none⟩ = some (.slice none 0 0) := (blk_cell BK392.out 2).trans rfl; have hfz34_0 := blk_frozen BK392.out 0; have hfz34_1 := blk_frozen BK392.out 1; have hfz34_2 := blk_frozen BK392.out 2; obtain ⟨Ao35, co35, eo35⟩ := Kd.R_slice HO_403002.out; subst eo35))
            refine bodyPost_ret (results_ct rfl _ _ gb392 59 #[.int .i64 t396, .int .i64 t399, .slice Ao35 x403002_1.length co35] (0, 0) _ rfl (by (with_reducible repeat (first | refine blk_drewN ?_ _ | refine blk_drew ?_ | refine blk_alloc ?_ _)); refine blk_put (cs := #[.int .i64 t396, .int .i64 t399, .slice none 0 0]) ?_ 2 _ rfl; (with_reducible repeat (first | refine blk_drewN ?_ _ | refine blk_drew ?_ | refine blk_alloc ?_ _)); refine blk_put (cs := #[.int .i64 t396, .int .i64 0, .slice none 0 0]) ?_ 1 _ rfl; (with_reducible repeat (first | refine blk_drewN ?_ _ | refine blk_drew ?_ | refine blk_alloc ?_ _)); refine blk_put (cs := #[.int .i64 0, .int .i64 0, .slice none 0 0]) ?_ 0 _ rfl; (with_reducible repeat (first | refine blk_drewN ?_ _ | refine blk_drew ?_ | refine blk_alloc ?_ _)); exact BK392.out) Try.underlying59 rfl (by kernel_rfl)) rfl ?_
            exact ⟨_, by first | rfl | (simp [errW_none, errW_some] <;> rfl) | (simp [*, errW_none, errW_some] <;> rfl), by (with_reducible repeat (first | apply Kd.R_alloc | apply Kd.R_drewN | apply Kd.R_drew)); exact Kd.R_mono (Kd.R_far (p := ⟨gb392, 2, none⟩) (Kd.R_far (p := ⟨gb392, 1, none⟩) (Kd.R_far (p := ⟨gb392, 0, none⟩) (Kd.R_types HO_403002.out BK392.out (by decide)) (fun _ hk => hk.2) (.int .i64 t396)) (fun _ hk => hk.2) (.int .i64 t399)) (fun _ hk => hk.2) (.slice Ao35 x403002_1.length co35)) (fun _ hk => trivial), by repeat (first | (with_reducible first | exact HB.out | apply below_alloc | apply pw_below_drewN | apply below_drew1 | refine below_set ?_ (IsS70.ge HI395.out) | refine below_set ?_ GE392.out | refine below_set ?_ GE402.out) | exact HB.out)⟩
          · rw [if_neg c27] at H
            have c27b0 : (t418 == 0) = false := beq_eq_false_iff_ne.mpr c27
            have c27b1 : (t418 != 0) = true := bne_iff_ne.mpr c27
            simp only [Option.some.injEq, Prod.mk.injEq] at H
            obtain ⟨rfl, rfl, rfl, rfl⟩ := H
            go_wp2_with (first | ((with_reducible refine gate_callee (f := 22) rfl ?_); refine goesL_ (some 20) rfl rfl Try.func22 (by kernel_rfl) rfl #[.pointer (some ⟨g395, 0, none⟩)] rfl (by (try simp only [List.map_toArray, List.map_cons, List.map_nil]); first | done | rfl | (simp only [List.length_drop, List.length_take]; rfl)) ?_; (with_reducible refine (octet_Reader_Err.calls g395 x396000_1 x396001_1 t409 t410 t411 w _ ?side1 ?side2 A16.out).mono ?_); (case side1 => repeat (first | (with_reducible first | exact HI395.out | apply IsS70.alloc | apply IsS70.drewN | apply IsS70.drew | apply IsS70.set_0 | apply IsS70.set_1 | refine IsS70.far ?_ NB395_392.out _ | refine IsS70.far ?_ NB395_402.out _) | exact HI395.out)); (case side2 => repeat (first | (with_reducible first | exact HB.out | apply below_alloc | apply pw_below_drewN | apply below_drew1 | refine below_set ?_ (IsS70.ge HI395.out) | refine below_set ?_ GE392.out | refine below_set ?_ GE402.out) | exact HB.out)); rintro e w36 ⟨rfl, hi, hb, hk⟩; refine ⟨_, rfl, ?_⟩; have n0_ := Aside0.mk (Kd.R_mono (Kd.R_keep (IsS70.apart (show IsS70 w _ g395 x396000_1 x396001_1 from by repeat (first | (with_reducible first | exact HI395.out | apply IsS70.alloc | apply IsS70.drewN | apply IsS70.drew | apply IsS70.set_0 | apply IsS70.set_1 | refine IsS70.far ?_ NB395_392.out _ | refine IsS70.far ?_ NB395_402.out _) | exact HI395.out)) (by (with_reducible repeat (first | apply Kd.R_alloc | apply Kd.R_drewN | apply Kd.R_drew)); exact HO_403002.out) (by decide)) hk (fun _ h => h.2)) (fun _ h => h.1)); have n1_ := Aside0.mk (KeepBut.blk hk (g' := gb392) (o := .cells #[.int .i64 0, .int .i64 0, .slice none 0 0] 59 (0, 0)) (by (with_reducible repeat (first | refine blk_drewN ?_ _ | refine blk_drew ?_ | refine blk_alloc ?_ _)); exact BK392.out) NB392_395.out (by simp)); have n2_ := Aside0.mk (KeepBut.blk hk (g' := gb402) (o := .cells #[.int .i64 t396, .int .i64 t399, u403002] 59 (0, 0)) (by (with_reducible repeat (first | refine blk_drewN ?_ _ | refine blk_drew ?_ | refine blk_alloc ?_ _)); exact BK402.out) NB402_395.out (by simp)); have n3_ := Aside0.mk (hb); have n4_ := Aside0.mk (hi); clear HO_403002; clear BK392; clear BK402; clear HB; clear HI395; have HO_403002 := n0_; have BK392 := n1_; have BK402 := n2_; have HB := n3_; have HI395 := n4_; clear n0_ n1_ n2_ n3_ n4_; (try clear hb); (try clear hb2); (try clear hk); (try clear hi)) | ((with_reducible refine gate_callee (f := 24) rfl ?_); refine goesL_ (some 33) rfl rfl Try.func24 (by kernel_rfl) rfl #[.pointer (some ⟨g395, 0, none⟩)] rfl (by (try simp only [List.map_toArray, List.map_cons, List.map_nil]); first | done | rfl | (simp only [List.length_drop, List.length_take]; rfl)) ?_; (with_reducible refine (octet_Reader_End.calls g395 t410 t411 t418 t419 t420 w _ ?side1 ?side2 A26.out).mono ?_); (case side1 => repeat (first | (with_reducible first | exact HI395.out | apply IsS70.alloc | apply IsS70.drewN | apply IsS70.drew | apply IsS70.set_0 | apply IsS70.set_1 | refine IsS70.far ?_ NB395_392.out _ | refine IsS70.far ?_ NB395_402.out _) | exact HI395.out)); (case side2 => repeat (first | (with_reducible first | exact HB.out | apply below_alloc | apply pw_below_drewN | apply below_drew1 | refine below_set ?_ (IsS70.ge HI395.out) | refine below_set ?_ GE392.out | refine below_set ?_ GE402.out) | exact HB.out)); rintro e w37 ⟨rfl, hi, hb, hk⟩; refine ⟨_, rfl, ?_⟩; have n0_ := Aside0.mk (Kd.R_mono (Kd.R_keep (IsS70.apart (show IsS70 w _ g395 t410 t411 from by repeat (first | (with_reducible first | exact HI395.out | apply IsS70.alloc | apply IsS70.drewN | apply IsS70.drew | apply IsS70.set_0 | apply IsS70.set_1 | refine IsS70.far ?_ NB395_392.out _ | refine IsS70.far ?_ NB395_402.out _) | exact HI395.out)) (by (with_reducible repeat (first | apply Kd.R_alloc | apply Kd.R_drewN | apply Kd.R_drew)); exact HO_403002.out) (by decide)) hk (fun _ h => h.2)) (fun _ h => h.1)); have n1_ := Aside0.mk (KeepBut.blk hk (g' := gb392) (o := .cells #[.int .i64 0, .int .i64 0, .slice none 0 0] 59 (0, 0)) (by (with_reducible repeat (first | refine blk_drewN ?_ _ | refine blk_drew ?_ | refine blk_alloc ?_ _)); exact BK392.out) NB392_395.out (by simp)); have n2_ := Aside0.mk (KeepBut.blk hk (g' := gb402) (o := .cells #[.int .i64 t396, .int .i64 t399, u403002] 59 (0, 0)) (by (with_reducible repeat (first | refine blk_drewN ?_ _ | refine blk_drew ?_ | refine blk_alloc ?_ _)); exact BK402.out) NB402_395.out (by simp)); have n3_ := Aside0.mk (hb); have n4_ := Aside0.mk (hi); clear HO_403002; clear BK392; clear BK402; clear HB; clear HI395; have HO_403002 := n0_; have BK392 := n1_; have BK402 := n2_; have HB := n3_; have HI395 := n4_; clear n0_ n1_ n2_ n3_ n4_; (try clear hb); (try clear hb2); (try clear hk); (try clear hi); have hnb38 := NB392_402.out; have hnc38 := NB402_392.out; have hnb39 := NB392_395.out; have hnc39 := NB395_392.out; have hcz40_0 : w37.cell? ⟨gb392, 0, none⟩ = some (.int .i64 0) := (blk_cell BK392.out 0).trans rfl; have hcz40_1 : w37.cell? ⟨gb392, 1, none⟩ = some (.int .i64 0) := (blk_cell BK392.out 1).trans rfl; have hcz40_2 : w37.cell? ⟨gb392, 2, none⟩ = some (.slice none 0 0) := (blk_cell BK392.out 2).trans rfl; have hfz40_0 := blk_frozen BK392.out 0; have hfz40_1 := blk_frozen BK392.out 1; have hfz40_2 := blk_frozen BK392.out 2))
            refine bodyPost_ret (results_ct rfl _ _ gb392 59 #[.int .i64 0, .int .i64 0, .slice none 0 0] (0, 0) _ rfl (by (with_reducible repeat (first | refine blk_drewN ?_ _ | refine blk_drew ?_ | refine blk_alloc ?_ _)); refine blk_put (cs := #[.int .i64 0, .int .i64 0, .slice none 0 0]) ?_ 2 _ rfl; (with_reducible repeat (first | refine blk_drewN ?_ _ | refine blk_drew ?_ | refine blk_alloc ?_ _)); refine blk_put (cs := #[.int .i64 0, .int .i64 0, .slice none 0 0]) ?_ 1 _ rfl; (with_reducible repeat (first | refine blk_drewN ?_ _ | refine blk_drew ?_ | refine blk_alloc ?_ _)); refine blk_put (cs := #[.int .i64 0, .int .i64 0, .slice none 0 0]) ?_ 0 _ rfl; (with_reducible repeat (first | refine blk_drewN ?_ _ | refine blk_drew ?_ | refine blk_alloc ?_ _)); exact BK392.out) Try.underlying59 rfl (by kernel_rfl)) rfl ?_
            exact ⟨_, by first | rfl | (simp [errW_none, errW_some] <;> rfl) | (simp [*, errW_none, errW_some] <;> rfl), by first | exact Kd.R_nil _ _ _ _ _ | exact Kd.N_nil _ _ _ _ _ | exact Kd.V_nil _ _ _ _ _ | exact Kd.Q_nil _ _ _ _ _ | exact Kd.S_nil _ _ _ _ _, by repeat (first | (with_reducible first | exact HB.out | apply below_alloc | apply pw_below_drewN | apply below_drew1 | refine below_set ?_ (IsS70.ge HI395.out) | refine below_set ?_ GE392.out | refine below_set ?_ GE402.out) | exact HB.out)⟩
      · rw [if_neg c15] at H
        have c15b0 : decide (x17_1 < t403) = false := decide_eq_false c15
        clear c15
        replace H := Option.bind_eq_some_iff.mp H
        obtain ⟨⟨t406, t407, t408⟩, A410, H⟩ := H
        replace H : (if t406 = 0 then (some (t396, t399, x403002_1, 0)) else (some (0, 0, ([] : List ByteArray), 2))) = some (r1, r2, r3, r4) := H
        have A41 := Aside0.mk A410
        clear A410
        by_cases c42 : t406 = 0
        · rw [if_pos c42] at H
          have c42b0 : (t406 == 0) = true := beq_iff_eq.mpr c42
          have c42b1 : (t406 != 0) = false := bne_eq_false_iff_eq.mpr c42
          clear c42
          simp only [Option.some.injEq, Prod.mk.injEq] at H
          obtain ⟨rfl, rfl, rfl, rfl⟩ := H
          go_wp2_with (first | ((with_reducible refine gate_callee (f := 24) rfl ?_); refine goesL_ (some 33) rfl rfl Try.func24 (by kernel_rfl) rfl #[.pointer (some ⟨g395, 0, none⟩)] rfl (by (try simp only [List.map_toArray, List.map_cons, List.map_nil]); first | done | rfl | (simp only [List.length_drop, List.length_take]; rfl)) ?_; (with_reducible refine (octet_Reader_End.calls g395 x396000_1 x396001_1 t406 t407 t408 w _ ?side1 ?side2 A41.out).mono ?_); (case side1 => repeat (first | (with_reducible first | exact HI395.out | apply IsS70.alloc | apply IsS70.drewN | apply IsS70.drew | apply IsS70.set_0 | apply IsS70.set_1 | refine IsS70.far ?_ NB395_392.out _ | refine IsS70.far ?_ NB395_402.out _) | exact HI395.out)); (case side2 => repeat (first | (with_reducible first | exact HB.out | apply below_alloc | apply pw_below_drewN | apply below_drew1 | refine below_set ?_ (IsS70.ge HI395.out) | refine below_set ?_ GE392.out | refine below_set ?_ GE402.out) | exact HB.out)); rintro e w43 ⟨rfl, hi, hb, hk⟩; refine ⟨_, rfl, ?_⟩; have n0_ := Aside0.mk (Kd.R_mono (Kd.R_keep (IsS70.apart (show IsS70 w _ g395 x396000_1 x396001_1 from by repeat (first | (with_reducible first | exact HI395.out | apply IsS70.alloc | apply IsS70.drewN | apply IsS70.drew | apply IsS70.set_0 | apply IsS70.set_1 | refine IsS70.far ?_ NB395_392.out _ | refine IsS70.far ?_ NB395_402.out _) | exact HI395.out)) (by (with_reducible repeat (first | apply Kd.R_alloc | apply Kd.R_drewN | apply Kd.R_drew)); exact HO_403002.out) (by decide)) hk (fun _ h => h.2)) (fun _ h => h.1)); have n1_ := Aside0.mk (KeepBut.blk hk (g' := gb392) (o := .cells #[.int .i64 0, .int .i64 0, .slice none 0 0] 59 (0, 0)) (by (with_reducible repeat (first | refine blk_drewN ?_ _ | refine blk_drew ?_ | refine blk_alloc ?_ _)); exact BK392.out) NB392_395.out (by simp)); have n2_ := Aside0.mk (KeepBut.blk hk (g' := gb402) (o := .cells #[.int .i64 t396, .int .i64 t399, u403002] 59 (0, 0)) (by (with_reducible repeat (first | refine blk_drewN ?_ _ | refine blk_drew ?_ | refine blk_alloc ?_ _)); exact BK402.out) NB402_395.out (by simp)); have n3_ := Aside0.mk (hb); have n4_ := Aside0.mk (hi); clear HO_403002; clear BK392; clear BK402; clear HB; clear HI395; have HO_403002 := n0_; have BK392 := n1_; have BK402 := n2_; have HB := n3_; have HI395 := n4_; clear n0_ n1_ n2_ n3_ n4_; (try clear hb); (try clear hb2); (try clear hk); (try clear hi); have hnb44 := NB402_392.out; have hnc44 := NB392_402.out; have hnb45 := NB402_395.out; have hnc45 := NB395_402.out; have hcz46_0 : w43.cell? ⟨gb402, 0, none⟩ = some (.int .i64 t396) := (blk_cell BK402.out 0).trans rfl; have hcz46_1 : w43.cell? ⟨gb402, 1, none⟩ = some (.int .i64 t399) := (blk_cell BK402.out 1).trans rfl; have hcz46_2 : w43.cell? ⟨gb402, 2, none⟩ = some (u403002) := (blk_cell BK402.out 2).trans rfl; have hfz46_0 := blk_frozen BK402.out 0; have hfz46_1 := blk_frozen BK402.out 1; have hfz46_2 := blk_frozen BK402.out 2; have hnb47 := NB392_395.out; have hnc47 := NB395_392.out; have hcz48_0 : w43.cell? ⟨gb392, 0, none⟩ = some (.int .i64 0) := (blk_cell BK392.out 0).trans rfl; have hcz48_1 : w43.cell? ⟨gb392, 1, none⟩ = some (.int .i64 0) := (blk_cell BK392.out 1).trans rfl; have hcz48_2 : w43.cell? ⟨gb392, 2, none⟩ = some (.slice none 0 0) := (blk_cell BK392.out 2).trans rfl; have hfz48_0 := blk_frozen BK392.out 0; have hfz48_1 := blk_frozen BK392.out 1; have hfz48_2 := blk_frozen BK392.out 2; obtain ⟨Ao49, co49, eo49⟩ := Kd.R_slice HO_403002.out; subst eo49))
          refine bodyPost_ret (results_ct rfl _ _ gb392 59 #[.int .i64 t396, .int .i64 t399, .slice Ao49 x403002_1.length co49] (0, 0) _ rfl (by (with_reducible repeat (first | refine blk_drewN ?_ _ | refine blk_drew ?_ | refine blk_alloc ?_ _)); refine blk_put (cs := #[.int .i64 t396, .int .i64 t399, .slice none 0 0]) ?_ 2 _ rfl; (with_reducible repeat (first | refine blk_drewN ?_ _ | refine blk_drew ?_ | refine blk_alloc ?_ _)); refine blk_put (cs := #[.int .i64 t396, .int .i64 0, .slice none 0 0]) ?_ 1 _ rfl; (with_reducible repeat (first | refine blk_drewN ?_ _ | refine blk_drew ?_ | refine blk_alloc ?_ _)); refine blk_put (cs := #[.int .i64 0, .int .i64 0, .slice none 0 0]) ?_ 0 _ rfl; (with_reducible repeat (first | refine blk_drewN ?_ _ | refine blk_drew ?_ | refine blk_alloc ?_ _)); exact BK392.out) Try.underlying59 rfl (by kernel_rfl)) rfl ?_
          exact ⟨_, by first | rfl | (simp [errW_none, errW_some] <;> rfl) | (simp [*, errW_none, errW_some] <;> rfl), by (with_reducible repeat (first | apply Kd.R_alloc | apply Kd.R_drewN | apply Kd.R_drew)); exact Kd.R_mono (Kd.R_far (p := ⟨gb392, 2, none⟩) (Kd.R_far (p := ⟨gb392, 1, none⟩) (Kd.R_far (p := ⟨gb392, 0, none⟩) (Kd.R_types HO_403002.out BK392.out (by decide)) (fun _ hk => hk.2) (.int .i64 t396)) (fun _ hk => hk.2) (.int .i64 t399)) (fun _ hk => hk.2) (.slice Ao49 x403002_1.length co49)) (fun _ hk => trivial), by repeat (first | (with_reducible first | exact HB.out | apply below_alloc | apply pw_below_drewN | apply below_drew1 | refine below_set ?_ (IsS70.ge HI395.out) | refine below_set ?_ GE392.out | refine below_set ?_ GE402.out) | exact HB.out)⟩
        · rw [if_neg c42] at H
          have c42b0 : (t406 == 0) = false := beq_eq_false_iff_ne.mpr c42
          have c42b1 : (t406 != 0) = true := bne_iff_ne.mpr c42
          simp only [Option.some.injEq, Prod.mk.injEq] at H
          obtain ⟨rfl, rfl, rfl, rfl⟩ := H
          go_wp2_with (first | ((with_reducible refine gate_callee (f := 24) rfl ?_); refine goesL_ (some 33) rfl rfl Try.func24 (by kernel_rfl) rfl #[.pointer (some ⟨g395, 0, none⟩)] rfl (by (try simp only [List.map_toArray, List.map_cons, List.map_nil]); first | done | rfl | (simp only [List.length_drop, List.length_take]; rfl)) ?_; (with_reducible refine (octet_Reader_End.calls g395 x396000_1 x396001_1 t406 t407 t408 w _ ?side1 ?side2 A41.out).mono ?_); (case side1 => repeat (first | (with_reducible first | exact HI395.out | apply IsS70.alloc | apply IsS70.drewN | apply IsS70.drew | apply IsS70.set_0 | apply IsS70.set_1 | refine IsS70.far ?_ NB395_392.out _ | refine IsS70.far ?_ NB395_402.out _) | exact HI395.out)); (case side2 => repeat (first | (with_reducible first | exact HB.out | apply below_alloc | apply pw_below_drewN | apply below_drew1 | refine below_set ?_ (IsS70.ge HI395.out) | refine below_set ?_ GE392.out | refine below_set ?_ GE402.out) | exact HB.out)); rintro e w50 ⟨rfl, hi, hb, hk⟩; refine ⟨_, rfl, ?_⟩; have n0_ := Aside0.mk (Kd.R_mono (Kd.R_keep (IsS70.apart (show IsS70 w _ g395 x396000_1 x396001_1 from by repeat (first | (with_reducible first | exact HI395.out | apply IsS70.alloc | apply IsS70.drewN | apply IsS70.drew | apply IsS70.set_0 | apply IsS70.set_1 | refine IsS70.far ?_ NB395_392.out _ | refine IsS70.far ?_ NB395_402.out _) | exact HI395.out)) (by (with_reducible repeat (first | apply Kd.R_alloc | apply Kd.R_drewN | apply Kd.R_drew)); exact HO_403002.out) (by decide)) hk (fun _ h => h.2)) (fun _ h => h.1)); have n1_ := Aside0.mk (KeepBut.blk hk (g' := gb392) (o := .cells #[.int .i64 0, .int .i64 0, .slice none 0 0] 59 (0, 0)) (by (with_reducible repeat (first | refine blk_drewN ?_ _ | refine blk_drew ?_ | refine blk_alloc ?_ _)); exact BK392.out) NB392_395.out (by simp)); have n2_ := Aside0.mk (KeepBut.blk hk (g' := gb402) (o := .cells #[.int .i64 t396, .int .i64 t399, u403002] 59 (0, 0)) (by (with_reducible repeat (first | refine blk_drewN ?_ _ | refine blk_drew ?_ | refine blk_alloc ?_ _)); exact BK402.out) NB402_395.out (by simp)); have n3_ := Aside0.mk (hb); have n4_ := Aside0.mk (hi); clear HO_403002; clear BK392; clear BK402; clear HB; clear HI395; have HO_403002 := n0_; have BK392 := n1_; have BK402 := n2_; have HB := n3_; have HI395 := n4_; clear n0_ n1_ n2_ n3_ n4_; (try clear hb); (try clear hb2); (try clear hk); (try clear hi); have hnb51 := NB392_402.out; have hnc51 := NB402_392.out; have hnb52 := NB392_395.out; have hnc52 := NB395_392.out; have hcz53_0 : w50.cell? ⟨gb392, 0, none⟩ = some (.int .i64 0) := (blk_cell BK392.out 0).trans rfl; have hcz53_1 : w50.cell? ⟨gb392, 1, none⟩ = some (.int .i64 0) := (blk_cell BK392.out 1).trans rfl; have hcz53_2 : w50.cell? ⟨gb392, 2, none⟩ = some (.slice none 0 0) := (blk_cell BK392.out 2).trans rfl; have hfz53_0 := blk_frozen BK392.out 0; have hfz53_1 := blk_frozen BK392.out 1; have hfz53_2 := blk_frozen BK392.out 2))
          refine bodyPost_ret (results_ct rfl _ _ gb392 59 #[.int .i64 0, .int .i64 0, .slice none 0 0] (0, 0) _ rfl (by (with_reducible repeat (first | refine blk_drewN ?_ _ | refine blk_drew ?_ | refine blk_alloc ?_ _)); refine blk_put (cs := #[.int .i64 0, .int .i64 0, .slice none 0 0]) ?_ 2 _ rfl; (with_reducible repeat (first | refine blk_drewN ?_ _ | refine blk_drew ?_ | refine blk_alloc ?_ _)); refine blk_put (cs := #[.int .i64 0, .int .i64 0, .slice none 0 0]) ?_ 1 _ rfl; (with_reducible repeat (first | refine blk_drewN ?_ _ | refine blk_drew ?_ | refine blk_alloc ?_ _)); refine blk_put (cs := #[.int .i64 0, .int .i64 0, .slice none 0 0]) ?_ 0 _ rfl; (with_reducible repeat (first | refine blk_drewN ?_ _ | refine blk_drew ?_ | refine blk_alloc ?_ _)); exact BK392.out) Try.underlying59 rfl (by kernel_rfl)) rfl ?_
          exact ⟨_, by first | rfl | (simp [errW_none, errW_some] <;> rfl) | (simp [*, errW_none, errW_some] <;> rfl), by first | exact Kd.R_nil _ _ _ _ _ | exact Kd.N_nil _ _ _ _ _ | exact Kd.V_nil _ _ _ _ _ | exact Kd.Q_nil _ _ _ _ _ | exact Kd.S_nil _ _ _ _ _, by repeat (first | (with_reducible first | exact HB.out | apply below_alloc | apply pw_below_drewN | apply below_drew1 | refine below_set ?_ (IsS70.ge HI395.out) | refine below_set ?_ GE392.out | refine below_set ?_ GE402.out) | exact HB.out)⟩

end Go.Proofs.Ythpgpljpadlegaa.Q
