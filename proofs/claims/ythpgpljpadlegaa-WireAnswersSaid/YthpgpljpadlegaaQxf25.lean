/- By a program of this session, out of the translation as Lean prints it: what the Go code computes, and that it does. -/
import Derived.Test.YthpgpljpadlegaaQx0
import Derived.Test.YthpgpljpadlegaaQxf20
import Derived.Test.YthpgpljpadlegaaQxf39
namespace Go.Proofs.Ythpgpljpadlegaa.Q
open Go.RowKit Go.Proofs.YthpgpljpadlegaaW.PrintWords Go.Proofs.YthpgpljpadlegaaW.PrintLast Go.Proofs.YthpgpljpadlegaaW.PrintMore
attribute [local go_sem] max2_int min2_int max_two min_two max_three min_three max_four min_four Aid.leq_str Aid.gtr_str Aid.geq_str   -- for this text's walks alone
set_option linter.unusedVariables false
set_option linter.unusedSimpArgs false

/-! ### octet_Reader_Num: function 25 -/
mutual
def octet_Reader_Num.j0 : Nat → Int → Bool → ByteArray → Bool → Option (Int × ByteArray × Bool)
  | 0, _, _, _, _ => none
  | k + 1, x1, x60, x1000, x1001 => if x60 = true then ((octet_Reader_fail.f x1000 x1001).bind fun bt173 => (some (0, bt173.1, bt173.2))) else (if 0 < (x1000.size : Int) then (if 1 ≤ (wrap64 (1 + (wrap64 (bt x1000 0)))) then (if (wrap64 (1 + (wrap64 (bt x1000 0)))) ≤ (x1000.size : Int) then ((some (bytesOf (x1000.extract 1 ((wrap64 (1 + (wrap64 (bt x1000 0)))) : Int).toNat) : List Int)).bind fun y175 => (octet_Reader_Num.l0 k x1 (wrap64 (bt x1000 0)) 0 y175 (y175.length : Int) 0 x1000 x1001)) else (none)) else (none)) else (none))
def octet_Reader_Num.l0 : Nat → Int → Int → Int → List Int → Int → Int → ByteArray → Bool → Option (Int × ByteArray × Bool)
  | 0, _, _, _, _, _, _, _, _ => none
  | k + 1, x1, x5, x6, x76, x77, x78, x1000, x1001 => if x78 < x77 then (if 0 ≤ x78 then (if x78 < (x76.length : Int) then (octet_Reader_Num.l0 k x1 x5 (Go.bits .or .u64 (IntKind.u64.wrap (x6 * 256)) (IntKind.u64.wrap (rd x76 x78))) x76 x77 (wrap64 (x78 + 1)) x1000 x1001) else (none)) else (none)) else (if 0 ≤ (wrap64 (1 + x5)) then (if (wrap64 (1 + x5)) ≤ (x1000.size : Int) then (if x6 > (IntKind.u64.wrap (mx x1 0)) then ((octet_Reader_fail.f (x1000.extract ((wrap64 (1 + x5)) : Int).toNat x1000.size) x1001).bind fun bt179 => (some (0, bt179.1, bt179.2))) else (some (wrap64 (x6), x1000.extract ((wrap64 (1 + x5)) : Int).toNat x1000.size, x1001))) else (none)) else (none))
end
def octet_Reader_Num.f (k : Nat) (s0_0 : ByteArray) (s0_1 : Bool) (a1 : Int) : Option (Int × ByteArray × Bool) := if s0_1 = true then (some (0, s0_0, s0_1)) else (if s0_0.toList = ([] : List UInt8) then (octet_Reader_Num.j0 k a1 true s0_0 s0_1) else (if 0 < (s0_0.size : Int) then (if (bt s0_0 0) > 8 then (octet_Reader_Num.j0 k a1 true s0_0 s0_1) else (if (s0_0.size : Int) < (wrap64 (1 + (wrap64 (bt s0_0 0)))) then (octet_Reader_Num.j0 k a1 true s0_0 s0_1) else (if (bt s0_0 0) > 0 then (if 1 < (s0_0.size : Int) then (octet_Reader_Num.j0 k a1 ((bt s0_0 1) == 0) s0_0 s0_1) else (none)) else (octet_Reader_Num.j0 k a1 false s0_0 s0_1)))) else (none)))
theorem octet_Reader_Num.mono_l : ∀ k, (∀ y0 y1 y2 y3, LeO (octet_Reader_Num.j0 k y0 y1 y2 y3) (octet_Reader_Num.j0 (k + 1) y0 y1 y2 y3)) ∧ (∀ y0 y1 y2 y3 y4 y5 y6 y7, LeO (octet_Reader_Num.l0 k y0 y1 y2 y3 y4 y5 y6 y7) (octet_Reader_Num.l0 (k + 1) y0 y1 y2 y3 y4 y5 y6 y7))
  | 0 => ⟨fun _ _ _ _ r h => by simp [octet_Reader_Num.j0] at h, fun _ _ _ _ _ _ _ _ r h => by simp [octet_Reader_Num.l0] at h⟩
  | k + 1 => by
    obtain ⟨ih0, ih1⟩ := octet_Reader_Num.mono_l k
    refine ⟨?_, ?_⟩
    · intro y0 y1 y2 y3
      unfold octet_Reader_Num.j0
      repeat' first
      | (with_reducible exact ih0 _ _ _ _)
      | (with_reducible exact ih1 _ _ _ _ _ _ _ _)
      | (with_reducible exact LeO.refl _)
      | (with_reducible exact LeO.none _)
      | (with_reducible refine LeO.ite ?_ ?_)
      | (with_reducible refine LeO.bind ?_ (fun _ => ?_))
      | exact ih0 _ _ _ _
      | exact ih1 _ _ _ _ _ _ _ _
      | exact LeO.none _
      | refine LeO.ite ?_ ?_
      | refine LeO.bind ?_ (fun _ => ?_)
    · intro y0 y1 y2 y3 y4 y5 y6 y7
      unfold octet_Reader_Num.l0
      repeat' first
      | (with_reducible exact ih0 _ _ _ _)
      | (with_reducible exact ih1 _ _ _ _ _ _ _ _)
      | (with_reducible exact LeO.refl _)
      | (with_reducible exact LeO.none _)
      | (with_reducible refine LeO.ite ?_ ?_)
      | (with_reducible refine LeO.bind ?_ (fun _ => ?_))
      | exact ih0 _ _ _ _
      | exact ih1 _ _ _ _ _ _ _ _
      | exact LeO.none _
      | refine LeO.ite ?_ ?_
      | refine LeO.bind ?_ (fun _ => ?_)
theorem octet_Reader_Num.mono : ∀ a0 a1 a2 k, LeO (octet_Reader_Num.f k a0 a1 a2) (octet_Reader_Num.f (k + 1) a0 a1 a2) := by
  intro a0 a1 a2 k
  obtain ⟨ih0, ih1⟩ := octet_Reader_Num.mono_l k
  unfold octet_Reader_Num.f
  repeat' first
      | (with_reducible exact ih0 _ _ _ _)
      | (with_reducible exact ih1 _ _ _ _ _ _ _ _)
      | (with_reducible exact LeO.refl _)
      | (with_reducible exact LeO.none _)
      | (with_reducible refine LeO.ite ?_ ?_)
      | (with_reducible refine LeO.bind ?_ (fun _ => ?_))
      | exact ih0 _ _ _ _
      | exact ih1 _ _ _ _ _ _ _ _
      | exact LeO.none _
      | refine LeO.ite ?_ ?_
      | refine LeO.bind ?_ (fun _ => ?_)
set_option maxHeartbeats 8000000 in
set_option maxRecDepth 100000 in
theorem octet_Reader_Num.calls (k : Nat) (g : Nat) (s0_0 : ByteArray) (s0_1 : Bool) (a1 : Int) (r1 : Int) (r2 : ByteArray) (r3 : Bool) (w0 w : World) (hI : IsS70 w0 w g s0_0 s0_1) (hB : Below w0.heap.size w0 w) (h : octet_Reader_Num.f k s0_0 s0_1 a1 = some (r1, r2, r3)) :
    Calls Try.prog 25 #[.pointer (some ⟨g, 0, none⟩), .int .i64 a1] w fun e w' => e = .returned (.int .i64 r1) ∧ IsS70 w0 w' g r2 r3 ∧ Below w0.heap.size w0 w' ∧ KeepBut w w' g none := by
  have HI0 := Aside0.mk hI
  have HK := Aside0.mk (KeepBut.refl w g none)
  have HL := Aside0.mk hB.size
  clear hI
  have HW0 := Aside0.mk hB.size
  have HB := Aside0.mk hB
  clear hB
  have H : (if s0_1 = true then (some (0, s0_0, s0_1)) else (if s0_0.toList = ([] : List UInt8) then (octet_Reader_Num.j0 k a1 true s0_0 s0_1) else (if 0 < (s0_0.size : Int) then (if (bt s0_0 0) > 8 then (octet_Reader_Num.j0 k a1 true s0_0 s0_1) else (if (s0_0.size : Int) < (wrap64 (1 + (wrap64 (bt s0_0 0)))) then (octet_Reader_Num.j0 k a1 true s0_0 s0_1) else (if (bt s0_0 0) > 0 then (if 1 < (s0_0.size : Int) then (octet_Reader_Num.j0 k a1 ((bt s0_0 1) == 0) s0_0 s0_1) else (none)) else (octet_Reader_Num.j0 k a1 false s0_0 s0_1)))) else (none)))) = some (r1, r2, r3) := h
  clear h
  by_cases c3 : s0_1 = true
  · subst c3
    have H1 : (some (0, s0_0, true)) = some (r1, r2, r3) := by rw [if_pos rfl] at H; exact H
    clear H
    have H := H1
    clear H1
    simp only [Option.some.injEq, Prod.mk.injEq] at H
    obtain ⟨rfl, rfl, rfl⟩ := H
    obtain ⟨HGz4, hgz4⟩ := HI0.out
    have hcz4_0 := cellS70_0 HGz4
    have hcz4_1 := cellS70_1 HGz4
    have hfz4_0 := blk_frozen HGz4 0
    have hfz4_1 := blk_frozen HGz4 1
    clear HGz4 hgz4
    go_enter Try.func25, Try.ntmps25
    go_wp2
    repeat (go_quiet (fail); try go_wp2)
    go_ret
    exact ⟨by first | rfl | (simp [errW_none, errW_some] <;> rfl) | (simp [*, errW_none, errW_some] <;> rfl), by repeat (first | (with_reducible first | exact HI0.out | apply IsS70.alloc | apply IsS70.drewN | apply IsS70.drew | apply IsS70.set_0 | apply IsS70.set_1) | exact HI0.out), by repeat (first | (with_reducible first | exact HB.out | apply below_alloc | apply pw_below_drewN | apply below_drew1 | refine below_set ?_ (IsS70.ge HI0.out)) | exact HB.out), by repeat (first | (with_reducible first | exact HK.out | apply KeepBut.set_ | apply keep_drewN | apply keep_drew | apply keep_alloc) | exact HK.out)⟩
  · replace c3 := Bool.eq_false_iff.mpr c3
    subst c3
    have H1 : (if s0_0.toList = ([] : List UInt8) then (octet_Reader_Num.j0 k a1 true s0_0 false) else (if 0 < (s0_0.size : Int) then (if (bt s0_0 0) > 8 then (octet_Reader_Num.j0 k a1 true s0_0 false) else (if (s0_0.size : Int) < (wrap64 (1 + (wrap64 (bt s0_0 0)))) then (octet_Reader_Num.j0 k a1 true s0_0 false) else (if (bt s0_0 0) > 0 then (if 1 < (s0_0.size : Int) then (octet_Reader_Num.j0 k a1 ((bt s0_0 1) == 0) s0_0 false) else (none)) else (octet_Reader_Num.j0 k a1 false s0_0 false)))) else (none))) = some (r1, r2, r3) := by rw [if_neg (show ¬ (false = true) by decide)] at H; exact H
    clear H
    have H := H1
    clear H1
    have HC5 := Aside0.mk H
    clear H
    obtain ⟨HGz6, hgz6⟩ := HI0.out
    have hcz6_0 := cellS70_0 HGz6
    have hcz6_1 := cellS70_1 HGz6
    have hfz6_0 := blk_frozen HGz6 0
    have hfz6_1 := blk_frozen HGz6 1
    clear HGz6 hgz6
    go_enter Try.func25, Try.ntmps25
    go_upto_region 3 with (fail)
    repeat (go_quiet (fail); go_upto_region 3 with (fail))
    go_cut [60] (fun v60 wc => ∃ (kq : Nat) (x60_4 : Bool), v60 = .bool x60_4 ∧ Aside0 (octet_Reader_Num.j0 kq a1 x60_4 s0_0 false = some (r1, r2, r3)) ∧ Aside0 (kq ≤ k) ∧ Aside0 (IsS70 w0 wc g s0_0 false) ∧ Aside0 (KeepBut w wc g none) ∧ Aside0 (Below w0.heap.size w0 wc))
    case first =>
      have H := HC5.out
      clear HC5
      by_cases c7 : s0_0.toList = ([] : List UInt8)
      · rw [if_pos c7] at H
        have c7b0 : (s0_0.toList == ([] : List UInt8)) = true := beq_iff_eq.mpr c7
        have c7b1 : (s0_0.toList != ([] : List UInt8)) = false := bne_eq_false_iff_eq.mpr c7
        clear c7
        (first | rw [c7b0] | (simp only [i64_w, i32_w]; rw [c7b0]) | skip)
        have H' := Aside0.mk H
        clear H
        obtain ⟨HGz8, hgz8⟩ := HI0.out
        have hcz8_0 := cellS70_0 HGz8
        have hcz8_1 := cellS70_1 HGz8
        have hfz8_0 := blk_frozen HGz8 0
        have hfz8_1 := blk_frozen HGz8 1
        clear HGz8 hgz8
        go_wp2
        repeat (go_quiet (fail); try go_wp2)
        go_meet
        case rel => exact ⟨_, (true), (by first | rfl | (simp; done) | (simp [*]; done)), H', ⟨by first | omega | exact Nat.le_refl _⟩, ⟨by repeat (first | (with_reducible first | exact HI0.out | apply IsS70.alloc | apply IsS70.drewN | apply IsS70.drew | apply IsS70.set_0 | apply IsS70.set_1) | exact HI0.out)⟩, ⟨by repeat (first | (with_reducible first | exact HK.out | apply KeepBut.set_ | apply keep_drewN | apply keep_drew | apply keep_alloc) | exact HK.out)⟩, ⟨by repeat (first | (with_reducible first | exact HB.out | apply below_alloc | apply pw_below_drewN | apply below_drew1 | refine below_set ?_ (IsS70.ge HI0.out)) | exact HB.out)⟩⟩
      · rw [if_neg c7] at H
        have c7b0 : (s0_0.toList == ([] : List UInt8)) = false := beq_eq_false_iff_ne.mpr c7
        have c7b1 : (s0_0.toList != ([] : List UInt8)) = true := bne_iff_ne.mpr c7
        (first | rw [c7b0] | (simp only [i64_w, i32_w]; rw [c7b0]) | skip)
        by_cases c9 : 0 < (s0_0.size : Int)
        · rw [if_pos c9] at H
          have c9b0 : decide (0 < (s0_0.size : Int)) = true := decide_eq_true c9
          have c9b1 : decide (0 < s0_0.size) = true := decide_eq_true (by omega)
          clear c9
          by_cases c11 : (bt s0_0 0) > 8
          · rw [if_pos c11] at H
            have c11b0 : decide (8 < (bt s0_0 0)) = true := decide_eq_true c11
            clear c11
            have H' := Aside0.mk H
            clear H
            obtain ⟨HGz12, hgz12⟩ := HI0.out
            have hcz12_0 := cellS70_0 HGz12
            have hcz12_1 := cellS70_1 HGz12
            have hfz12_0 := blk_frozen HGz12 0
            have hfz12_1 := blk_frozen HGz12 1
            clear HGz12 hgz12
            have p10 : 0 ≤ (0 : Int) := (by omega)
            have q10 : 0 < s0_0.size := (by have : (0 : Int) < (s0_0.size : Int) := of_decide_eq_true (by first | (with_reducible assumption) | assumption); omega)
            have hx10 : ∀ h : 0 < s0_0.size, ((s0_0[0]'h).toNat : Int) = bt s0_0 0 := bt_at s0_0 0
            clear p10
            have qi10 : (0 < (s0_0.size : Int)) = True := eq_true (of_decide_eq_true (by first | (with_reducible assumption) | assumption))
            replace q10 := eq_true q10
            go_wp2
            repeat (go_quiet (fail); try go_wp2)
            go_meet
            case rel => exact ⟨_, (true), (by first | rfl | (simp; done) | (simp [*]; done)), H', ⟨by first | omega | exact Nat.le_refl _⟩, ⟨by repeat (first | (with_reducible first | exact HI0.out | apply IsS70.alloc | apply IsS70.drewN | apply IsS70.drew | apply IsS70.set_0 | apply IsS70.set_1) | exact HI0.out)⟩, ⟨by repeat (first | (with_reducible first | exact HK.out | apply KeepBut.set_ | apply keep_drewN | apply keep_drew | apply keep_alloc) | exact HK.out)⟩, ⟨by repeat (first | (with_reducible first | exact HB.out | apply below_alloc | apply pw_below_drewN | apply below_drew1 | refine below_set ?_ (IsS70.ge HI0.out)) | exact HB.out)⟩⟩
          · rw [if_neg c11] at H
            have c11b0 : decide (8 < (bt s0_0 0)) = false := decide_eq_false c11
            clear c11
            by_cases c14 : (s0_0.size : Int) < (wrap64 (1 + (wrap64 (bt s0_0 0))))
            · rw [if_pos c14] at H
              have c14b0 : decide ((s0_0.size : Int) < (wrap64 (1 + (wrap64 (bt s0_0 0))))) = true := decide_eq_true c14
              clear c14
              have H' := Aside0.mk H
              clear H
              obtain ⟨HGz15, hgz15⟩ := HI0.out
              have hcz15_0 := cellS70_0 HGz15
              have hcz15_1 := cellS70_1 HGz15
              have hfz15_0 := blk_frozen HGz15 0
              have hfz15_1 := blk_frozen HGz15 1
              clear HGz15 hgz15
              have p10 : 0 ≤ (0 : Int) := (by omega)
              have q10 : 0 < s0_0.size := (by have : (0 : Int) < (s0_0.size : Int) := of_decide_eq_true (by first | (with_reducible assumption) | assumption); omega)
              have hx10 : ∀ h : 0 < s0_0.size, ((s0_0[0]'h).toNat : Int) = bt s0_0 0 := bt_at s0_0 0
              clear p10
              have qi10 : (0 < (s0_0.size : Int)) = True := eq_true (of_decide_eq_true (by first | (with_reducible assumption) | assumption))
              replace q10 := eq_true q10
              have p13 : 0 ≤ (0 : Int) := (by omega)
              have q13 : 0 < s0_0.size := (by have : (0 : Int) < (s0_0.size : Int) := of_decide_eq_true (by first | (with_reducible assumption) | assumption); omega)
              have hx13 : ∀ h : 0 < s0_0.size, ((s0_0[0]'h).toNat : Int) = bt s0_0 0 := bt_at s0_0 0
              clear p13
              have qi13 : (0 < (s0_0.size : Int)) = True := eq_true (of_decide_eq_true (by first | (with_reducible assumption) | assumption))
              replace q13 := eq_true q13
              go_wp2
              repeat (go_quiet (fail); try go_wp2)
              go_meet
              case rel => exact ⟨_, (true), (by first | rfl | (simp; done) | (simp [*]; done)), H', ⟨by first | omega | exact Nat.le_refl _⟩, ⟨by repeat (first | (with_reducible first | exact HI0.out | apply IsS70.alloc | apply IsS70.drewN | apply IsS70.drew | apply IsS70.set_0 | apply IsS70.set_1) | exact HI0.out)⟩, ⟨by repeat (first | (with_reducible first | exact HK.out | apply KeepBut.set_ | apply keep_drewN | apply keep_drew | apply keep_alloc) | exact HK.out)⟩, ⟨by repeat (first | (with_reducible first | exact HB.out | apply below_alloc | apply pw_below_drewN | apply below_drew1 | refine below_set ?_ (IsS70.ge HI0.out)) | exact HB.out)⟩⟩
            · rw [if_neg c14] at H
              have c14b0 : decide ((s0_0.size : Int) < (wrap64 (1 + (wrap64 (bt s0_0 0))))) = false := decide_eq_false c14
              clear c14
              by_cases c17 : (bt s0_0 0) > 0
              · rw [if_pos c17] at H
                have c17b0 : decide (0 < (bt s0_0 0)) = true := decide_eq_true c17
                clear c17
                by_cases c18 : 1 < (s0_0.size : Int)
                · rw [if_pos c18] at H
                  have c18b0 : decide (1 < (s0_0.size : Int)) = true := decide_eq_true c18
                  have c18b1 : decide (1 < s0_0.size) = true := decide_eq_true (by omega)
                  clear c18
                  have H' := Aside0.mk H
                  clear H
                  obtain ⟨HGz20, hgz20⟩ := HI0.out
                  have hcz20_0 := cellS70_0 HGz20
                  have hcz20_1 := cellS70_1 HGz20
                  have hfz20_0 := blk_frozen HGz20 0
                  have hfz20_1 := blk_frozen HGz20 1
                  clear HGz20 hgz20
                  have p10 : 0 ≤ (0 : Int) := (by omega)
                  have q10 : 0 < s0_0.size := (by have : (0 : Int) < (s0_0.size : Int) := of_decide_eq_true (by first | (with_reducible assumption) | assumption); omega)
                  have hx10 : ∀ h : 0 < s0_0.size, ((s0_0[0]'h).toNat : Int) = bt s0_0 0 := bt_at s0_0 0
                  clear p10
                  have qi10 : (0 < (s0_0.size : Int)) = True := eq_true (of_decide_eq_true (by first | (with_reducible assumption) | assumption))
                  replace q10 := eq_true q10
                  have p13 : 0 ≤ (0 : Int) := (by omega)
                  have q13 : 0 < s0_0.size := (by have : (0 : Int) < (s0_0.size : Int) := of_decide_eq_true (by first | (with_reducible assumption) | assumption); omega)
                  have hx13 : ∀ h : 0 < s0_0.size, ((s0_0[0]'h).toNat : Int) = bt s0_0 0 := bt_at s0_0 0
                  clear p13
                  have qi13 : (0 < (s0_0.size : Int)) = True := eq_true (of_decide_eq_true (by first | (with_reducible assumption) | assumption))
                  replace q13 := eq_true q13
                  have p16 : 0 ≤ (0 : Int) := (by omega)
                  have q16 : 0 < s0_0.size := (by have : (0 : Int) < (s0_0.size : Int) := of_decide_eq_true (by first | (with_reducible assumption) | assumption); omega)
                  have hx16 : ∀ h : 0 < s0_0.size, ((s0_0[0]'h).toNat : Int) = bt s0_0 0 := bt_at s0_0 0
                  clear p16
                  have qi16 : (0 < (s0_0.size : Int)) = True := eq_true (of_decide_eq_true (by first | (with_reducible assumption) | assumption))
                  replace q16 := eq_true q16
                  have p19 : 0 ≤ (1 : Int) := (by omega)
                  have q19 : 1 < s0_0.size := (by have : (1 : Int) < (s0_0.size : Int) := of_decide_eq_true (by first | (with_reducible assumption) | assumption); omega)
                  have hx19 : ∀ h : 1 < s0_0.size, ((s0_0[1]'h).toNat : Int) = bt s0_0 1 := bt_at s0_0 1
                  clear p19
                  have qi19 : (1 < (s0_0.size : Int)) = True := eq_true (of_decide_eq_true (by first | (with_reducible assumption) | assumption))
                  replace q19 := eq_true q19
                  go_wp2
                  repeat (go_quiet (fail); try go_wp2)
                  go_meet
                  case rel => exact ⟨_, (((bt s0_0 1) == 0)), (by first | rfl | (simp; done) | (simp [*]; done)), H', ⟨by first | omega | exact Nat.le_refl _⟩, ⟨by repeat (first | (with_reducible first | exact HI0.out | apply IsS70.alloc | apply IsS70.drewN | apply IsS70.drew | apply IsS70.set_0 | apply IsS70.set_1) | exact HI0.out)⟩, ⟨by repeat (first | (with_reducible first | exact HK.out | apply KeepBut.set_ | apply keep_drewN | apply keep_drew | apply keep_alloc) | exact HK.out)⟩, ⟨by repeat (first | (with_reducible first | exact HB.out | apply below_alloc | apply pw_below_drewN | apply below_drew1 | refine below_set ?_ (IsS70.ge HI0.out)) | exact HB.out)⟩⟩
                · rw [if_neg c18] at H
                  exact absurd H (by simp)
              · rw [if_neg c17] at H
                have c17b0 : decide (0 < (bt s0_0 0)) = false := decide_eq_false c17
                clear c17
                have H' := Aside0.mk H
                clear H
                obtain ⟨HGz21, hgz21⟩ := HI0.out
                have hcz21_0 := cellS70_0 HGz21
                have hcz21_1 := cellS70_1 HGz21
                have hfz21_0 := blk_frozen HGz21 0
                have hfz21_1 := blk_frozen HGz21 1
                clear HGz21 hgz21
                have p10 : 0 ≤ (0 : Int) := (by omega)
                have q10 : 0 < s0_0.size := (by have : (0 : Int) < (s0_0.size : Int) := of_decide_eq_true (by first | (with_reducible assumption) | assumption); omega)
                have hx10 : ∀ h : 0 < s0_0.size, ((s0_0[0]'h).toNat : Int) = bt s0_0 0 := bt_at s0_0 0
                clear p10
                have qi10 : (0 < (s0_0.size : Int)) = True := eq_true (of_decide_eq_true (by first | (with_reducible assumption) | assumption))
                replace q10 := eq_true q10
                have p13 : 0 ≤ (0 : Int) := (by omega)
                have q13 : 0 < s0_0.size := (by have : (0 : Int) < (s0_0.size : Int) := of_decide_eq_true (by first | (with_reducible assumption) | assumption); omega)
                have hx13 : ∀ h : 0 < s0_0.size, ((s0_0[0]'h).toNat : Int) = bt s0_0 0 := bt_at s0_0 0
                clear p13
                have qi13 : (0 < (s0_0.size : Int)) = True := eq_true (of_decide_eq_true (by first | (with_reducible assumption) | assumption))
                replace q13 := eq_true q13
                have p16 : 0 ≤ (0 : Int) := (by omega)
                have q16 : 0 < s0_0.size := (by have : (0 : Int) < (s0_0.size : Int) := of_decide_eq_true (by first | (with_reducible assumption) | assumption); omega)
                have hx16 : ∀ h : 0 < s0_0.size, ((s0_0[0]'h).toNat : Int) = bt s0_0 0 := bt_at s0_0 0
                clear p16
                have qi16 : (0 < (s0_0.size : Int)) = True := eq_true (of_decide_eq_true (by first | (with_reducible assumption) | assumption))
                replace q16 := eq_true q16
                go_wp2
                repeat (go_quiet (fail); try go_wp2)
                go_meet
                case rel => exact ⟨_, (false), (by first | rfl | (simp; done) | (simp [*]; done)), H', ⟨by first | omega | exact Nat.le_refl _⟩, ⟨by repeat (first | (with_reducible first | exact HI0.out | apply IsS70.alloc | apply IsS70.drewN | apply IsS70.drew | apply IsS70.set_0 | apply IsS70.set_1) | exact HI0.out)⟩, ⟨by repeat (first | (with_reducible first | exact HK.out | apply KeepBut.set_ | apply keep_drewN | apply keep_drew | apply keep_alloc) | exact HK.out)⟩, ⟨by repeat (first | (with_reducible first | exact HB.out | apply below_alloc | apply pw_below_drewN | apply below_drew1 | refine below_set ?_ (IsS70.ge HI0.out)) | exact HB.out)⟩⟩
        · rw [if_neg c9] at H
          exact absurd H (by simp)
    case rest =>
      clear HC5
      try clear c1
      try clear p1
      try clear q1
      try clear hx1
      try clear qi1
      try clear c2
      try clear p2
      try clear c3
      try clear p6
      try clear c7
      try clear c7b0
      try clear c7b1
      try clear c9
      try clear c9b0
      try clear c9b1
      try clear p10
      try clear q10
      try clear hx10
      try clear qi10
      try clear c11
      try clear c11b0
      try clear p13
      try clear q13
      try clear hx13
      try clear qi13
      try clear c14
      try clear c14b0
      try clear p16
      try clear q16
      try clear hx16
      try clear qi16
      try clear c17
      try clear c17b0
      try clear c18
      try clear c18b0
      try clear c18b1
      try clear p19
      try clear q19
      try clear hx19
      try clear qi19
      try clear hcz12_0
      try clear hcz12_1
      try clear hcz15_0
      try clear hcz15_1
      try clear hcz20_0
      try clear hcz20_1
      try clear hcz21_0
      try clear hcz21_1
      try clear hcz4_0
      try clear hcz4_1
      try clear hcz6_0
      try clear hcz6_1
      try clear hcz8_0
      try clear hcz8_1
      try clear hfz12_0
      try clear hfz12_1
      try clear hfz15_0
      try clear hfz15_1
      try clear hfz20_0
      try clear hfz20_1
      try clear hfz21_0
      try clear hfz21_1
      try clear hfz4_0
      try clear hfz4_1
      try clear hfz6_0
      try clear hfz6_1
      try clear hfz8_0
      try clear hfz8_1
      try clear p10
      try clear p13
      try clear p16
      try clear p19
      try clear q10
      try clear q13
      try clear q16
      try clear q19
      obtain ⟨kq, x60_4, rfl, HA, HJ4, HI0, HK, HB⟩ := hcut
      cases kq with
      | zero => exact absurd HA.out (by simp [octet_Reader_Num.j0])
      | succ kj4 =>
        have H := HA.out
        clear HA
        simp only [octet_Reader_Num.j0] at H
        by_cases c22 : x60_4 = true
        · subst c22
          have H1 : ((octet_Reader_fail.f s0_0 false).bind fun bt173 => (some (0, bt173.1, bt173.2))) = some (r1, r2, r3) := by rw [if_pos rfl] at H; exact H
          clear H
          have H := H1
          clear H1
          replace H := Option.bind_eq_some_iff.mp H
          obtain ⟨⟨t173, t174⟩, A230, H⟩ := H
          replace H : (some (0, t173, t174)) = some (r1, r2, r3) := H
          have A23 := Aside0.mk A230
          clear A230
          simp only [Option.some.injEq, Prod.mk.injEq] at H
          obtain ⟨rfl, rfl, rfl⟩ := H
          go_wp2_with (first | (go_at_call 39; (with_reducible refine (octet_Reader_fail.calls g s0_0 false t173 t174 w0 _ ?side1 ?side2 A23.out).mono ?_); (case side1 => repeat (first | (with_reducible first | exact HI0.out | apply IsS70.alloc | apply IsS70.drewN | apply IsS70.drew | apply IsS70.set_0 | apply IsS70.set_1) | exact HI0.out)); (case side2 => repeat (first | (with_reducible first | exact HB.out | apply below_alloc | apply pw_below_drewN | apply below_drew1 | refine below_set ?_ (IsS70.ge HI0.out)) | exact HB.out)); rintro e w24 ⟨rfl, hi, hb, hk⟩; have n0_ := Aside0.mk (KeepBut.trans (by repeat (first | (with_reducible first | exact HK.out | apply KeepBut.set_ | apply keep_drewN | apply keep_drew | apply keep_alloc) | exact HK.out)) hk (.inl rfl)); have n1_ := Aside0.mk (hb); have n2_ := Aside0.mk (hi); clear HK; clear HB; clear HI0; have HK := n0_; have HB := n1_; have HI0 := n2_; clear n0_ n1_ n2_; (try clear hb); (try clear hb2); (try clear hk); (try clear hi)))
          repeat (go_quiet (first | (go_at_call 39; (with_reducible refine (octet_Reader_fail.calls g s0_0 false t173 t174 w0 _ ?side1 ?side2 A23.out).mono ?_); (case side1 => repeat (first | (with_reducible first | exact HI0.out | apply IsS70.alloc | apply IsS70.drewN | apply IsS70.drew | apply IsS70.set_0 | apply IsS70.set_1) | exact HI0.out)); (case side2 => repeat (first | (with_reducible first | exact HB.out | apply below_alloc | apply pw_below_drewN | apply below_drew1 | refine below_set ?_ (IsS70.ge HI0.out)) | exact HB.out)); rintro e w24 ⟨rfl, hi, hb, hk⟩; have n0_ := Aside0.mk (KeepBut.trans (by repeat (first | (with_reducible first | exact HK.out | apply KeepBut.set_ | apply keep_drewN | apply keep_drew | apply keep_alloc) | exact HK.out)) hk (.inl rfl)); have n1_ := Aside0.mk (hb); have n2_ := Aside0.mk (hi); clear HK; clear HB; clear HI0; have HK := n0_; have HB := n1_; have HI0 := n2_; clear n0_ n1_ n2_; (try clear hb); (try clear hb2); (try clear hk); (try clear hi))); try go_wp2_with (first | (go_at_call 39; (with_reducible refine (octet_Reader_fail.calls g s0_0 false t173 t174 w0 _ ?side1 ?side2 A23.out).mono ?_); (case side1 => repeat (first | (with_reducible first | exact HI0.out | apply IsS70.alloc | apply IsS70.drewN | apply IsS70.drew | apply IsS70.set_0 | apply IsS70.set_1) | exact HI0.out)); (case side2 => repeat (first | (with_reducible first | exact HB.out | apply below_alloc | apply pw_below_drewN | apply below_drew1 | refine below_set ?_ (IsS70.ge HI0.out)) | exact HB.out)); rintro e w24 ⟨rfl, hi, hb, hk⟩; have n0_ := Aside0.mk (KeepBut.trans (by repeat (first | (with_reducible first | exact HK.out | apply KeepBut.set_ | apply keep_drewN | apply keep_drew | apply keep_alloc) | exact HK.out)) hk (.inl rfl)); have n1_ := Aside0.mk (hb); have n2_ := Aside0.mk (hi); clear HK; clear HB; clear HI0; have HK := n0_; have HB := n1_; have HI0 := n2_; clear n0_ n1_ n2_; (try clear hb); (try clear hb2); (try clear hk); (try clear hi))))
          go_ret
          exact ⟨by first | rfl | (simp [errW_none, errW_some] <;> rfl) | (simp [*, errW_none, errW_some] <;> rfl), by repeat (first | (with_reducible first | exact HI0.out | apply IsS70.alloc | apply IsS70.drewN | apply IsS70.drew | apply IsS70.set_0 | apply IsS70.set_1) | exact HI0.out), by repeat (first | (with_reducible first | exact HB.out | apply below_alloc | apply pw_below_drewN | apply below_drew1 | refine below_set ?_ (IsS70.ge HI0.out)) | exact HB.out), by repeat (first | (with_reducible first | exact HK.out | apply KeepBut.set_ | apply keep_drewN | apply keep_drew | apply keep_alloc) | exact HK.out)⟩
        · replace c22 := Bool.eq_false_iff.mpr c22
          subst c22
          have H1 : (if 0 < (s0_0.size : Int) then (if 1 ≤ (wrap64 (1 + (wrap64 (bt s0_0 0)))) then (if (wrap64 (1 + (wrap64 (bt s0_0 0)))) ≤ (s0_0.size : Int) then ((some (bytesOf (s0_0.extract 1 ((wrap64 (1 + (wrap64 (bt s0_0 0)))) : Int).toNat) : List Int)).bind fun y175 => (octet_Reader_Num.l0 kj4 a1 (wrap64 (bt s0_0 0)) 0 y175 (y175.length : Int) 0 s0_0 false)) else (none)) else (none)) else (none)) = some (r1, r2, r3) := by rw [if_neg (show ¬ (false = true) by decide)] at H; exact H
          clear H
          have H := H1
          clear H1
          by_cases c25 : 0 < (s0_0.size : Int)
          · rw [if_pos c25] at H
            have c25b0 : decide (0 < (s0_0.size : Int)) = true := decide_eq_true c25
            have c25b1 : decide (0 < s0_0.size) = true := decide_eq_true (by omega)
            clear c25
            by_cases c27 : 1 ≤ (wrap64 (1 + (wrap64 (bt s0_0 0))))
            · rw [if_pos c27] at H
              have c27b0 := eq_true c27
              have c27b1 : decide (1 ≤ (wrap64 (1 + (wrap64 (bt s0_0 0))))) = true := decide_eq_true c27
              by_cases c28 : (wrap64 (1 + (wrap64 (bt s0_0 0)))) ≤ (s0_0.size : Int)
              · rw [if_pos c28] at H
                have c28b0 := eq_true c28
                have c28b1 : decide ((wrap64 (1 + (wrap64 (bt s0_0 0)))) ≤ (s0_0.size : Int)) = true := decide_eq_true c28
                obtain ⟨y175, hy175⟩ : ∃ y_ : List Int, y_ = (bytesOf (s0_0.extract 1 ((wrap64 (1 + (wrap64 (bt s0_0 0)))) : Int).toNat)) := ⟨_, rfl⟩
                replace H : (octet_Reader_Num.l0 kj4 a1 (wrap64 (bt s0_0 0)) 0 y175 (y175.length : Int) 0 s0_0 false) = some (r1, r2, r3) := by first | (rw [hy175]; with_reducible exact H) | (have H2_ := (Option.bind_some _ _).symm.trans H; rw [hy175]; with_reducible exact H2_) | (have H2_ := (Option.bind_some _ _).symm.trans H; with_reducible exact H2_) | with_reducible exact H | (rw [hy175]; exact H) | exact H
                have Ny175 := Aside0.mk hy175
                clear hy175
                have H' := Aside0.mk H
                clear H
                obtain ⟨HGz29, hgz29⟩ := HI0.out
                have hcz29_0 := cellS70_0 HGz29
                have hcz29_1 := cellS70_1 HGz29
                have hfz29_0 := blk_frozen HGz29 0
                have hfz29_1 := blk_frozen HGz29 1
                clear HGz29 hgz29
                have p26 : 0 ≤ (0 : Int) := (by omega)
                have q26 : 0 < s0_0.size := (by have : (0 : Int) < (s0_0.size : Int) := of_decide_eq_true (by first | (with_reducible assumption) | assumption); omega)
                have hx26 : ∀ h : 0 < s0_0.size, ((s0_0[0]'h).toNat : Int) = bt s0_0 0 := bt_at s0_0 0
                clear p26
                have qi26 : (0 < (s0_0.size : Int)) = True := eq_true (of_decide_eq_true (by first | (with_reducible assumption) | assumption))
                replace q26 := eq_true q26
                have hm30 : (s0_0.extract 1 ((wrap64 (1 + (wrap64 (bt s0_0 0)))) : Int).toNat).size ≤ 9223372036854775807 := by rw [ByteArray.size_extract]; have := HB.out.size; unfold wrap64; omega
                obtain ⟨Ao32, co32, w30, hcv30, ho31, hb⟩ := Aid.conv_fact (P := Try.prog) wc Try.underlying9 Try.underlying23 Try.underlying5 (s0_0.extract 1 ((wrap64 (1 + (wrap64 (bt s0_0 0)))) : Int).toNat) hm30 y175 Ny175.out
                clear hm30
                have HO177 := Aside0.mk ho31
                have n1_ := Aside0.mk (IsS70.below HI0.out hb)
                have n2_ := Aside0.mk (KeepBut.trans HK.out (KeepBut.of_below hb g none) (.inl rfl))
                have n3_ := Aside0.mk (below_step HB.out hb)
                clear HI0 HK HB
                have HI0 := n1_
                have HK := n2_
                have HB := n3_
                clear n1_ n2_ n3_ hb ho31
                go_wp2
                clear hcv30
                go_loopg [6, 78] kj4 (fun kq v6 v78 w' => ∃ (x6_2 : Int) (x78_2 : Int), v6 = .int .u64 x6_2 ∧ v78 = .int .i64 x78_2 ∧ Aside0 (octet_Reader_Num.l0 kq a1 (wrap64 (bt s0_0 0)) x6_2 y175 (y175.length : Int) x78_2 s0_0 false = some (r1, r2, r3)) ∧ Aside0 (kq ≤ kj4) ∧ Aside0 (Kd.C (Kd.int .u8) w' Ao32 y175.length y175) ∧ Aside0 (IsS70 w0 w' g s0_0 false) ∧ Aside0 (KeepBut w w' g none) ∧ Aside0 (Below w0.heap.size w0 w'))
                case atStart => exact ⟨(0), (0), (by first | rfl | (simp; done) | (simp [*]; done)), (by first | rfl | (simp; done) | (simp [*]; done)), H', ⟨Nat.le_refl _⟩, ⟨by repeat (first | (with_reducible exact HO177.out) | (with_reducible refine Kd.C_alloc ?_ _) | (with_reducible refine Kd.C_drewN ?_ _) | (with_reducible refine Kd.C_drew ?_) | exact HO177.out)⟩, ⟨by repeat (first | (with_reducible first | exact HI0.out | apply IsS70.alloc | apply IsS70.drewN | apply IsS70.drew | apply IsS70.set_0 | apply IsS70.set_1) | exact HI0.out)⟩, ⟨by repeat (first | (with_reducible first | exact HK.out | apply KeepBut.set_ | apply keep_drewN | apply keep_drew | apply keep_alloc) | exact HK.out)⟩, ⟨by repeat (first | (with_reducible first | exact HB.out | apply below_alloc | apply pw_below_drewN | apply below_drew1 | refine below_set ?_ (IsS70.ge HI0.out)) | exact HB.out)⟩⟩
                case round =>
                  clear H'
                  try clear c1
                  try clear p1
                  try clear q1
                  try clear hx1
                  try clear qi1
                  try clear c2
                  try clear p2
                  try clear q2
                  try clear hx2
                  try clear qi2
                  try clear c3
                  try clear p6
                  try clear c7
                  try clear c7b0
                  try clear c7b1
                  try clear c9
                  try clear c9b0
                  try clear c9b1
                  try clear p10
                  try clear q10
                  try clear hx10
                  try clear qi10
                  try clear c11
                  try clear c11b0
                  try clear p13
                  try clear q13
                  try clear hx13
                  try clear qi13
                  try clear c14
                  try clear c14b0
                  try clear p16
                  try clear q16
                  try clear hx16
                  try clear qi16
                  try clear c17
                  try clear c17b0
                  try clear c18
                  try clear c18b0
                  try clear c18b1
                  try clear p19
                  try clear q19
                  try clear hx19
                  try clear qi19
                  try clear c22
                  try clear c25
                  try clear c25b0
                  try clear c25b1
                  try clear p26
                  try clear q26
                  try clear hx26
                  try clear qi26
                  try clear c27
                  try clear c27b0
                  try clear c27b1
                  try clear c28
                  try clear c28b0
                  try clear c28b1
                  try clear hcz12_0
                  try clear hcz12_1
                  try clear hcz15_0
                  try clear hcz15_1
                  try clear hcz20_0
                  try clear hcz20_1
                  try clear hcz21_0
                  try clear hcz21_1
                  try clear hcz29_0
                  try clear hcz29_1
                  try clear hcz4_0
                  try clear hcz4_1
                  try clear hcz6_0
                  try clear hcz6_1
                  try clear hcz8_0
                  try clear hcz8_1
                  try clear hfz12_0
                  try clear hfz12_1
                  try clear hfz15_0
                  try clear hfz15_1
                  try clear hfz20_0
                  try clear hfz20_1
                  try clear hfz21_0
                  try clear hfz21_1
                  try clear hfz29_0
                  try clear hfz29_1
                  try clear hfz4_0
                  try clear hfz4_1
                  try clear hfz6_0
                  try clear hfz6_1
                  try clear hfz8_0
                  try clear hfz8_1
                  try clear p1
                  try clear p10
                  try clear p13
                  try clear p16
                  try clear p19
                  try clear p2
                  try clear p26
                  try clear p6
                  try clear q1
                  try clear q10
                  try clear q13
                  try clear q16
                  try clear q19
                  try clear q26
                  obtain ⟨x6_2, x78_2, rfl, rfl, HA, HK2, HO_76, HI0, HK, HB⟩ := hrel
                  cases gk with
                  | zero => exact absurd HA.out (by simp [octet_Reader_Num.l0])
                  | succ k2 =>
                    have H := HA.out
                    clear HA
                    simp only [octet_Reader_Num.l0] at H
                    by_cases c33 : x78_2 < (y175.length : Int)
                    · rw [if_pos c33] at H
                      have c33b0 : decide (x78_2 < (y175.length : Int)) = true := decide_eq_true c33
                      clear c33
                      by_cases c34 : 0 ≤ x78_2
                      · rw [if_pos c34] at H
                        have c34b0 : decide (0 ≤ x78_2) = true := decide_eq_true c34
                        clear c34
                        by_cases c35 : x78_2 < (y175.length : Int)
                        · rw [if_pos c35] at H
                          have c35b0 : decide (x78_2 < (y175.length : Int)) = true := decide_eq_true c35
                          clear c35
                          have H' := Aside0.mk H
                          clear H
                          have p178 : 0 ≤ (x78_2 : Int) := of_decide_eq_true (by first | (with_reducible assumption) | assumption)
                          have q178 : x78_2 < (y175.length : Int) := of_decide_eq_true (by first | (with_reducible assumption) | assumption)
                          obtain ⟨ad178, e178, hx178_0⟩ := Kd.at_int HO_76.out x78_2 p178 q178
                          cases e178
                          replace p178 := eq_true p178
                          replace q178 := eq_true q178
                          go_wp2
                          repeat (go_quiet (fail); try go_wp2)
                          go_roundg k2
                          case measure => have := HJ4.out; have := HK2.out; omega
                          case rel => exact ⟨(Go.bits .or .u64 (IntKind.u64.wrap (x6_2 * 256)) (IntKind.u64.wrap (rd y175 x78_2))), (wrap64 (x78_2 + 1)), (by first | rfl | (simp; done) | (simp [*]; done)), (by first | rfl | (simp; done) | (simp [*]; done)), H', ⟨by have := HJ4.out; have := HK2.out; omega⟩, ⟨by repeat (first | (with_reducible exact HO_76.out) | (with_reducible refine Kd.C_alloc ?_ _) | (with_reducible refine Kd.C_drewN ?_ _) | (with_reducible refine Kd.C_drew ?_) | exact HO_76.out)⟩, ⟨by repeat (first | (with_reducible first | exact HI0.out | apply IsS70.alloc | apply IsS70.drewN | apply IsS70.drew | apply IsS70.set_0 | apply IsS70.set_1) | exact HI0.out)⟩, ⟨by repeat (first | (with_reducible first | exact HK.out | apply KeepBut.set_ | apply keep_drewN | apply keep_drew | apply keep_alloc) | exact HK.out)⟩, ⟨by repeat (first | (with_reducible first | exact HB.out | apply below_alloc | apply pw_below_drewN | apply below_drew1 | refine below_set ?_ (IsS70.ge HI0.out)) | exact HB.out)⟩⟩
                        · rw [if_neg c35] at H
                          exact absurd H (by simp)
                      · rw [if_neg c34] at H
                        exact absurd H (by simp)
                    · rw [if_neg c33] at H
                      have c33b0 : decide (x78_2 < (y175.length : Int)) = false := decide_eq_false c33
                      clear c33
                      obtain ⟨ji36, hji36⟩ : ∃ j_ : Int, (wrap64 (1 + (wrap64 (bt s0_0 0)))) = j_ := ⟨_, rfl⟩
                      replace H : (if 0 ≤ (ji36) then (if (ji36) ≤ (s0_0.size : Int) then (if x6_2 > (IntKind.u64.wrap (mx a1 0)) then ((octet_Reader_fail.f (s0_0.extract ((ji36) : Int).toNat s0_0.size) false).bind fun bt179 => (some (0, bt179.1, bt179.2))) else (some (wrap64 (x6_2), s0_0.extract ((ji36) : Int).toNat s0_0.size, false))) else (none)) else (none)) = some (r1, r2, r3) := by first | (rw [hji36] at H; exact H) | (simp only [hji36] at H ⊢; exact H)
                      (try rw [hji36] at c27b0)
                      (try rw [hji36] at c27b1)
                      (try rw [hji36] at c27)
                      (try rw [hji36] at c28b0)
                      (try rw [hji36] at c28b1)
                      (try rw [hji36] at c28)
                      have hji36w : (IntKind.i64.wrap (1 + (wrap64 (bt s0_0 0)))) = ji36 := (i64_w _).trans hji36
                      by_cases c37 : 0 ≤ (ji36)
                      · rw [if_pos c37] at H
                        have c37b0 := eq_true c37
                        have c37b1 : decide (0 ≤ (ji36)) = true := decide_eq_true c37
                        clear c37
                        by_cases c38 : (ji36) ≤ (s0_0.size : Int)
                        · rw [if_pos c38] at H
                          have c38b0 := eq_true c38
                          have c38b1 : decide ((ji36) ≤ (s0_0.size : Int)) = true := decide_eq_true c38
                          clear c38
                          obtain ⟨ji39, hji39⟩ : ∃ j_ : Int, (mx a1 0) = j_ := ⟨_, rfl⟩
                          replace H : (if x6_2 > (IntKind.u64.wrap (ji39)) then ((octet_Reader_fail.f (s0_0.extract ((ji36) : Int).toNat s0_0.size) false).bind fun bt179 => (some (0, bt179.1, bt179.2))) else (some (wrap64 (x6_2), s0_0.extract ((ji36) : Int).toNat s0_0.size, false))) = some (r1, r2, r3) := by first | (rw [hji39] at H; exact H) | (simp only [hji39] at H ⊢; exact H)
                          (try (have hji39l : 0 ≤ ji39 := by (rw [← hji39]; unfold mx; (repeat' split) <;> omega)))
                          (try (have hji39m : 0 ≤ ji39 := by omega))
                          have hji39_ : (if a1 < 0 then 0 else a1) = ji39 := hji39
                          by_cases c40 : x6_2 > (IntKind.u64.wrap (ji39))
                          · rw [if_pos c40] at H
                            have c40b0 : decide ((IntKind.u64.wrap (ji39)) < x6_2) = true := decide_eq_true c40
                            clear c40
                            replace H := Option.bind_eq_some_iff.mp H
                            obtain ⟨⟨t179, t180⟩, A410, H⟩ := H
                            replace H : (some (0, t179, t180)) = some (r1, r2, r3) := H
                            have A41 := Aside0.mk A410
                            clear A410
                            simp only [Option.some.injEq, Prod.mk.injEq] at H
                            obtain ⟨rfl, rfl, rfl⟩ := H
                            obtain ⟨HGz42, hgz42⟩ := HI0.out
                            have hcz42_0 := cellS70_0 HGz42
                            have hcz42_1 := cellS70_1 HGz42
                            have hfz42_0 := blk_frozen HGz42 0
                            have hfz42_1 := blk_frozen HGz42 1
                            clear HGz42 hgz42
                            go_wp2_with (first | (go_at_call 39; (with_reducible refine (octet_Reader_fail.calls g (s0_0.extract ((ji36) : Int).toNat s0_0.size) false t179 t180 w0 _ ?side1 ?side2 A41.out).mono ?_); (case side1 => repeat (first | (with_reducible first | exact HI0.out | apply IsS70.alloc | apply IsS70.drewN | apply IsS70.drew | apply IsS70.set_0 | apply IsS70.set_1) | exact HI0.out)); (case side2 => repeat (first | (with_reducible first | exact HB.out | apply below_alloc | apply pw_below_drewN | apply below_drew1 | refine below_set ?_ (IsS70.ge HI0.out)) | exact HB.out)); rintro e w43 ⟨rfl, hi, hb, hk⟩; have n1_ := Aside0.mk (KeepBut.trans (by repeat (first | (with_reducible first | exact HK.out | apply KeepBut.set_ | apply keep_drewN | apply keep_drew | apply keep_alloc) | exact HK.out)) hk (.inl rfl)); have n2_ := Aside0.mk (hb); have n3_ := Aside0.mk (hi); clear HK; clear HB; clear HI0; have HK := n1_; have HB := n2_; have HI0 := n3_; clear n1_ n2_ n3_; (try clear hb); (try clear hb2); (try clear hk); (try clear hi)))
                            repeat (go_quiet (first | (go_at_call 39; (with_reducible refine (octet_Reader_fail.calls g (s0_0.extract ((ji36) : Int).toNat s0_0.size) false t179 t180 w0 _ ?side1 ?side2 A41.out).mono ?_); (case side1 => repeat (first | (with_reducible first | exact HI0.out | apply IsS70.alloc | apply IsS70.drewN | apply IsS70.drew | apply IsS70.set_0 | apply IsS70.set_1) | exact HI0.out)); (case side2 => repeat (first | (with_reducible first | exact HB.out | apply below_alloc | apply pw_below_drewN | apply below_drew1 | refine below_set ?_ (IsS70.ge HI0.out)) | exact HB.out)); rintro e w43 ⟨rfl, hi, hb, hk⟩; have n1_ := Aside0.mk (KeepBut.trans (by repeat (first | (with_reducible first | exact HK.out | apply KeepBut.set_ | apply keep_drewN | apply keep_drew | apply keep_alloc) | exact HK.out)) hk (.inl rfl)); have n2_ := Aside0.mk (hb); have n3_ := Aside0.mk (hi); clear HK; clear HB; clear HI0; have HK := n1_; have HB := n2_; have HI0 := n3_; clear n1_ n2_ n3_; (try clear hb); (try clear hb2); (try clear hk); (try clear hi))); try go_wp2_with (first | (go_at_call 39; (with_reducible refine (octet_Reader_fail.calls g (s0_0.extract ((ji36) : Int).toNat s0_0.size) false t179 t180 w0 _ ?side1 ?side2 A41.out).mono ?_); (case side1 => repeat (first | (with_reducible first | exact HI0.out | apply IsS70.alloc | apply IsS70.drewN | apply IsS70.drew | apply IsS70.set_0 | apply IsS70.set_1) | exact HI0.out)); (case side2 => repeat (first | (with_reducible first | exact HB.out | apply below_alloc | apply pw_below_drewN | apply below_drew1 | refine below_set ?_ (IsS70.ge HI0.out)) | exact HB.out)); rintro e w43 ⟨rfl, hi, hb, hk⟩; have n0_ := Aside0.mk (Kd.R_mono (Kd.R_keep (IsS70.apart (show IsS70 w0 _ g (s0_0.extract ((ji36) : Int).toNat s0_0.size) false from by repeat (first | (with_reducible first | exact HI0.out | apply IsS70.alloc | apply IsS70.drewN | apply IsS70.drew | apply IsS70.set_0 | apply IsS70.set_1) | exact HI0.out)) (by (with_reducible repeat (first | apply Kd.R_alloc | apply Kd.R_drewN | apply Kd.R_drew)); exact (Kd.R_mono (Kd.R_far (p := ⟨g, 0, none⟩) (IsS70.apart HI0.out HO_76.out (by decide)) (fun _ hk => hk.2) (.string (s0_0.extract ((ji36) : Int).toNat s0_0.size))) (fun _ h_ => h_.1))) (by decide)) hk (fun _ h => h.2)) (fun _ h => h.1)); have n1_ := Aside0.mk (KeepBut.trans (by repeat (first | (with_reducible first | exact HK.out | apply KeepBut.set_ | apply keep_drewN | apply keep_drew | apply keep_alloc) | exact HK.out)) hk (.inl rfl)); have n2_ := Aside0.mk (hb); have n3_ := Aside0.mk (hi); clear HK; clear HB; clear HI0; have HK := n1_; have HB := n2_; have HI0 := n3_; clear n1_ n2_ n3_; (try clear hb); (try clear hb2); (try clear hk); (try clear hi))))
                            go_ret
                            exact ⟨by first | rfl | (simp [errW_none, errW_some] <;> rfl) | (simp only [← hji36, ← hji39]; first | rfl | (simp [errW_none, errW_some] <;> rfl)) | (simp [*, errW_none, errW_some] <;> rfl), by repeat (first | (with_reducible first | exact HI0.out | apply IsS70.alloc | apply IsS70.drewN | apply IsS70.drew | apply IsS70.set_0 | apply IsS70.set_1) | exact HI0.out), by repeat (first | (with_reducible first | exact HB.out | apply below_alloc | apply pw_below_drewN | apply below_drew1 | refine below_set ?_ (IsS70.ge HI0.out)) | exact HB.out), by repeat (first | (with_reducible first | exact HK.out | apply KeepBut.set_ | apply keep_drewN | apply keep_drew | apply keep_alloc) | exact HK.out)⟩
                          · rw [if_neg c40] at H
                            have c40b0 : decide ((IntKind.u64.wrap (ji39)) < x6_2) = false := decide_eq_false c40
                            clear c40
                            simp only [Option.some.injEq, Prod.mk.injEq] at H
                            obtain ⟨rfl, rfl, rfl⟩ := H
                            obtain ⟨HGz44, hgz44⟩ := HI0.out
                            have hcz44_0 := cellS70_0 HGz44
                            have hcz44_1 := cellS70_1 HGz44
                            have hfz44_0 := blk_frozen HGz44 0
                            have hfz44_1 := blk_frozen HGz44 1
                            clear HGz44 hgz44
                            go_wp2
                            repeat (go_quiet (fail); try go_wp2)
                            go_ret
                            exact ⟨by first | rfl | (simp [errW_none, errW_some] <;> rfl) | (simp only [← hji36, ← hji39]; first | rfl | (simp [errW_none, errW_some] <;> rfl)) | (simp [*, errW_none, errW_some] <;> rfl), by repeat (first | (with_reducible first | exact HI0.out | apply IsS70.alloc | apply IsS70.drewN | apply IsS70.drew | apply IsS70.set_0 | apply IsS70.set_1) | exact HI0.out), by repeat (first | (with_reducible first | exact HB.out | apply below_alloc | apply pw_below_drewN | apply below_drew1 | refine below_set ?_ (IsS70.ge HI0.out)) | exact HB.out), by repeat (first | (with_reducible first | exact HK.out | apply KeepBut.set_ | apply keep_drewN | apply keep_drew | apply keep_alloc) | exact HK.out)⟩
                        · rw [if_neg c38] at H
                          exact absurd H (by simp)
                      · rw [if_neg c37] at H
                        exact absurd H (by simp)
              · rw [if_neg c28] at H
                exact absurd H (by simp)
            · rw [if_neg c27] at H
              exact absurd H (by simp)
          · rw [if_neg c25] at H
            exact absurd H (by simp)

end Go.Proofs.Ythpgpljpadlegaa.Q
