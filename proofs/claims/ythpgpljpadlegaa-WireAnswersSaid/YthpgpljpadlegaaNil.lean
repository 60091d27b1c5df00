/- The methods of a nil Reader: each tells nothing, and leaves the world alone. -/
import Derived.Test.YthpgpljpadlegaaProg
import Derived.WalkKit
import Derived.KernelRfl
import Derived.Deep.QuietTactic
import Derived.BigQuiet
namespace Go.Proofs.Ythpgpljpadlegaa.Q
open Go
def octet_Reader_Num_nil.f (_ : Int) : Option (Int) := some 0
theorem octet_Reader_Num_nil.calls (a : Int) (r : Int) (w : World) (h : octet_Reader_Num_nil.f a = some r) :
    Calls Try.prog 25 #[.pointer none, .int .i64 a] w fun e w' => e = .returned (.int .i64 r) ∧ ∃ nd, w' = w.drewN nd := by
  obtain rfl := Option.some.inj h
  go_enter Try.func25, Try.ntmps25
  go_wp2
  repeat (go_quiet (fail); try go_wp2)
  go_ret
  exact ⟨rfl, 0, rfl⟩
def octet_Reader_Raw_nil.f (_ : Int) : Option (ByteArray) := some (⟨#[]⟩ : ByteArray)
theorem octet_Reader_Raw_nil.calls (a : Int) (r : ByteArray) (w : World) (h : octet_Reader_Raw_nil.f a = some r) :
    Calls Try.prog 21 #[.pointer none, .int .i64 a] w fun e w' => e = .returned (.string r) ∧ ∃ nd, w' = w.drewN nd := by
  obtain rfl := Option.some.inj h
  go_enter Try.func21, Try.ntmps21
  go_wp2
  repeat (go_quiet (fail); try go_wp2)
  go_ret
  exact ⟨rfl, 0, rfl⟩
def octet_Reader_Flag_nil.f : Option (Bool) := some false
theorem octet_Reader_Flag_nil.calls (r : Bool) (w : World) (h : octet_Reader_Flag_nil.f = some r) :
    Calls Try.prog 27 #[.pointer none] w fun e w' => e = .returned (.bool r) ∧ ∃ nd, w' = w.drewN nd := by
  obtain rfl := Option.some.inj h
  go_enter Try.func27, Try.ntmps27
  go_wp2
  repeat (go_quiet (fail); try go_wp2)
  go_ret
  exact ⟨rfl, 0, rfl⟩
def octet_Reader_Left_nil.f : Option (Int) := some 0
theorem octet_Reader_Left_nil.calls (r : Int) (w : World) (h : octet_Reader_Left_nil.f = some r) :
    Calls Try.prog 23 #[.pointer none] w fun e w' => e = .returned (.int .i64 r) ∧ ∃ nd, w' = w.drewN nd := by
  obtain rfl := Option.some.inj h
  go_enter Try.func23, Try.ntmps23
  go_wp2
  repeat (go_quiet (fail); try go_wp2)
  go_ret
  exact ⟨rfl, 0, rfl⟩
def octet_Reader_Err_nil.f : Option (Int) := some 2
theorem octet_Reader_Err_nil.calls (r : Int) (w : World) (h : octet_Reader_Err_nil.f = some r) :
    Calls Try.prog 22 #[.pointer none] w fun e w' => e = .returned (.int .i64 r) ∧ ∃ nd, w' = w.drewN nd := by
  obtain rfl := Option.some.inj h
  go_enter Try.func22, Try.ntmps22
  go_wp2
  repeat (go_quiet (fail); try go_wp2)
  go_ret
  exact ⟨rfl, 0, rfl⟩
def octet_Reader_Text_nil.f (_ : Int) : Option (ByteArray) := some (⟨#[]⟩ : ByteArray)
theorem octet_Reader_Text_nil.calls (a : Int) (r : ByteArray) (w : World) (h : octet_Reader_Text_nil.f a = some r) :
    Calls Try.prog 26 #[.pointer none, .int .i64 a] w fun e w' => e = .returned (.string r) ∧ ∃ nd, w' = w.drewN nd := by
  obtain rfl := Option.some.inj h
  go_enter Try.func26, Try.ntmps26
  go_wp2_with (go_at_call 25; refine (octet_Reader_Num_nil.calls _ _ _ rfl).mono ?_; rintro e w' ⟨rfl, nd, rfl⟩)
  repeat (go_quiet (fail); try go_wp2)
  go_ret
  exact ⟨rfl, _, by first | rfl | exact World.drewN_drewN _ _ _⟩
def octet_Reader_End_nil.f : Option (Int) := some 2
theorem octet_Reader_End_nil.calls (r : Int) (w : World) (h : octet_Reader_End_nil.f = some r) :
    Calls Try.prog 24 #[.pointer none] w fun e w' => e = .returned (.int .i64 r) ∧ ∃ nd, w' = w.drewN nd := by
  obtain rfl := Option.some.inj h
  go_enter Try.func24, Try.ntmps24
  go_wp2_with (first | (go_at_call 23; refine (octet_Reader_Left_nil.calls _ _ rfl).mono ?_; rintro e w' ⟨rfl, nd, rfl⟩) | (go_at_call 22; refine (octet_Reader_Err_nil.calls _ _ rfl).mono ?_; rintro e w' ⟨rfl, nd2, rfl⟩))
  go_ret
  exact ⟨rfl, _, by first | rfl | exact World.drewN_drewN _ _ _⟩
end Go.Proofs.Ythpgpljpadlegaa.Q
