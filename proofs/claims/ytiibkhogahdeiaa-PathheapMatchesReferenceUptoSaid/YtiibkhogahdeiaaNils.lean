/- What calls of the methods of a nil heap answer. -/
import Derived.Test.YtiibkhogahdeiaaAlive
namespace Go.Proofs.Ytiibkhogahdeiaa.Nils
open Go.RowKit Go.Proofs.YtiibkhogahdeiaaW.PrintWords Go.Proofs.YtiibkhogahdeiaaW.PrintLast Go.Proofs.YtiibkhogahdeiaaW.PrintMore Go.Proofs.Ytiibkhogahdeiaa.Base Go.Proofs.Ytiibkhogahdeiaa.Plain Go.Proofs.Ytiibkhogahdeiaa.Sift Go.Proofs.Ytiibkhogahdeiaa.Ops Go.Proofs.Ytiibkhogahdeiaa.Methods
set_option maxRecDepth 100000 in
theorem nil_len (w : World) : Calls Try.prog 17 #[.pointer none] w fun e w' => e = .returned (.int .i64 0) ∧ w = w' := by
  go_enter Try.func17, Try.ntmps17
  go_wp2
  go_ret
  exact ⟨rfl, rfl⟩
set_option maxRecDepth 100000 in
theorem nil_push (A : Option Addr) (n c : Nat) (w : World) : Calls Try.prog 15 #[.pointer none, .slice A n c] w fun e w' => e = .returned (.tuple #[]) ∧ w = w' := by
  go_enter Try.func15, Try.ntmps15
  go_wp2
  refine bodyPost_ret (results_none rfl _ _ _) rfl ?_
  exact ⟨rfl, rfl⟩
set_option maxRecDepth 100000 in
theorem nil_pop (w : World) : Calls Try.prog 16 #[.pointer none] w fun e w' => e = .returned (.tuple #[.string ⟨#[]⟩, .bool false]) ∧ w = w' := by
  have L := Lib.hid (nil_len w)
  go_enter Try.func16, Try.ntmps16
  go_wp2_with fail
  refine L.out.mono ?_
  rintro e w1 ⟨rfl, rfl⟩
  go_wp2
  go_ret2
  exact ⟨rfl, rfl⟩
set_option maxRecDepth 100000 in
theorem nil_peek (w : World) : Calls Try.prog 18 #[.pointer none] w fun e w' => e = .returned (.tuple #[.string ⟨#[]⟩, .bool false]) ∧ w = w' := by
  have L := Lib.hid (nil_len w)
  go_enter Try.func18, Try.ntmps18
  go_wp2_with fail
  refine L.out.mono ?_
  rintro e w1 ⟨rfl, rfl⟩
  go_wp2
  go_ret2
  exact ⟨rfl, rfl⟩
end Go.Proofs.Ytiibkhogahdeiaa.Nils
