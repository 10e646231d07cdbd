import Derived.SevenTiedAt
import Derived.JoinedOf
import Derived.Test.YtgknelgplmohoaaDoorQFnShortestp
section
namespace Go.Proofs.YtgknelgplmohoaaDoor
open Go.Proofs.YtgknelgplmohoaaDoor.G Go.ChangeShapes Go.WideShapes Go.ChangeAt Go.WideMaps Go.WideElems Go.RowKit
set_option linter.unusedVariables false
set_option linter.unusedSimpArgs false
abbrev lst : List (String × DataW Unit) := [("loop.example/s01493/impl.formats", Rows.laid_loop_example_s01493_impl_formats)]
theorem door_met (os : Os) (args : Array Value) : laidMetH Tryd.prog lst ((World.doorLaid Tryd.prog 400 os).forCall (fun _ _ => 0) ⟨#[], args, []⟩).memory :=
  laidMetH_of_parts3 (fuel := 8) (laidMet_of_run' 8 (by kernel_rfl) (by kernel_rfl)) (by kernel_rfl) (by kernel_rfl)
theorem reads_table {H : Type} (enc : TypeId × Value → H) (W : World) (sp : Nat → Bool) : DataW.trod enc Tryd.prog W 0 sp true 4 131 table24.toList = some (Rows.laid_loop_example_s01493_impl_formats, []) := by kernel_rfl
end Go.Proofs.YtgknelgplmohoaaDoor
end
