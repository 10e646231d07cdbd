/- The program's constants have the values that the document gives them: the law returns true. Conditions: none. -/
import Derived.Test.YtkbkjmhkchagbaaPFnExactConstantsx1
namespace Go.Proofs.Ytkbkjmhkchagbaa.Pure
open Go.RowKit Go.Proofs.Ytkbkjmhkchagbaa.PFnExactConstants Go.Proofs.YtkbkjmhkchagbaaW.PrintWords Go.Proofs.YtkbkjmhkchagbaaW.PrintLast

/-- YOURS: laws_FnExactConstants.f  = some true
What it reaches (each with k first where it has rounds; `.mono`: more rounds tell the same; `.l0`, ..: its loops, with `.mono_l`): laws_FnExactConstants.f -/
theorem FnExactConstants : laws_FnExactConstants.Pure := by
  rfl

end Go.Proofs.Ytkbkjmhkchagbaa.Pure
