import Derived.Lib.SmallJoins
import Derived.ProofKit
import Derived.OpenShut
import Derived.ChangeOld
import Derived.SizedLaws
import Derived.Test.YtlfpjlfmjojimaaQFnExactTenPowerk
section
namespace Go.Proofs.Ytlfpjlfmjojimaa
open Go.Proofs.Ytlfpjlfmjojimaa.G Go.Proofs.Ytlfpjlfmjojimaa.M Go.ChangeShapes Go.WideShapes Go.ChangeAt Go.WideMaps Go.WideElems Go.RowKit Go.Joins Go.Proofs.Ytlfpjlfmjojimaa.X Go.Proofs.YtlfpjlfmjojimaaV.PrintWords Go.Proofs.YtlfpjlfmjojimaaV.PrintLast
set_option linter.unusedVariables false
set_option linter.unusedSimpArgs false
theorem ctV_all {P : Program} {f : FuncId} {args : List Value} {v : Value} {pre : List Fact} (h : CtV P f args pre v) {W : World} (hp : ∀ F ∈ pre, Foot F W (fun k => k ∉ ([] : List Nat))) : Calls P f args.toArray W fun e w' => e = .returned v ∧ Below W.heap.size W w' :=
  (h [] W (fun k hk => by cases hk) hp).mono (fun e w' ⟨_, h1, _, h2⟩ => ⟨h1, h2⟩)
theorem feet_nil {W : World} : ∀ F ∈ ([] : List Fact), Foot F W (fun k => k ∉ ([] : List Nat)) := fun F hF => by cases hF
end Go.Proofs.Ytlfpjlfmjojimaa
end
