/- A part of the proof of CatalogueKindsCardSaid: lemmas on the way. Conditions: none of ours. -/
import Derived.Test.YtjojndgfbbmfnaaDoorAmYs
namespace Go.AM.FD
open Go.Proofs
def isTrue : AV → Bool | .bool true => true | _ => false
theorem isTrue_of : ∀ u, isTrue u = true → u = .bool true := by
  intro u h
  unfold isTrue at h
  split at h
  · rfl
  · cases h
set_option maxRecDepth 100000
theorem known : PSpec Tryd.prog 7 [] (.bool true) :=
  pspec_of_runR ft_ok noOrc_ok (d := 100000) isTrue isTrue_of (by kernel_rfl)
end Go.AM.FD
