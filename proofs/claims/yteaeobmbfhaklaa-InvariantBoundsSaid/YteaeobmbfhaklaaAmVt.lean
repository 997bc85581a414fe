/- The examples of the chapter hold (known of law 48). Conditions: none. -/
import Derived.Test.YteaeobmbfhaklaaAmVs
namespace Go.AM.FV
open Go.Proofs
def isTrue : AV → Bool | .bool true => true | _ => false
theorem isTrue_of : ∀ u, isTrue u = true → u = .bool true := by
  intro u h
  unfold isTrue at h
  split at h
  · rfl
  · cases h
set_option maxRecDepth 100000
theorem known : PSpec Try.prog 12 [] (.bool true) :=
  pspec_of_runR ft_ok noOrc_ok (d := 100000) isTrue isTrue_of (by kernel_rfl)
end Go.AM.FV
