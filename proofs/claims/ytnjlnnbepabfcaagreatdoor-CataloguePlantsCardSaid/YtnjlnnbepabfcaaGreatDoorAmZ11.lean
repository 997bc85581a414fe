/- A part of the proof of CataloguePlantsCardSaid: lemmas on the way (AmIq, AmIqa). Conditions: none of ours. -/
import Derived.Test.YtnjlnnbepabfcaaGreatDoorAmZ10
set_option linter.unusedSectionVars false
namespace Go.AM.IP
open Go.Proofs
set_option maxRecDepth 100000
set_option linter.unusedSimpArgs false
set_option linter.unusedVariables false
noncomputable section
def isTrue : AV → Bool | .bool true => true | _ => false
theorem isTrue_of : ∀ u, isTrue u = true → u = .bool true := by
  intro u h
  unfold isTrue at h
  split at h
  · rfl
  · cases h
def kTrue (t : Nat) : KcA Bool := fun e T _ _ => match e with
  | .ret => isTrue (lk T t)
  | _ => false
theorem kTrue_of {t : Nat} {e : SX} {T : Tmps} {h : Heap} {n : Nat} (hk : kTrue t e T h n = true) : e = .ret ∧ lk T t = .bool true := by
  unfold kTrue at hk
  cases e <;> simp only [Bool.false_eq_true] at hk
  exact ⟨rfl, isTrue_of _ hk⟩
theorem known : PSpec Tryz.prog 9 [] (.bool true) :=
  pspec_of_runR (t := ft) ft_ok noOrc_ok (d := 100000) isTrue isTrue_of (by kernel_rfl)
def plantsB (k : Int) : Bool := exR ansB noOrc ft.get 100000 f4.body [(0, .int .i64 k)] .e 64 (kTrue 2)
def plantsX (k : Int) : Prop := exR ansP (orc1 9 (.bool true)) ft.get 100000 f4.body [(0, .int .i64 k)] .e 64 (fun e T h n => kTrue 2 e T h n = true)
end
end Go.AM.IP
namespace Go.AM.IP
open Go.Proofs
set_option maxRecDepth 100000
theorem plants_0 : plantsB (.ofNat 0) = true := by kernel_rfl
theorem plants_1 : plantsB (.ofNat 1) = true := by kernel_rfl
theorem plants_2 : plantsB (.ofNat 2) = true := by kernel_rfl
theorem plants_3 : plantsB (.ofNat 3) = true := by kernel_rfl
theorem plants_4 : plantsB (.ofNat 4) = true := by kernel_rfl
theorem plants_5 : plantsB (.ofNat 5) = true := by kernel_rfl
theorem plants_6 : plantsB (.ofNat 6) = true := by kernel_rfl
theorem plants_7 : plantsB (.ofNat 7) = true := by kernel_rfl
theorem plants_8 : plantsB (.ofNat 8) = true := by kernel_rfl
end Go.AM.IP
