/- Contracts for nets: invariant.Incidence. Conditions: none of ours. -/
import Derived.Test.YteaeobmbfhaklaaAmNc
namespace Go.AM.SN
open Go.Proofs
set_option maxRecDepth 100000
set_option linter.unusedSimpArgs false
set_option linter.unusedVariables false

theorem invIncidence (x : Nt) (ho : NetOk x) : PSpec Try.prog 27 [netV x] (.tup [lsts (incM x), .int .i64 0]) := by
  refine PSpec.of_flat 64 ok27 rfl (by rw [noRefs, noRef_net]; rfl) (by simp only [noRef, noRefs, noRefs_lsts]; rfl) ?_
  have hfe : ∀ b, Tr.get (α := Blk) .e b = none := fun b => by simp [Tr.get]
  simp (config := { maxSteps := 1000000 }) (disch := omega) only [s27, hfe, wordsN, Int.reduceGT, words, Nat.reduceAdd, Nat.reduceEqDiff, Nat.reduceBEq, ↓reduceIte, reduceCtorEq, SX.exit.injEq, if_true, if_false, Int.reduceAdd, Int.reduceSub, Int.reduceMul, Int.reduceLT, Int.reduceLE, Int.reduceEq, Int.reduceNe, Int.reduceNeg, Int.reduceToNat, Nat.reduceMul, Nat.reduceLT, Nat.reduceSub, Nat.reduceLeDiff]
  refine cp (netIncidence x ho) ?_
  simp (config := { maxSteps := 1000000 }) (disch := omega) only [wordsN, Int.reduceGT, words, Nat.reduceAdd, Nat.reduceEqDiff, Nat.reduceBEq, ↓reduceIte, reduceCtorEq, SX.exit.injEq, if_true, if_false, Int.reduceAdd, Int.reduceSub, Int.reduceMul, Int.reduceLT, Int.reduceLE, Int.reduceEq, Int.reduceNe, Int.reduceNeg, Int.reduceToNat, Nat.reduceMul, Nat.reduceLT, Nat.reduceSub, Nat.reduceLeDiff]
  exact ⟨by simp, _, rfl, by simp [resOf, lk_cons]⟩
/-- The columns and rows of the table of a kind. -/
def tabC (x : Nt) (kind : Int) : Nat := if kind = 1 then x.ini.length else x.tr.length
def tabR (x : Nt) (kind : Int) : List (List Int) := if kind = 1 then colM x else incM x

theorem noRefs_pad (R : List (List Int)) : noRefs (R.flatMap pad) = true := noRefs_flat fun r => noRefs_ints _
/-- IsSemiflow, told what newTable gives. -/
theorem isSemiflow (x : Nt) (kind : Int) (w : List Int) (K : Nat) (R : List (List Int)) (hT : PSpec Try.prog 39 [netV x, .int .i64 kind] (.tup [tabV K R, .int .i64 0]))
    (hk : K ≤ 10) (hR : R.length ≤ 1000) (hl : w.length = K) (hRk : ∀ r ∈ R, r.length = K) (hRs : ∀ r ∈ R, ∀ y ∈ r, sm y) (hw : ∀ y ∈ w, okT y) :
    PSpec Try.prog 28 [netV x, .int .i64 kind, sli w] (.tup [.bool (flowsR R w), .int .i64 0]) := by
  refine PSpec.of_flat 64 ok28 rfl (by rw [noRefs, noRef_net]; simp only [noRefs, noRef, noRefs_ints]; rfl) rfl ?_
  have hfe : ∀ b, Tr.get (α := Blk) .e b = none := fun b => by simp [Tr.get]
  simp (config := { maxSteps := 1000000 }) (disch := omega) only [s28, hfe, wordsN, Int.reduceGT, words, Nat.reduceAdd, Nat.reduceEqDiff, Nat.reduceBEq, ↓reduceIte, reduceCtorEq, SX.exit.injEq, if_true, if_false, Int.reduceAdd, Int.reduceSub, Int.reduceMul, Int.reduceLT, Int.reduceLE, Int.reduceEq, Int.reduceNe, Int.reduceNeg, Int.reduceToNat, Nat.reduceMul, Nat.reduceLT, Nat.reduceSub, Nat.reduceLeDiff]
  refine cp hT ?_
  simp (config := { maxSteps := 1000000 }) (disch := omega) only [hfe, wordsN, Int.reduceGT, words, Nat.reduceAdd, Nat.reduceEqDiff, Nat.reduceBEq, ↓reduceIte, reduceCtorEq, SX.exit.injEq, if_true, if_false, Int.reduceAdd, Int.reduceSub, Int.reduceMul, Int.reduceLT, Int.reduceLE, Int.reduceEq, Int.reduceNe, Int.reduceNeg, Int.reduceToNat, Nat.reduceMul, Nat.reduceLT, Nat.reduceSub, Nat.reduceLeDiff]
  have hwg := weigh w (by omega) hw
  rw [hl] at hwg
  refine cp hwg ?_
  simp (config := { maxSteps := 1000000 }) (disch := omega) only [wordsN, Int.reduceGT, words, Nat.reduceAdd, Nat.reduceEqDiff, Nat.reduceBEq, ↓reduceIte, reduceCtorEq, SX.exit.injEq, if_true, if_false, Int.reduceAdd, Int.reduceSub, Int.reduceMul, Int.reduceLT, Int.reduceLE, Int.reduceEq, Int.reduceNe, Int.reduceNeg, Int.reduceToNat, Nat.reduceMul, Nat.reduceLT, Nat.reduceSub, Nat.reduceLeDiff]
  refine cp (flows K R w hk hR hl hRk hRs (fun y hy => by have := hw y hy; unfold okT at this; unfold sm; omega)) ?_
  simp (config := { maxSteps := 1000000 }) (disch := omega) only [wordsN, Int.reduceGT, words, Nat.reduceAdd, Nat.reduceEqDiff, Nat.reduceBEq, ↓reduceIte, reduceCtorEq, SX.exit.injEq, if_true, if_false, Int.reduceAdd, Int.reduceSub, Int.reduceMul, Int.reduceLT, Int.reduceLE, Int.reduceEq, Int.reduceNe, Int.reduceNeg, Int.reduceToNat, Nat.reduceMul, Nat.reduceLT, Nat.reduceSub, Nat.reduceLeDiff]
  exact ⟨by simp, _, rfl, by simp [resOf, lk_cons]⟩
end Go.AM.SN
