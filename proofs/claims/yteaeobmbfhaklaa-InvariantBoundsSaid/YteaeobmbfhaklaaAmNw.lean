/- Contracts for nets: Support. Conditions: none of ours. -/
import Derived.Test.YteaeobmbfhaklaaAmNv
import Derived.Test.YteaeobmbfhaklaaAmQb
namespace Go.AM.SN
open Go.Proofs
set_option maxRecDepth 100000
set_option linter.unusedSimpArgs false
set_option linter.unusedVariables false

/-- Where the first i numbers are not 0. -/
def suppR (w : List Int) (i : Nat) : List Int := ((List.range i).filter fun j => !decide (w.getD j 0 = 0)).map Int.ofNat
theorem suppR_len (w : List Int) (i : Nat) : (suppR w i).length ≤ i := by
  unfold suppR
  rw [List.length_map]
  exact Nat.le_trans (List.length_filter_le _ _) (by simp)
theorem suppR_succ (w : List Int) (i : Nat) : suppR w (i + 1) = suppR w i ++ (if w.getD i 0 = 0 then [] else [(i : Int)]) := by
  unfold suppR
  rw [List.range_succ, List.filter_append, List.map_append]
  congr 1
  by_cases h : w.getD i 0 = 0
  · rw [if_pos h]; simp only [List.filter_cons, h, decide_true, Bool.not_true, Bool.false_eq_true, if_false, List.filter_nil, List.map_nil]
  · rw [if_neg h]; simp only [List.filter_cons, h, decide_false, Bool.not_false, if_true, List.filter_nil, List.map_cons, List.map_nil]; rfl

theorem ints_append (a b : List Int) : ints (a ++ b) = ints a ++ ints b := by simp [ints]

theorem support (w : List Int) (hl : w.length ≤ 1000000) : PSpec Try.prog 30 [sli w] (sli (suppR w w.length)) := by
  refine PSpec.of_frz 64 ok30 rfl (by simp [noRefs, noRef, noRefs_ints]) (noRef_sli _) ?_
  simp (config := { maxSteps := 1000000 }) (disch := omega) only [s30, words, Nat.reduceAdd, Nat.reduceEqDiff, Nat.reduceBEq, ↓reduceIte, reduceCtorEq, SX.exit.injEq, if_true, if_false, Int.reduceAdd, Int.reduceSub, Int.reduceMul, Int.reduceLT, Int.reduceLE, Int.reduceEq, Int.reduceNe, Int.reduceNeg, Int.reduceToNat, Nat.reduceMul, Nat.reduceLT, Nat.reduceSub, Nat.reduceLeDiff]
  refine wS_loop (fun a : Nat × AV => [(3, a.2), (6, sli w), (7, .int .i64 w.length), (8, .int .i64 a.1)]) (fun a h n => a.1 ≤ w.length ∧ Row h (fun b => b < n) a.2 (ints (suppR w a.1)) (suppR w a.1).length 1 ∧ Fresh n h ∧ n ≤ 1000 + a.1 * 40) (fun a => w.length - a.1) (0, .nilsl) (by repeat (first | exact Sub.nil | refine Sub.cons (by first | rfl | (rw [Int.natCast_add]; rfl)) ?_)) ⟨Nat.zero_le _, .nil, .e, by omega⟩ ?_
  rintro ⟨i, v⟩ h n ⟨hi, hr, hf, hn⟩
  dsimp only at hi hr hn ⊢
  by_cases hlt : i < w.length
  · obtain ⟨x, hx⟩ := get_ex hlt
    have hlt' : (i : Int) < (w.length : Int) := by omega
    have hD : w.getD i 0 = x := by rw [List.getD_eq_getElem?_getD, hx]; rfl
    have hs := suppR_succ w i
    rw [hD] at hs
    by_cases h0 : x = 0
    · rw [if_pos h0, List.append_nil] at hs
      simp (config := { maxSteps := 1000000 }) (disch := omega) only [hlt', head_ints hx, h0, words, Nat.reduceAdd, Nat.reduceEqDiff, Nat.reduceBEq, ↓reduceIte, reduceCtorEq, SX.exit.injEq, if_true, if_false, Int.reduceAdd, Int.reduceSub, Int.reduceMul, Int.reduceLT, Int.reduceLE, Int.reduceEq, Int.reduceNe, Int.reduceNeg, Int.reduceToNat, Nat.reduceMul, Nat.reduceLT, Nat.reduceSub, Nat.reduceLeDiff]
      refine ⟨(i + 1, v), by simp only; omega, by repeat (first | exact Sub.nil | refine Sub.cons (by first | rfl | (rw [Int.natCast_add]; rfl)) ?_), by simp only; omega, ?_, hf.le (by omega), by simp only; omega⟩
      rw [hs]
      exact hr.keep fun b hb _ => ⟨rfl, by omega⟩
    · rw [if_neg h0] at hs
      have hf0 : ∀ b, n ≤ b → h.get b = none := hf
      simp (config := { maxSteps := 1000000 }) (disch := omega) only [hlt', head_ints hx, h0, hf0, wordsN, Int.reduceGT, words, Nat.reduceAdd, Nat.reduceEqDiff, Nat.reduceBEq, ↓reduceIte, reduceCtorEq, SX.exit.injEq, if_true, if_false, Int.reduceAdd, Int.reduceSub, Int.reduceMul, Int.reduceLT, Int.reduceLE, Int.reduceEq, Int.reduceNe, Int.reduceNeg, Int.reduceToNat, Nat.reduceMul, Nat.reduceLT, Nat.reduceSub, Nat.reduceLeDiff]
      have hlen := suppR_len w i
      refine app_set hr (hf.le (by omega)) (by omega) (by omega) rfl rfl (by omega) (by omega) ?_
      intro v' h' hr' hf' _
      simp (config := { maxSteps := 1000000 }) (disch := omega) only [words, Nat.reduceAdd, Nat.reduceEqDiff, Nat.reduceBEq, ↓reduceIte, reduceCtorEq, SX.exit.injEq, if_true, if_false, Int.reduceAdd, Int.reduceSub, Int.reduceMul, Int.reduceLT, Int.reduceLE, Int.reduceEq, Int.reduceNe, Int.reduceNeg, Int.reduceToNat, Nat.reduceMul, Nat.reduceLT, Nat.reduceSub, Nat.reduceLeDiff]
      refine ⟨(i + 1, v'), by simp only; omega, by repeat (first | exact Sub.nil | refine Sub.cons (by first | rfl | (rw [Int.natCast_add]; rfl)) ?_), by simp only; omega, ?_, hf'.le (by omega), by simp only; omega⟩
      rw [hs, ints_append, List.length_append]
      exact hr'.keep fun b hb hne => ⟨rfl, by omega⟩
  · have hlt' : ¬ (i : Int) < (w.length : Int) := by omega
    have e : i = w.length := by omega
    subst e
    simp (config := { maxSteps := 1000000 }) (disch := omega) only [hlt', words, Nat.reduceAdd, Nat.reduceEqDiff, Nat.reduceBEq, ↓reduceIte, reduceCtorEq, SX.exit.injEq, if_true, if_false, Int.reduceAdd, Int.reduceSub, Int.reduceMul, Int.reduceLT, Int.reduceLE, Int.reduceEq, Int.reduceNe, Int.reduceNeg, Int.reduceToNat, Nat.reduceMul, Nat.reduceLT, Nat.reduceSub, Nat.reduceLeDiff]
    exact ⟨by simp, _, rfl, by simp [resOf, lk_cons]; exact hr.frz (FrzL.same _)⟩
end Go.AM.SN
