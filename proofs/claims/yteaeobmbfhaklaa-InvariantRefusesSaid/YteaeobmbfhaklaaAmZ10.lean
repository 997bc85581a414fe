/- A part of the proof of InvariantRefuses: lemmas on the way (AmLb). Conditions: none of ours. -/
import Derived.Test.YteaeobmbfhaklaaAmZ9
namespace Go.AM.SN
open Go.Proofs Go.AM.SK
set_option maxRecDepth 100000
set_option linter.unusedSimpArgs false
set_option linter.unusedVariables false
abbrev noTab : AV := .agg [.int .i64 0, .nilsl]
theorem incE (x : Nt) (hf : Few x) (h0 : netE x ≠ 0) : PSpec Try.prog 48 [netV x] (.tup [.nilsl, .int .i64 (netE x)]) := by
  refine PSpec.of_rn 64 ok48 rfl (by rw [noRefs, noRef_net]; rfl) rfl ?_
  simp (maxSteps := 1000000) (disch := first | omega | (simp only [lenW] <;> omega)) only [s48, wordsN, Int.reduceGT, wordsR, ne_eq, words, Nat.reduceAdd, Nat.reduceEqDiff, Nat.reduceBEq, ↓reduceIte, reduceCtorEq, SX.exit.injEq, if_true, if_false, Int.reduceAdd, Int.reduceSub, Int.reduceMul, Int.reduceLT, Int.reduceLE, Int.reduceEq, Int.reduceNe, Int.reduceNeg, Int.reduceToNat, Nat.reduceMul, Nat.reduceLT, Nat.reduceSub, Nat.reduceLeDiff]
  refine cp (checkG x hf) ?_
  simp (maxSteps := 1000000) (disch := first | omega | (simp only [lenW] <;> omega)) only [h0, wordsN, Int.reduceGT, wordsR, ne_eq, words, Nat.reduceAdd, Nat.reduceEqDiff, Nat.reduceBEq, ↓reduceIte, reduceCtorEq, SX.exit.injEq, if_true, if_false, Int.reduceAdd, Int.reduceSub, Int.reduceMul, Int.reduceLT, Int.reduceLE, Int.reduceEq, Int.reduceNe, Int.reduceNeg, Int.reduceToNat, Nat.reduceMul, Nat.reduceLT, Nat.reduceSub, Nat.reduceLeDiff]
  exact ⟨.inr trivial, _, rfl, Rn.same rfl⟩
theorem invIncE (x : Nt) (hf : Few x) (h0 : netE x ≠ 0) : PSpec Try.prog 27 [netV x] (.tup [.nilsl, .int .i64 (netE x)]) := by
  refine PSpec.of_rn 64 ok27 rfl (by rw [noRefs, noRef_net]; rfl) rfl ?_
  simp (maxSteps := 1000000) (disch := first | omega | (simp only [lenW] <;> omega)) only [s27, wordsN, Int.reduceGT, wordsR, ne_eq, words, Nat.reduceAdd, Nat.reduceEqDiff, Nat.reduceBEq, ↓reduceIte, reduceCtorEq, SX.exit.injEq, if_true, if_false, Int.reduceAdd, Int.reduceSub, Int.reduceMul, Int.reduceLT, Int.reduceLE, Int.reduceEq, Int.reduceNe, Int.reduceNeg, Int.reduceToNat, Nat.reduceMul, Nat.reduceLT, Nat.reduceSub, Nat.reduceLeDiff]
  refine cp (incE x hf h0) ?_
  simp (maxSteps := 1000000) (disch := first | omega | (simp only [lenW] <;> omega)) only [wordsN, Int.reduceGT, wordsR, ne_eq, words, Nat.reduceAdd, Nat.reduceEqDiff, Nat.reduceBEq, ↓reduceIte, reduceCtorEq, SX.exit.injEq, if_true, if_false, Int.reduceAdd, Int.reduceSub, Int.reduceMul, Int.reduceLT, Int.reduceLE, Int.reduceEq, Int.reduceNe, Int.reduceNeg, Int.reduceToNat, Nat.reduceMul, Nat.reduceLT, Nat.reduceSub, Nat.reduceLeDiff]
  exact ⟨.inr trivial, _, rfl, Rn.same rfl⟩
theorem newTableE (x : Nt) (hf : Few x) (h0 : netE x ≠ 0) (kind : Int) : PSpec Try.prog 39 [netV x, .int .i64 kind] (.tup [noTab, .int .i64 (netE x)]) := by
  refine PSpec.of_rn 64 ok39 rfl (by rw [noRefs, noRef_net]; rfl) rfl ?_
  simp (maxSteps := 1000000) (disch := first | omega | (simp only [lenW] <;> omega)) only [s39, wordsN, Int.reduceGT, wordsR, ne_eq, words, Nat.reduceAdd, Nat.reduceEqDiff, Nat.reduceBEq, ↓reduceIte, reduceCtorEq, SX.exit.injEq, if_true, if_false, Int.reduceAdd, Int.reduceSub, Int.reduceMul, Int.reduceLT, Int.reduceLE, Int.reduceEq, Int.reduceNe, Int.reduceNeg, Int.reduceToNat, Nat.reduceMul, Nat.reduceLT, Nat.reduceSub, Nat.reduceLeDiff]
  refine cp (incE x hf h0) ?_
  simp (maxSteps := 1000000) (disch := first | omega | (simp only [lenW] <;> omega)) only [h0, wordsN, Int.reduceGT, wordsR, ne_eq, words, Nat.reduceAdd, Nat.reduceEqDiff, Nat.reduceBEq, ↓reduceIte, reduceCtorEq, SX.exit.injEq, if_true, if_false, Int.reduceAdd, Int.reduceSub, Int.reduceMul, Int.reduceLT, Int.reduceLE, Int.reduceEq, Int.reduceNe, Int.reduceNeg, Int.reduceToNat, Nat.reduceMul, Nat.reduceLT, Nat.reduceSub, Nat.reduceLeDiff]
  exact ⟨.inr trivial, _, rfl, Rn.same rfl⟩
theorem newTableK (x : Nt) (ho : NetOk x) (kind : Int) (h1 : kind ≠ 1) (h2 : kind ≠ 2) : PSpec Try.prog 39 [netV x, .int .i64 kind] (.tup [noTab, .int .i64 11]) := by
  refine PSpec.of_rn 64 ok39 rfl (by rw [noRefs, noRef_net]; rfl) rfl ?_
  simp (maxSteps := 1000000) (disch := first | omega | (simp only [lenW] <;> omega)) only [s39, wordsN, Int.reduceGT, wordsR, ne_eq, words, Nat.reduceAdd, Nat.reduceEqDiff, Nat.reduceBEq, ↓reduceIte, reduceCtorEq, SX.exit.injEq, if_true, if_false, Int.reduceAdd, Int.reduceSub, Int.reduceMul, Int.reduceLT, Int.reduceLE, Int.reduceEq, Int.reduceNe, Int.reduceNeg, Int.reduceToNat, Nat.reduceMul, Nat.reduceLT, Nat.reduceSub, Nat.reduceLeDiff]
  refine cp (netIncidence x ho) ?_
  simp (maxSteps := 1000000) (disch := first | omega | (simp only [lenW] <;> omega)) only [h1, h2, wordsN, Int.reduceGT, wordsR, ne_eq, words, Nat.reduceAdd, Nat.reduceEqDiff, Nat.reduceBEq, ↓reduceIte, reduceCtorEq, SX.exit.injEq, if_true, if_false, Int.reduceAdd, Int.reduceSub, Int.reduceMul, Int.reduceLT, Int.reduceLE, Int.reduceEq, Int.reduceNe, Int.reduceNeg, Int.reduceToNat, Nat.reduceMul, Nat.reduceLT, Nat.reduceSub, Nat.reduceLeDiff]
  exact ⟨.inr trivial, _, rfl, Rn.same rfl⟩
section
variable {x : Nt} {kind e : Int} (hT : PSpec Try.prog 39 [netV x, .int .i64 kind] (.tup [noTab, .int .i64 e])) (h0 : e ≠ 0)
include hT h0
theorem isSemiflowE (w : List Int) : PSpec Try.prog 28 [netV x, .int .i64 kind, sli w] (.tup [.bool false, .int .i64 e]) := by
  refine PSpec.of_rn 64 ok28 rfl (by rw [noRefs, noRef_net]; simp only [noRefs, noRef, noRefs_ints]; rfl) rfl ?_
  simp (maxSteps := 1000000) (disch := first | omega | (simp only [lenW] <;> omega)) only [s28, wordsN, Int.reduceGT, wordsR, ne_eq, words, Nat.reduceAdd, Nat.reduceEqDiff, Nat.reduceBEq, ↓reduceIte, reduceCtorEq, SX.exit.injEq, if_true, if_false, Int.reduceAdd, Int.reduceSub, Int.reduceMul, Int.reduceLT, Int.reduceLE, Int.reduceEq, Int.reduceNe, Int.reduceNeg, Int.reduceToNat, Nat.reduceMul, Nat.reduceLT, Nat.reduceSub, Nat.reduceLeDiff]
  refine cp hT ?_
  simp (maxSteps := 1000000) (disch := first | omega | (simp only [lenW] <;> omega)) only [h0, wordsN, Int.reduceGT, wordsR, ne_eq, words, Nat.reduceAdd, Nat.reduceEqDiff, Nat.reduceBEq, ↓reduceIte, reduceCtorEq, SX.exit.injEq, if_true, if_false, Int.reduceAdd, Int.reduceSub, Int.reduceMul, Int.reduceLT, Int.reduceLE, Int.reduceEq, Int.reduceNe, Int.reduceNeg, Int.reduceToNat, Nat.reduceMul, Nat.reduceLT, Nat.reduceSub, Nat.reduceLeDiff]
  exact ⟨.inr trivial, _, rfl, Rn.same rfl⟩
theorem MinimalE : PSpec Try.prog 14 [netV x, .int .i64 kind] (.tup [.nilsl, .int .i64 e]) := by
  refine PSpec.of_rn 64 SM.ok14 rfl (by rw [noRefs, noRef_net]; rfl) rfl ?_
  simp (maxSteps := 1000000) (disch := first | omega | (simp only [lenW] <;> omega)) only [SM.s14, wordsN, Int.reduceGT, wordsR, ne_eq, words, Nat.reduceAdd, Nat.reduceEqDiff, Nat.reduceBEq, ↓reduceIte, reduceCtorEq, SX.exit.injEq, if_true, if_false, Int.reduceAdd, Int.reduceSub, Int.reduceMul, Int.reduceLT, Int.reduceLE, Int.reduceEq, Int.reduceNe, Int.reduceNeg, Int.reduceToNat, Nat.reduceMul, Nat.reduceLT, Nat.reduceSub, Nat.reduceLeDiff]
  refine cp hT ?_
  simp (maxSteps := 1000000) (disch := first | omega | (simp only [lenW] <;> omega)) only [h0, wordsN, Int.reduceGT, wordsR, ne_eq, words, Nat.reduceAdd, Nat.reduceEqDiff, Nat.reduceBEq, ↓reduceIte, reduceCtorEq, SX.exit.injEq, if_true, if_false, Int.reduceAdd, Int.reduceSub, Int.reduceMul, Int.reduceLT, Int.reduceLE, Int.reduceEq, Int.reduceNe, Int.reduceNeg, Int.reduceToNat, Nat.reduceMul, Nat.reduceLT, Nat.reduceSub, Nat.reduceLeDiff]
  exact ⟨.inr trivial, _, rfl, Rn.same rfl⟩
theorem CoveredE : PSpec Try.prog 15 [netV x, .int .i64 kind] (.tup [.bool false, .int .i64 e]) := by
  refine PSpec.of_rn 64 SM.ok15 rfl (by rw [noRefs, noRef_net]; rfl) rfl ?_
  simp (maxSteps := 1000000) (disch := first | omega | (simp only [lenW] <;> omega)) only [SM.s15, wordsN, Int.reduceGT, wordsR, ne_eq, words, Nat.reduceAdd, Nat.reduceEqDiff, Nat.reduceBEq, ↓reduceIte, reduceCtorEq, SX.exit.injEq, if_true, if_false, Int.reduceAdd, Int.reduceSub, Int.reduceMul, Int.reduceLT, Int.reduceLE, Int.reduceEq, Int.reduceNe, Int.reduceNeg, Int.reduceToNat, Nat.reduceMul, Nat.reduceLT, Nat.reduceSub, Nat.reduceLeDiff]
  refine cp hT ?_
  simp (maxSteps := 1000000) (disch := first | omega | (simp only [lenW] <;> omega)) only [h0, wordsN, Int.reduceGT, wordsR, ne_eq, words, Nat.reduceAdd, Nat.reduceEqDiff, Nat.reduceBEq, ↓reduceIte, reduceCtorEq, SX.exit.injEq, if_true, if_false, Int.reduceAdd, Int.reduceSub, Int.reduceMul, Int.reduceLT, Int.reduceLE, Int.reduceEq, Int.reduceNe, Int.reduceNeg, Int.reduceToNat, Nat.reduceMul, Nat.reduceLT, Nat.reduceSub, Nat.reduceLeDiff]
  exact ⟨.inr trivial, _, rfl, Rn.same rfl⟩
theorem VerifyE (l : List (List Int)) : PSpec Try.prog 33 [netV x, .int .i64 kind, lsts l] (.int .i64 e) := by
  refine PSpec.of_rn 64 SQ.ok33 rfl (by rw [noRefs, noRef_net]; simp only [noRefs, noRef, noRefs_lsts]; rfl) rfl ?_
  simp (maxSteps := 1000000) (disch := first | omega | (simp only [lenW] <;> omega)) only [SQ.s33, wordsN, Int.reduceGT, wordsR, ne_eq, words, Nat.reduceAdd, Nat.reduceEqDiff, Nat.reduceBEq, ↓reduceIte, reduceCtorEq, SX.exit.injEq, if_true, if_false, Int.reduceAdd, Int.reduceSub, Int.reduceMul, Int.reduceLT, Int.reduceLE, Int.reduceEq, Int.reduceNe, Int.reduceNeg, Int.reduceToNat, Nat.reduceMul, Nat.reduceLT, Nat.reduceSub, Nat.reduceLeDiff]
  refine cp hT ?_
  simp (maxSteps := 1000000) (disch := first | omega | (simp only [lenW] <;> omega)) only [h0, wordsN, Int.reduceGT, wordsR, ne_eq, words, Nat.reduceAdd, Nat.reduceEqDiff, Nat.reduceBEq, ↓reduceIte, reduceCtorEq, SX.exit.injEq, if_true, if_false, Int.reduceAdd, Int.reduceSub, Int.reduceMul, Int.reduceLT, Int.reduceLE, Int.reduceEq, Int.reduceNe, Int.reduceNeg, Int.reduceToNat, Nat.reduceMul, Nat.reduceLT, Nat.reduceSub, Nat.reduceLeDiff]
  exact ⟨.inr trivial, _, rfl, Rn.same rfl⟩
end
theorem isSemiflowW (x : Nt) (kind : Int) (w : List Int) (K : Nat) (R : List (List Int)) (hT : PSpec Try.prog 39 [netV x, .int .i64 kind] (.tup [tabV K R, .int .i64 0])) (hK : K ≤ 10) (hw : w.length ≤ 1000) (h0 : wErr w K ≠ 0) :
    PSpec Try.prog 28 [netV x, .int .i64 kind, sli w] (.tup [.bool false, .int .i64 (wErr w K)]) := by
  refine PSpec.of_rn 64 ok28 rfl (by rw [noRefs, noRef_net]; simp only [noRefs, noRef, noRefs_ints]; rfl) rfl ?_
  have hwg := weighG w K (by omega) (by omega)
  simp (maxSteps := 1000000) (disch := first | omega | (simp only [lenW] <;> omega)) only [s28, wordsN, Int.reduceGT, wordsR, ne_eq, words, Nat.reduceAdd, Nat.reduceEqDiff, Nat.reduceBEq, ↓reduceIte, reduceCtorEq, SX.exit.injEq, if_true, if_false, Int.reduceAdd, Int.reduceSub, Int.reduceMul, Int.reduceLT, Int.reduceLE, Int.reduceEq, Int.reduceNe, Int.reduceNeg, Int.reduceToNat, Nat.reduceMul, Nat.reduceLT, Nat.reduceSub, Nat.reduceLeDiff]
  refine cp hT ?_
  simp (maxSteps := 1000000) (disch := first | omega | (simp only [lenW] <;> omega)) only [wordsN, Int.reduceGT, wordsR, ne_eq, words, Nat.reduceAdd, Nat.reduceEqDiff, Nat.reduceBEq, ↓reduceIte, reduceCtorEq, SX.exit.injEq, if_true, if_false, Int.reduceAdd, Int.reduceSub, Int.reduceMul, Int.reduceLT, Int.reduceLE, Int.reduceEq, Int.reduceNe, Int.reduceNeg, Int.reduceToNat, Nat.reduceMul, Nat.reduceLT, Nat.reduceSub, Nat.reduceLeDiff]
  refine cp hwg ?_
  simp (maxSteps := 1000000) (disch := first | omega | (simp only [lenW] <;> omega)) only [h0, wordsN, Int.reduceGT, wordsR, ne_eq, words, Nat.reduceAdd, Nat.reduceEqDiff, Nat.reduceBEq, ↓reduceIte, reduceCtorEq, SX.exit.injEq, if_true, if_false, Int.reduceAdd, Int.reduceSub, Int.reduceMul, Int.reduceLT, Int.reduceLE, Int.reduceEq, Int.reduceNe, Int.reduceNeg, Int.reduceToNat, Nat.reduceMul, Nat.reduceLT, Nat.reduceSub, Nat.reduceLeDiff]
  exact ⟨.inr trivial, _, rfl, Rn.same rfl⟩
def fewT (t : Tn) : Bool := decide (t.inn.length ≤ 5) && decide (t.out.length ≤ 5)
def fewR (x : Nt) : Bool := (x.tr.take 6).all fewT && (decide (x.ini.length ≤ 5) && decide (x.tr.length ≤ 5))
theorem fewR_few {x : Nt} (h : fewR x = true) : Few x := by
  simp only [fewR, Bool.and_eq_true, decide_eq_true_eq] at h
  obtain ⟨h1, h2, h3⟩ := h
  rw [List.take_of_length_le (by omega)] at h1
  have := fun t ht => (List.all_eq_true.1 h1 t ht)
  simp only [fewT, Bool.and_eq_true, decide_eq_true_eq] at this
  exact ⟨h2, h3, fun t ht => (this t ht).1, fun t ht => (this t ht).2⟩
set_option maxHeartbeats 4000000 in
theorem few36 (x : Nt) : PSpec Try.prog 36 [netV x] (.bool (fewR x)) := by
  refine PSpec.of_rn 64 SZ.ok36 rfl (by rw [noRefs, noRef_net]; rfl) rfl ?_
  simp (maxSteps := 1000000) (disch := first | omega | (simp only [lenW] <;> omega)) only [SZ.s36, wordsN, Int.reduceGT, wordsR, ne_eq, words, Nat.reduceAdd, Nat.reduceEqDiff, Nat.reduceBEq, ↓reduceIte, reduceCtorEq, SX.exit.injEq, if_true, if_false, Int.reduceAdd, Int.reduceSub, Int.reduceMul, Int.reduceLT, Int.reduceLE, Int.reduceEq, Int.reduceNe, Int.reduceNeg, Int.reduceToNat, Nat.reduceMul, Nat.reduceLT, Nat.reduceSub, Nat.reduceLeDiff]
  refine wS_loopX 100 (fun i : Nat => [(1, .ptr 51 0 0), (3, .int .i64 i)]) (fun _ => [(51, .cells 0 [sli x.ini, tns x.tr])]) (fun i => i ≤ 6 ∧ i ≤ x.tr.length ∧ ∀ (j : Nat) t, j < i → x.tr[j]? = some t → fewT t = true) (fun i => 6 - i) 0 0 200
    (fun _ : Unit => [(1, .ptr 51 0 0)]) (fun _ => [(51, .cells 0 [sli x.ini, tns x.tr])]) (fun _ => (x.tr.take 6).all fewT = true) ⟨[(51, .blk 64 0)], rfl, (by repeat (first | exact RO.zero | exact RO.e | refine RO.set rfl ?_)), (by repeat' (first | exact RB.nil | (refine RnL.same ?_; first | rfl | (simp only [noRef, noRefs, noRefs_append, Bool.and_self, Bool.and_true, Bool.true_and, noRefs_ints, noRefs_lsts, noRefs_pad, noRefs_tnC, noRefs_arcC, noRefs_rowF]; done)) | exact RnM.keyM rfl | exact RnL.nil | refine RnL.cons ?_ ?_ | (refine Rn.same ?_; first | rfl | (simp only [noRef, noRefs, noRefs_append, Bool.and_self, Bool.and_true, Bool.true_and, noRefs_ints, noRefs_lsts, noRefs_pad, noRefs_tnC, noRefs_arcC, noRefs_rowF]; done)) | exact Rn.x1 rfl rfl | exact Rn.x2 rfl rfl | exact Rn.x3 rfl rfl | exact Rn.x4 rfl rfl | exact Rn.x5 rfl | exact Rn.x6 rfl | exact Rn.x7 rfl | refine RB.newnil rfl rfl ?_ | refine RB.cells rfl rfl rfl ?_ ?_ | refine RB.map rfl rfl rfl ?_ ?_ | refine RB.cellsB rfl rfl ?_ ?_ | refine RB.mapB rfl rfl ?_ ?_)), (by repeat (first | exact RT.nil | (refine RT.cons ?_ ?_; · (first | exact Rn.any | exact Rn.x1 rfl rfl | exact Rn.x2 rfl rfl | exact Rn.x3 rfl rfl | exact Rn.x4 rfl rfl | exact Rn.x5 rfl | exact Rn.x6 rfl | exact Rn.x7 rfl | (refine Rn.slot ?_ ?_; (first | rfl | (rw [Int.natCast_add]; rfl)); (first | rfl | (simp only [noRef, noRefs, noRefs_append, Bool.and_self, Bool.and_true, Bool.true_and, noRefs_ints, noRefs_lsts, noRefs_pad, noRefs_tnC, noRefs_arcC, noRefs_rowF]; done))) | (refine Rn.fn ?_ ?_ <;> (repeat' (first | exact RnL.nil | refine RnL.cons ?_ ?_ | exact Rn.same rfl | exact Rn.x6 rfl | exact Rn.x2 rfl rfl | exact Rn.x5 rfl | exact Rn.x1 rfl rfl)))))))⟩ ⟨Nat.zero_le _, Nat.zero_le _, fun j y hj => absurd hj (Nat.not_lt_zero _)⟩ ?_ ?_
  · rintro i ⟨hi6, hi, hb⟩
    by_cases hlt : i < x.tr.length
    · by_cases h6 : i < 6
      · obtain ⟨t, ht⟩ := get_ex hlt
        have hd := drop_tns ht
        have h6' : (i : Int) < 6 := by omega
        have hbad : fewT t = false → fewR x = false := fun h => by
          have : (x.tr.take 6).all fewT = false := by
            rw [Bool.eq_false_iff]
            intro ha
            have := List.all_eq_true.1 ha t (List.mem_of_getElem? (by rw [List.getElem?_take_of_lt h6]; exact ht))
            rw [h] at this; cases this
          unfold fewR; rw [this]; rfl
        by_cases h1 : 5 < t.inn.length
        · have h1' : (5 : Int) < t.inn.length := by omega
          rw [hbad (by unfold fewT; rw [decide_eq_false (by omega)]; rfl)]
          simp (maxSteps := 1000000) (disch := first | omega | (simp only [lenW] <;> omega)) only [hlt, h6', hd, h1', wordsN, Int.reduceGT, wordsR, ne_eq, words, Nat.reduceAdd, Nat.reduceEqDiff, Nat.reduceBEq, ↓reduceIte, reduceCtorEq, SX.exit.injEq, if_true, if_false, Int.reduceAdd, Int.reduceSub, Int.reduceMul, Int.reduceLT, Int.reduceLE, Int.reduceEq, Int.reduceNe, Int.reduceNeg, Int.reduceToNat, Nat.reduceMul, Nat.reduceLT, Nat.reduceSub, Nat.reduceLeDiff]
          exact ⟨.inr trivial, _, rfl, Rn.same rfl⟩
        · have h1' : ¬ (5 : Int) < t.inn.length := by omega
          by_cases h2 : 5 < t.out.length
          · have h2' : (5 : Int) < t.out.length := by omega
            rw [hbad (by unfold fewT; rw [decide_eq_false (p := t.out.length ≤ 5) (by omega)]; simp)]
            simp (maxSteps := 1000000) (disch := first | omega | (simp only [lenW] <;> omega)) only [hlt, h6', hd, h1', h2', wordsN, Int.reduceGT, wordsR, ne_eq, words, Nat.reduceAdd, Nat.reduceEqDiff, Nat.reduceBEq, ↓reduceIte, reduceCtorEq, SX.exit.injEq, if_true, if_false, Int.reduceAdd, Int.reduceSub, Int.reduceMul, Int.reduceLT, Int.reduceLE, Int.reduceEq, Int.reduceNe, Int.reduceNeg, Int.reduceToNat, Nat.reduceMul, Nat.reduceLT, Nat.reduceSub, Nat.reduceLeDiff]
            exact ⟨.inr trivial, _, rfl, Rn.same rfl⟩
          · have h2' : ¬ (5 : Int) < t.out.length := by omega
            simp (maxSteps := 1000000) (disch := first | omega | (simp only [lenW] <;> omega)) only [hlt, h6', hd, h1', h2', wordsN, Int.reduceGT, wordsR, ne_eq, words, Nat.reduceAdd, Nat.reduceEqDiff, Nat.reduceBEq, ↓reduceIte, reduceCtorEq, SX.exit.injEq, if_true, if_false, Int.reduceAdd, Int.reduceSub, Int.reduceMul, Int.reduceLT, Int.reduceLE, Int.reduceEq, Int.reduceNe, Int.reduceNeg, Int.reduceToNat, Nat.reduceMul, Nat.reduceLT, Nat.reduceSub, Nat.reduceLeDiff]
            refine ⟨i + 1, by omega, ⟨by omega, by omega, fun j y hj hy => ?_⟩, ⟨[(51, .blk 51 0)], rfl, (by repeat (first | exact RO.zero | exact RO.e | refine RO.set rfl ?_)), (by repeat' (first | exact RB.nil | (refine RnL.same ?_; first | rfl | (simp only [noRef, noRefs, noRefs_append, Bool.and_self, Bool.and_true, Bool.true_and, noRefs_ints, noRefs_lsts, noRefs_pad, noRefs_tnC, noRefs_arcC, noRefs_rowF]; done)) | exact RnM.keyM rfl | exact RnL.nil | refine RnL.cons ?_ ?_ | (refine Rn.same ?_; first | rfl | (simp only [noRef, noRefs, noRefs_append, Bool.and_self, Bool.and_true, Bool.true_and, noRefs_ints, noRefs_lsts, noRefs_pad, noRefs_tnC, noRefs_arcC, noRefs_rowF]; done)) | exact Rn.x1 rfl rfl | exact Rn.x2 rfl rfl | exact Rn.x3 rfl rfl | exact Rn.x4 rfl rfl | exact Rn.x5 rfl | exact Rn.x6 rfl | exact Rn.x7 rfl | refine RB.newnil rfl rfl ?_ | refine RB.cells rfl rfl rfl ?_ ?_ | refine RB.map rfl rfl rfl ?_ ?_ | refine RB.cellsB rfl rfl ?_ ?_ | refine RB.mapB rfl rfl ?_ ?_)), (by repeat (first | exact RT.nil | (refine RT.cons ?_ ?_; · (first | exact Rn.any | exact Rn.x1 rfl rfl | exact Rn.x2 rfl rfl | exact Rn.x3 rfl rfl | exact Rn.x4 rfl rfl | exact Rn.x5 rfl | exact Rn.x6 rfl | exact Rn.x7 rfl | (refine Rn.slot ?_ ?_; (first | rfl | (rw [Int.natCast_add]; rfl)); (first | rfl | (simp only [noRef, noRefs, noRefs_append, Bool.and_self, Bool.and_true, Bool.true_and, noRefs_ints, noRefs_lsts, noRefs_pad, noRefs_tnC, noRefs_arcC, noRefs_rowF]; done))) | (refine Rn.fn ?_ ?_ <;> (repeat' (first | exact RnL.nil | refine RnL.cons ?_ ?_ | exact Rn.same rfl | exact Rn.x6 rfl | exact Rn.x2 rfl rfl | exact Rn.x5 rfl | exact Rn.x1 rfl rfl)))))))⟩⟩
            by_cases e : j = i
            · subst e; rw [ht] at hy; cases hy
              unfold fewT; rw [decide_eq_true (by omega), decide_eq_true (by omega)]; rfl
            · exact hb j y (by omega) hy
      · have h6' : ¬ (i : Int) < 6 := by omega
        simp (maxSteps := 1000000) (disch := first | omega | (simp only [lenW] <;> omega)) only [hlt, h6', wordsN, Int.reduceGT, wordsR, ne_eq, words, Nat.reduceAdd, Nat.reduceEqDiff, Nat.reduceBEq, ↓reduceIte, reduceCtorEq, SX.exit.injEq, if_true, if_false, Int.reduceAdd, Int.reduceSub, Int.reduceMul, Int.reduceLT, Int.reduceLE, Int.reduceEq, Int.reduceNe, Int.reduceNeg, Int.reduceToNat, Nat.reduceMul, Nat.reduceLT, Nat.reduceSub, Nat.reduceLeDiff]
        refine ⟨(), ?_, ⟨[(51, .blk 51 0)], rfl, (by repeat (first | exact RO.zero | exact RO.e | refine RO.set rfl ?_)), (by repeat' (first | exact RB.nil | (refine RnL.same ?_; first | rfl | (simp only [noRef, noRefs, noRefs_append, Bool.and_self, Bool.and_true, Bool.true_and, noRefs_ints, noRefs_lsts, noRefs_pad, noRefs_tnC, noRefs_arcC, noRefs_rowF]; done)) | exact RnM.keyM rfl | exact RnL.nil | refine RnL.cons ?_ ?_ | (refine Rn.same ?_; first | rfl | (simp only [noRef, noRefs, noRefs_append, Bool.and_self, Bool.and_true, Bool.true_and, noRefs_ints, noRefs_lsts, noRefs_pad, noRefs_tnC, noRefs_arcC, noRefs_rowF]; done)) | exact Rn.x1 rfl rfl | exact Rn.x2 rfl rfl | exact Rn.x3 rfl rfl | exact Rn.x4 rfl rfl | exact Rn.x5 rfl | exact Rn.x6 rfl | exact Rn.x7 rfl | refine RB.newnil rfl rfl ?_ | refine RB.cells rfl rfl rfl ?_ ?_ | refine RB.map rfl rfl rfl ?_ ?_ | refine RB.cellsB rfl rfl ?_ ?_ | refine RB.mapB rfl rfl ?_ ?_)), (by repeat (first | exact RT.nil | (refine RT.cons ?_ ?_; · (first | exact Rn.any | exact Rn.x1 rfl rfl | exact Rn.x2 rfl rfl | exact Rn.x3 rfl rfl | exact Rn.x4 rfl rfl | exact Rn.x5 rfl | exact Rn.x6 rfl | exact Rn.x7 rfl | (refine Rn.slot ?_ ?_; (first | rfl | (rw [Int.natCast_add]; rfl)); (first | rfl | (simp only [noRef, noRefs, noRefs_append, Bool.and_self, Bool.and_true, Bool.true_and, noRefs_ints, noRefs_lsts, noRefs_pad, noRefs_tnC, noRefs_arcC, noRefs_rowF]; done))) | (refine Rn.fn ?_ ?_ <;> (repeat' (first | exact RnL.nil | refine RnL.cons ?_ ?_ | exact Rn.same rfl | exact Rn.x6 rfl | exact Rn.x2 rfl rfl | exact Rn.x5 rfl | exact Rn.x1 rfl rfl)))))))⟩⟩
        rw [List.all_eq_true]
        intro t ht
        obtain ⟨j, hj, hjl⟩ := mem_at ht
        rw [List.length_take] at hjl
        rw [List.getElem?_take_of_lt (by omega)] at hj
        exact hb j t (by omega) hj
    · simp (maxSteps := 1000000) (disch := first | omega | (simp only [lenW] <;> omega)) only [hlt, wordsN, Int.reduceGT, wordsR, ne_eq, words, Nat.reduceAdd, Nat.reduceEqDiff, Nat.reduceBEq, ↓reduceIte, reduceCtorEq, SX.exit.injEq, if_true, if_false, Int.reduceAdd, Int.reduceSub, Int.reduceMul, Int.reduceLT, Int.reduceLE, Int.reduceEq, Int.reduceNe, Int.reduceNeg, Int.reduceToNat, Nat.reduceMul, Nat.reduceLT, Nat.reduceSub, Nat.reduceLeDiff]
      refine ⟨(), ?_, ⟨[(51, .blk 51 0)], rfl, (by repeat (first | exact RO.zero | exact RO.e | refine RO.set rfl ?_)), (by repeat' (first | exact RB.nil | (refine RnL.same ?_; first | rfl | (simp only [noRef, noRefs, noRefs_append, Bool.and_self, Bool.and_true, Bool.true_and, noRefs_ints, noRefs_lsts, noRefs_pad, noRefs_tnC, noRefs_arcC, noRefs_rowF]; done)) | exact RnM.keyM rfl | exact RnL.nil | refine RnL.cons ?_ ?_ | (refine Rn.same ?_; first | rfl | (simp only [noRef, noRefs, noRefs_append, Bool.and_self, Bool.and_true, Bool.true_and, noRefs_ints, noRefs_lsts, noRefs_pad, noRefs_tnC, noRefs_arcC, noRefs_rowF]; done)) | exact Rn.x1 rfl rfl | exact Rn.x2 rfl rfl | exact Rn.x3 rfl rfl | exact Rn.x4 rfl rfl | exact Rn.x5 rfl | exact Rn.x6 rfl | exact Rn.x7 rfl | refine RB.newnil rfl rfl ?_ | refine RB.cells rfl rfl rfl ?_ ?_ | refine RB.map rfl rfl rfl ?_ ?_ | refine RB.cellsB rfl rfl ?_ ?_ | refine RB.mapB rfl rfl ?_ ?_)), (by repeat (first | exact RT.nil | (refine RT.cons ?_ ?_; · (first | exact Rn.any | exact Rn.x1 rfl rfl | exact Rn.x2 rfl rfl | exact Rn.x3 rfl rfl | exact Rn.x4 rfl rfl | exact Rn.x5 rfl | exact Rn.x6 rfl | exact Rn.x7 rfl | (refine Rn.slot ?_ ?_; (first | rfl | (rw [Int.natCast_add]; rfl)); (first | rfl | (simp only [noRef, noRefs, noRefs_append, Bool.and_self, Bool.and_true, Bool.true_and, noRefs_ints, noRefs_lsts, noRefs_pad, noRefs_tnC, noRefs_arcC, noRefs_rowF]; done))) | (refine Rn.fn ?_ ?_ <;> (repeat' (first | exact RnL.nil | refine RnL.cons ?_ ?_ | exact Rn.same rfl | exact Rn.x6 rfl | exact Rn.x2 rfl rfl | exact Rn.x5 rfl | exact Rn.x1 rfl rfl)))))))⟩⟩
      rw [List.all_eq_true]
      intro t ht
      obtain ⟨j, hj, hjl⟩ := mem_at ht
      rw [List.length_take] at hjl
      rw [List.getElem?_take_of_lt (by omega)] at hj
      exact hb j t (by omega) hj
  rintro _ hall
  unfold fewR
  rw [hall, Bool.true_and]
  by_cases h1 : x.ini.length ≤ 5
  · have h1' : (x.ini.length : Int) ≤ 5 := by omega
    rw [decide_eq_true h1, Bool.true_and]
    by_cases h2 : x.tr.length ≤ 5
    · have h2' : (x.tr.length : Int) ≤ 5 := by omega
      rw [decide_eq_true h2]
      simp (maxSteps := 1000000) (disch := first | omega | (simp only [lenW] <;> omega)) only [h1', h2', wordsN, Int.reduceGT, wordsR, ne_eq, words, Nat.reduceAdd, Nat.reduceEqDiff, Nat.reduceBEq, ↓reduceIte, reduceCtorEq, SX.exit.injEq, if_true, if_false, Int.reduceAdd, Int.reduceSub, Int.reduceMul, Int.reduceLT, Int.reduceLE, Int.reduceEq, Int.reduceNe, Int.reduceNeg, Int.reduceToNat, Nat.reduceMul, Nat.reduceLT, Nat.reduceSub, Nat.reduceLeDiff]
      exact ⟨.inr trivial, _, rfl, Rn.same rfl⟩
    · have h2' : ¬ (x.tr.length : Int) ≤ 5 := by omega
      rw [decide_eq_false h2]
      simp (maxSteps := 1000000) (disch := first | omega | (simp only [lenW] <;> omega)) only [h1', h2', wordsN, Int.reduceGT, wordsR, ne_eq, words, Nat.reduceAdd, Nat.reduceEqDiff, Nat.reduceBEq, ↓reduceIte, reduceCtorEq, SX.exit.injEq, if_true, if_false, Int.reduceAdd, Int.reduceSub, Int.reduceMul, Int.reduceLT, Int.reduceLE, Int.reduceEq, Int.reduceNe, Int.reduceNeg, Int.reduceToNat, Nat.reduceMul, Nat.reduceLT, Nat.reduceSub, Nat.reduceLeDiff]
      exact ⟨.inr trivial, _, rfl, Rn.same rfl⟩
  · have h1' : ¬ (x.ini.length : Int) ≤ 5 := by omega
    rw [decide_eq_false h1, Bool.false_and]
    simp (maxSteps := 1000000) (disch := first | omega | (simp only [lenW] <;> omega)) only [h1', wordsN, Int.reduceGT, wordsR, ne_eq, words, Nat.reduceAdd, Nat.reduceEqDiff, Nat.reduceBEq, ↓reduceIte, reduceCtorEq, SX.exit.injEq, if_true, if_false, Int.reduceAdd, Int.reduceSub, Int.reduceMul, Int.reduceLT, Int.reduceLE, Int.reduceEq, Int.reduceNe, Int.reduceNeg, Int.reduceToNat, Nat.reduceMul, Nat.reduceLT, Nat.reduceSub, Nat.reduceLeDiff]
    exact ⟨.inr trivial, _, rfl, Rn.same rfl⟩
set_option maxHeartbeats 8000000 in
theorem law11 (x : Nt) (kind : Int) (w : List Int) (hw0 : w.length ≤ 9223372036854775807) :
    W2 Try.prog ⟨SZ.s11.n, 0⟩ SZ.s11.body (fun e B => (e = .normal ∨ e = .ret) ∧ resV B.T B.h SZ.s11.res = some [.bool true]) ⟨argT 0 [netV x, .int .i64 kind, sli w], .e⟩ := by
  refine (wpC.toW (n := 64) (Q := fun e T h _ => (e = .normal ∨ e = .ret) ∧ resV T h SZ.s11.res = some [.bool true]) (show wS Try.prog ⟨SZ.s11.n, 0⟩ SZ.s11.body [] 64 _ _ _ from ?_)).mono fun e B ⟨_, h⟩ => h
  have h36 := few36 x
  simp (maxSteps := 1000000) (disch := first | omega | (simp only [lenW] <;> omega)) only [SZ.s11, wordsN, Int.reduceGT, wordsR, ne_eq, words, Nat.reduceAdd, Nat.reduceEqDiff, Nat.reduceBEq, ↓reduceIte, reduceCtorEq, SX.exit.injEq, if_true, if_false, Int.reduceAdd, Int.reduceSub, Int.reduceMul, Int.reduceLT, Int.reduceLE, Int.reduceEq, Int.reduceNe, Int.reduceNeg, Int.reduceToNat, Nat.reduceMul, Nat.reduceLT, Nat.reduceSub, Nat.reduceLeDiff]
  refine cp known ?_
  simp (maxSteps := 1000000) (disch := first | omega | (simp only [lenW] <;> omega)) only [wordsN, Int.reduceGT, wordsR, ne_eq, words, Nat.reduceAdd, Nat.reduceEqDiff, Nat.reduceBEq, ↓reduceIte, reduceCtorEq, SX.exit.injEq, if_true, if_false, Int.reduceAdd, Int.reduceSub, Int.reduceMul, Int.reduceLT, Int.reduceLE, Int.reduceEq, Int.reduceNe, Int.reduceNeg, Int.reduceToNat, Nat.reduceMul, Nat.reduceLT, Nat.reduceSub, Nat.reduceLeDiff]
  refine cp h36 ?_
  cases hfew : fewR x with
  | false =>
    simp (maxSteps := 1000000) (disch := first | omega | (simp only [lenW] <;> omega)) only [wordsN, Int.reduceGT, wordsR, ne_eq, words, Nat.reduceAdd, Nat.reduceEqDiff, Nat.reduceBEq, ↓reduceIte, reduceCtorEq, SX.exit.injEq, if_true, if_false, Int.reduceAdd, Int.reduceSub, Int.reduceMul, Int.reduceLT, Int.reduceLE, Int.reduceEq, Int.reduceNe, Int.reduceNeg, Int.reduceToNat, Nat.reduceMul, Nat.reduceLT, Nat.reduceSub, Nat.reduceLeDiff]
    refine cp known ?_
    simp (maxSteps := 1000000) (disch := first | omega | (simp only [lenW] <;> omega)) only [wordsN, Int.reduceGT, wordsR, ne_eq, words, Nat.reduceAdd, Nat.reduceEqDiff, Nat.reduceBEq, ↓reduceIte, reduceCtorEq, SX.exit.injEq, if_true, if_false, Int.reduceAdd, Int.reduceSub, Int.reduceMul, Int.reduceLT, Int.reduceLE, Int.reduceEq, Int.reduceNe, Int.reduceNeg, Int.reduceToNat, Nat.reduceMul, Nat.reduceLT, Nat.reduceSub, Nat.reduceLeDiff]
    exact ⟨.inr trivial, rfl⟩
  | true =>
    have hf := fewR_few hfew
    by_cases hw6 : 6 < w.length
    · have hw6' : (6 : Int) < w.length := by omega
      simp (maxSteps := 1000000) (disch := first | omega | (simp only [lenW] <;> omega)) only [hw6', wordsN, Int.reduceGT, wordsR, ne_eq, words, Nat.reduceAdd, Nat.reduceEqDiff, Nat.reduceBEq, ↓reduceIte, reduceCtorEq, SX.exit.injEq, if_true, if_false, Int.reduceAdd, Int.reduceSub, Int.reduceMul, Int.reduceLT, Int.reduceLE, Int.reduceEq, Int.reduceNe, Int.reduceNeg, Int.reduceToNat, Nat.reduceMul, Nat.reduceLT, Nat.reduceSub, Nat.reduceLeDiff]
      refine cp known ?_
      simp (maxSteps := 1000000) (disch := first | omega | (simp only [lenW] <;> omega)) only [wordsN, Int.reduceGT, wordsR, ne_eq, words, Nat.reduceAdd, Nat.reduceEqDiff, Nat.reduceBEq, ↓reduceIte, reduceCtorEq, SX.exit.injEq, if_true, if_false, Int.reduceAdd, Int.reduceSub, Int.reduceMul, Int.reduceLT, Int.reduceLE, Int.reduceEq, Int.reduceNe, Int.reduceNeg, Int.reduceToNat, Nat.reduceMul, Nat.reduceLT, Nat.reduceSub, Nat.reduceLeDiff]
      exact ⟨.inr trivial, rfl⟩
    have hw6' : ¬ (6 : Int) < w.length := by omega
    have hck := checkG x hf
    by_cases h0 : netE x = 0
    · have hN := netE_ok hf h0
      rw [h0] at hck
      simp (maxSteps := 1000000) (disch := first | omega | (simp only [lenW] <;> omega)) only [hw6', wordsN, Int.reduceGT, wordsR, ne_eq, words, Nat.reduceAdd, Nat.reduceEqDiff, Nat.reduceBEq, ↓reduceIte, reduceCtorEq, SX.exit.injEq, if_true, if_false, Int.reduceAdd, Int.reduceSub, Int.reduceMul, Int.reduceLT, Int.reduceLE, Int.reduceEq, Int.reduceNe, Int.reduceNeg, Int.reduceToNat, Nat.reduceMul, Nat.reduceLT, Nat.reduceSub, Nat.reduceLeDiff]
      refine cp hck ?_
      simp (maxSteps := 1000000) (disch := first | omega | (simp only [lenW] <;> omega)) only [wordsN, Int.reduceGT, wordsR, ne_eq, words, Nat.reduceAdd, Nat.reduceEqDiff, Nat.reduceBEq, ↓reduceIte, reduceCtorEq, SX.exit.injEq, if_true, if_false, Int.reduceAdd, Int.reduceSub, Int.reduceMul, Int.reduceLT, Int.reduceLE, Int.reduceEq, Int.reduceNe, Int.reduceNeg, Int.reduceToNat, Nat.reduceMul, Nat.reduceLT, Nat.reduceSub, Nat.reduceLeDiff]
      refine cp (invIncidence x hN) ?_
      by_cases hk : kind = 1 ∨ kind = 2
      · have hp5 := hf.places
        have ht5 := hf.trans
        have hT := newTable x hN kind hk
        have hK5 : tabC x kind ≤ 5 := by unfold tabC; split <;> omega
        have hR5 : (tabR x kind).length ≤ 100 := by unfold tabR; split <;> simp [colM, incM] <;> omega
        have hRk := tabR_len x kind
        have hRb : ∀ r ∈ tabR x kind, ∀ y ∈ r, -8 ≤ y ∧ y ≤ 8 := tabR_all (q := fun r => ∀ y ∈ r, -8 ≤ y ∧ y ≤ 8) kind (fun p => incR_bound hN p) (fun t => colR_bound hN t)
        have hW : ∀ f ∈ minF (tabR x kind) (tabC x kind) (tabC x kind), ∀ i, i < tabC x kind → f.2 i ≤ 65536 := fun f hf i _ =>
          ((minF_prop8 hK5 hRk (fun r hr y hy => by have := hRb r hr y hy; omega) hf).1 i).2
        have hmin := MinimalT x kind _ _ hT hK5 hR5 hRk hRb hW
        have hcov := CoveredT x kind _ _ hT hK5 hR5 hRk hRb
        have hver := VerifyT x kind _ _ hT hK5 hR5 hRk hRb hW [w] (by simp) (fun y hy => by simp at hy; subst hy; omega)
        have hsemi : ∃ b, PSpec Try.prog 28 [netV x, .int .i64 kind, sli w] (.tup [.bool b, .int .i64 (wErr w (tabC x kind))]) ∧ (wErr w (tabC x kind) ≠ 0 → b = false) := by
          by_cases h : wErr w (tabC x kind) = 0
          · obtain ⟨q1, q2⟩ := wErr_ok h
            refine ⟨flowsR (tabR x kind) w, ?_, fun h2 => absurd h h2⟩
            rw [h]
            exact isSemiflow x kind w _ _ hT (by omega) (by omega) q1 hRk (fun r hr y hy => by have := hRb r hr y hy; unfold sm; omega) q2
          · exact ⟨false, isSemiflowW x kind w _ _ hT (by omega) (by omega) h, fun _ => rfl⟩
        obtain ⟨b, hsemi, hsb⟩ := hsemi
        have hcw := checkWeights w (tabC x kind) (by omega) (by omega)
        have hvE : wErr w (tabC x kind) ≠ 0 → verR (tabC x kind) (minL (tabR x kind) (tabC x kind)) [w] = wErr w (tabC x kind) := fun h => by
          have : fstErr (tabC x kind) [w] = wErr w (tabC x kind) := by rw [fstErr, if_neg h]
          unfold verR; rw [this, if_neg h]
        have hC : (tabC x kind : Int) = if kind = 1 then (x.ini.length : Int) else (x.tr.length : Int) := by unfold tabC; split <;> rfl
        generalize verR (tabC x kind) (minL (tabR x kind) (tabC x kind)) [w] = ve at hver hvE
        generalize listR (tabC x kind) (minF (tabR x kind) (tabC x kind) (tabC x kind)) = M at hmin
        generalize decide (covR (minF (tabR x kind) (tabC x kind) (tabC x kind)) = 2 ^ tabC x kind - 1) = cv at hcov
        generalize wErr w (tabC x kind) = we at hcw hsemi hvE hsb
        have finish : ∀ (K : Int), K = (tabC x kind : Nat) → PSpec Try.prog 19 [sli w, .int .i64 K] (.int .i64 we) := fun K h => by rw [h]; exact hcw
        rw [hC] at finish
        rcases hk with rfl | rfl
        · have hcw2 := finish x.ini.length rfl
          simp (maxSteps := 1000000) (disch := first | omega | (simp only [lenW] <;> omega)) only [wordsN, Int.reduceGT, wordsR, ne_eq, words, Nat.reduceAdd, Nat.reduceEqDiff, Nat.reduceBEq, ↓reduceIte, reduceCtorEq, SX.exit.injEq, if_true, if_false, Int.reduceAdd, Int.reduceSub, Int.reduceMul, Int.reduceLT, Int.reduceLE, Int.reduceEq, Int.reduceNe, Int.reduceNeg, Int.reduceToNat, Nat.reduceMul, Nat.reduceLT, Nat.reduceSub, Nat.reduceLeDiff]
          refine cp hsemi ?_
          simp (maxSteps := 1000000) (disch := first | omega | (simp only [lenW] <;> omega)) only [wordsN, Int.reduceGT, wordsR, ne_eq, words, Nat.reduceAdd, Nat.reduceEqDiff, Nat.reduceBEq, ↓reduceIte, reduceCtorEq, SX.exit.injEq, if_true, if_false, Int.reduceAdd, Int.reduceSub, Int.reduceMul, Int.reduceLT, Int.reduceLE, Int.reduceEq, Int.reduceNe, Int.reduceNeg, Int.reduceToNat, Nat.reduceMul, Nat.reduceLT, Nat.reduceSub, Nat.reduceLeDiff]
          refine cp hmin ?_
          simp (maxSteps := 1000000) (disch := first | omega | (simp only [lenW] <;> omega)) only [wordsN, Int.reduceGT, wordsR, ne_eq, words, Nat.reduceAdd, Nat.reduceEqDiff, Nat.reduceBEq, ↓reduceIte, reduceCtorEq, SX.exit.injEq, if_true, if_false, Int.reduceAdd, Int.reduceSub, Int.reduceMul, Int.reduceLT, Int.reduceLE, Int.reduceEq, Int.reduceNe, Int.reduceNeg, Int.reduceToNat, Nat.reduceMul, Nat.reduceLT, Nat.reduceSub, Nat.reduceLeDiff]
          refine cp hcov ?_
          simp (maxSteps := 1000000) (disch := first | omega | (simp only [lenW] <;> omega)) only [aBuildSlice_frz, wZ_some, wordsN, Int.reduceGT, wordsR, ne_eq, words, Nat.reduceAdd, Nat.reduceEqDiff, Nat.reduceBEq, ↓reduceIte, reduceCtorEq, SX.exit.injEq, if_true, if_false, Int.reduceAdd, Int.reduceSub, Int.reduceMul, Int.reduceLT, Int.reduceLE, Int.reduceEq, Int.reduceNe, Int.reduceNeg, Int.reduceToNat, Nat.reduceMul, Nat.reduceLT, Nat.reduceSub, Nat.reduceLeDiff]
          refine cp hver ?_
          simp (maxSteps := 1000000) (disch := first | omega | (simp only [lenW] <;> omega)) only [wordsN, Int.reduceGT, wordsR, ne_eq, words, Nat.reduceAdd, Nat.reduceEqDiff, Nat.reduceBEq, ↓reduceIte, reduceCtorEq, SX.exit.injEq, if_true, if_false, Int.reduceAdd, Int.reduceSub, Int.reduceMul, Int.reduceLT, Int.reduceLE, Int.reduceEq, Int.reduceNe, Int.reduceNeg, Int.reduceToNat, Nat.reduceMul, Nat.reduceLT, Nat.reduceSub, Nat.reduceLeDiff]
          refine cp hcw2 ?_
          by_cases hwe : we = 0
          · simp (maxSteps := 1000000) (disch := first | omega | (simp only [lenW] <;> omega)) only [hwe, wordsN, Int.reduceGT, wordsR, ne_eq, words, Nat.reduceAdd, Nat.reduceEqDiff, Nat.reduceBEq, ↓reduceIte, reduceCtorEq, SX.exit.injEq, if_true, if_false, Int.reduceAdd, Int.reduceSub, Int.reduceMul, Int.reduceLT, Int.reduceLE, Int.reduceEq, Int.reduceNe, Int.reduceNeg, Int.reduceToNat, Nat.reduceMul, Nat.reduceLT, Nat.reduceSub, Nat.reduceLeDiff]
            exact ⟨.inr trivial, rfl⟩
          · rw [hvE hwe, hsb hwe]
            simp (maxSteps := 1000000) (disch := first | omega | (simp only [lenW] <;> omega)) only [hwe, wordsN, Int.reduceGT, wordsR, ne_eq, words, Nat.reduceAdd, Nat.reduceEqDiff, Nat.reduceBEq, ↓reduceIte, reduceCtorEq, SX.exit.injEq, if_true, if_false, Int.reduceAdd, Int.reduceSub, Int.reduceMul, Int.reduceLT, Int.reduceLE, Int.reduceEq, Int.reduceNe, Int.reduceNeg, Int.reduceToNat, Nat.reduceMul, Nat.reduceLT, Nat.reduceSub, Nat.reduceLeDiff]
            exact ⟨.inr trivial, rfl⟩
        · have hcw2 := finish x.tr.length rfl
          simp (maxSteps := 1000000) (disch := first | omega | (simp only [lenW] <;> omega)) only [wordsN, Int.reduceGT, wordsR, ne_eq, words, Nat.reduceAdd, Nat.reduceEqDiff, Nat.reduceBEq, ↓reduceIte, reduceCtorEq, SX.exit.injEq, if_true, if_false, Int.reduceAdd, Int.reduceSub, Int.reduceMul, Int.reduceLT, Int.reduceLE, Int.reduceEq, Int.reduceNe, Int.reduceNeg, Int.reduceToNat, Nat.reduceMul, Nat.reduceLT, Nat.reduceSub, Nat.reduceLeDiff]
          refine cp hsemi ?_
          simp (maxSteps := 1000000) (disch := first | omega | (simp only [lenW] <;> omega)) only [wordsN, Int.reduceGT, wordsR, ne_eq, words, Nat.reduceAdd, Nat.reduceEqDiff, Nat.reduceBEq, ↓reduceIte, reduceCtorEq, SX.exit.injEq, if_true, if_false, Int.reduceAdd, Int.reduceSub, Int.reduceMul, Int.reduceLT, Int.reduceLE, Int.reduceEq, Int.reduceNe, Int.reduceNeg, Int.reduceToNat, Nat.reduceMul, Nat.reduceLT, Nat.reduceSub, Nat.reduceLeDiff]
          refine cp hmin ?_
          simp (maxSteps := 1000000) (disch := first | omega | (simp only [lenW] <;> omega)) only [wordsN, Int.reduceGT, wordsR, ne_eq, words, Nat.reduceAdd, Nat.reduceEqDiff, Nat.reduceBEq, ↓reduceIte, reduceCtorEq, SX.exit.injEq, if_true, if_false, Int.reduceAdd, Int.reduceSub, Int.reduceMul, Int.reduceLT, Int.reduceLE, Int.reduceEq, Int.reduceNe, Int.reduceNeg, Int.reduceToNat, Nat.reduceMul, Nat.reduceLT, Nat.reduceSub, Nat.reduceLeDiff]
          refine cp hcov ?_
          simp (maxSteps := 1000000) (disch := first | omega | (simp only [lenW] <;> omega)) only [aBuildSlice_frz, wZ_some, wordsN, Int.reduceGT, wordsR, ne_eq, words, Nat.reduceAdd, Nat.reduceEqDiff, Nat.reduceBEq, ↓reduceIte, reduceCtorEq, SX.exit.injEq, if_true, if_false, Int.reduceAdd, Int.reduceSub, Int.reduceMul, Int.reduceLT, Int.reduceLE, Int.reduceEq, Int.reduceNe, Int.reduceNeg, Int.reduceToNat, Nat.reduceMul, Nat.reduceLT, Nat.reduceSub, Nat.reduceLeDiff]
          refine cp hver ?_
          simp (maxSteps := 1000000) (disch := first | omega | (simp only [lenW] <;> omega)) only [wordsN, Int.reduceGT, wordsR, ne_eq, words, Nat.reduceAdd, Nat.reduceEqDiff, Nat.reduceBEq, ↓reduceIte, reduceCtorEq, SX.exit.injEq, if_true, if_false, Int.reduceAdd, Int.reduceSub, Int.reduceMul, Int.reduceLT, Int.reduceLE, Int.reduceEq, Int.reduceNe, Int.reduceNeg, Int.reduceToNat, Nat.reduceMul, Nat.reduceLT, Nat.reduceSub, Nat.reduceLeDiff]
          refine cp hcw2 ?_
          by_cases hwe : we = 0
          · simp (maxSteps := 1000000) (disch := first | omega | (simp only [lenW] <;> omega)) only [hwe, wordsN, Int.reduceGT, wordsR, ne_eq, words, Nat.reduceAdd, Nat.reduceEqDiff, Nat.reduceBEq, ↓reduceIte, reduceCtorEq, SX.exit.injEq, if_true, if_false, Int.reduceAdd, Int.reduceSub, Int.reduceMul, Int.reduceLT, Int.reduceLE, Int.reduceEq, Int.reduceNe, Int.reduceNeg, Int.reduceToNat, Nat.reduceMul, Nat.reduceLT, Nat.reduceSub, Nat.reduceLeDiff]
            exact ⟨.inr trivial, rfl⟩
          · rw [hvE hwe, hsb hwe]
            simp (maxSteps := 1000000) (disch := first | omega | (simp only [lenW] <;> omega)) only [hwe, wordsN, Int.reduceGT, wordsR, ne_eq, words, Nat.reduceAdd, Nat.reduceEqDiff, Nat.reduceBEq, ↓reduceIte, reduceCtorEq, SX.exit.injEq, if_true, if_false, Int.reduceAdd, Int.reduceSub, Int.reduceMul, Int.reduceLT, Int.reduceLE, Int.reduceEq, Int.reduceNe, Int.reduceNeg, Int.reduceToNat, Nat.reduceMul, Nat.reduceLT, Nat.reduceSub, Nat.reduceLeDiff]
            exact ⟨.inr trivial, rfl⟩
      · have hk1 : kind ≠ 1 := fun h => hk (.inl h)
        have hk2 : kind ≠ 2 := fun h => hk (.inr h)
        have hT := newTableK x hN kind hk1 hk2
        simp (maxSteps := 1000000) (disch := first | omega | (simp only [lenW] <;> omega)) only [hk1, hk2, wordsN, Int.reduceGT, wordsR, ne_eq, words, Nat.reduceAdd, Nat.reduceEqDiff, Nat.reduceBEq, ↓reduceIte, reduceCtorEq, SX.exit.injEq, if_true, if_false, Int.reduceAdd, Int.reduceSub, Int.reduceMul, Int.reduceLT, Int.reduceLE, Int.reduceEq, Int.reduceNe, Int.reduceNeg, Int.reduceToNat, Nat.reduceMul, Nat.reduceLT, Nat.reduceSub, Nat.reduceLeDiff]
        refine cp (isSemiflowE hT (by decide) w) ?_
        simp (maxSteps := 1000000) (disch := first | omega | (simp only [lenW] <;> omega)) only [wordsN, Int.reduceGT, wordsR, ne_eq, words, Nat.reduceAdd, Nat.reduceEqDiff, Nat.reduceBEq, ↓reduceIte, reduceCtorEq, SX.exit.injEq, if_true, if_false, Int.reduceAdd, Int.reduceSub, Int.reduceMul, Int.reduceLT, Int.reduceLE, Int.reduceEq, Int.reduceNe, Int.reduceNeg, Int.reduceToNat, Nat.reduceMul, Nat.reduceLT, Nat.reduceSub, Nat.reduceLeDiff]
        refine cp (MinimalE hT (by decide)) ?_
        simp (maxSteps := 1000000) (disch := first | omega | (simp only [lenW] <;> omega)) only [wordsN, Int.reduceGT, wordsR, ne_eq, words, Nat.reduceAdd, Nat.reduceEqDiff, Nat.reduceBEq, ↓reduceIte, reduceCtorEq, SX.exit.injEq, if_true, if_false, Int.reduceAdd, Int.reduceSub, Int.reduceMul, Int.reduceLT, Int.reduceLE, Int.reduceEq, Int.reduceNe, Int.reduceNeg, Int.reduceToNat, Nat.reduceMul, Nat.reduceLT, Nat.reduceSub, Nat.reduceLeDiff]
        refine cp (CoveredE hT (by decide)) ?_
        simp (maxSteps := 1000000) (disch := first | omega | (simp only [lenW] <;> omega)) only [aBuildSlice_frz, wZ_some, wordsN, Int.reduceGT, wordsR, ne_eq, words, Nat.reduceAdd, Nat.reduceEqDiff, Nat.reduceBEq, ↓reduceIte, reduceCtorEq, SX.exit.injEq, if_true, if_false, Int.reduceAdd, Int.reduceSub, Int.reduceMul, Int.reduceLT, Int.reduceLE, Int.reduceEq, Int.reduceNe, Int.reduceNeg, Int.reduceToNat, Nat.reduceMul, Nat.reduceLT, Nat.reduceSub, Nat.reduceLeDiff]
        refine cp (VerifyE hT (by decide) [w]) ?_
        simp (maxSteps := 1000000) (disch := first | omega | (simp only [lenW] <;> omega)) only [wordsN, Int.reduceGT, wordsR, ne_eq, words, Nat.reduceAdd, Nat.reduceEqDiff, Nat.reduceBEq, ↓reduceIte, reduceCtorEq, SX.exit.injEq, if_true, if_false, Int.reduceAdd, Int.reduceSub, Int.reduceMul, Int.reduceLT, Int.reduceLE, Int.reduceEq, Int.reduceNe, Int.reduceNeg, Int.reduceToNat, Nat.reduceMul, Nat.reduceLT, Nat.reduceSub, Nat.reduceLeDiff]
        exact ⟨.inr trivial, rfl⟩
    · have hT := newTableE x hf h0 kind
      simp (maxSteps := 1000000) (disch := first | omega | (simp only [lenW] <;> omega)) only [hw6', wordsN, Int.reduceGT, wordsR, ne_eq, words, Nat.reduceAdd, Nat.reduceEqDiff, Nat.reduceBEq, ↓reduceIte, reduceCtorEq, SX.exit.injEq, if_true, if_false, Int.reduceAdd, Int.reduceSub, Int.reduceMul, Int.reduceLT, Int.reduceLE, Int.reduceEq, Int.reduceNe, Int.reduceNeg, Int.reduceToNat, Nat.reduceMul, Nat.reduceLT, Nat.reduceSub, Nat.reduceLeDiff]
      refine cp hck ?_
      simp (maxSteps := 1000000) (disch := first | omega | (simp only [lenW] <;> omega)) only [wordsN, Int.reduceGT, wordsR, ne_eq, words, Nat.reduceAdd, Nat.reduceEqDiff, Nat.reduceBEq, ↓reduceIte, reduceCtorEq, SX.exit.injEq, if_true, if_false, Int.reduceAdd, Int.reduceSub, Int.reduceMul, Int.reduceLT, Int.reduceLE, Int.reduceEq, Int.reduceNe, Int.reduceNeg, Int.reduceToNat, Nat.reduceMul, Nat.reduceLT, Nat.reduceSub, Nat.reduceLeDiff]
      refine cp (invIncE x hf h0) ?_
      simp (maxSteps := 1000000) (disch := first | omega | (simp only [lenW] <;> omega)) only [h0, wordsN, Int.reduceGT, wordsR, ne_eq, words, Nat.reduceAdd, Nat.reduceEqDiff, Nat.reduceBEq, ↓reduceIte, reduceCtorEq, SX.exit.injEq, if_true, if_false, Int.reduceAdd, Int.reduceSub, Int.reduceMul, Int.reduceLT, Int.reduceLE, Int.reduceEq, Int.reduceNe, Int.reduceNeg, Int.reduceToNat, Nat.reduceMul, Nat.reduceLT, Nat.reduceSub, Nat.reduceLeDiff]
      refine cp (isSemiflowE hT h0 w) ?_
      simp (maxSteps := 1000000) (disch := first | omega | (simp only [lenW] <;> omega)) only [wordsN, Int.reduceGT, wordsR, ne_eq, words, Nat.reduceAdd, Nat.reduceEqDiff, Nat.reduceBEq, ↓reduceIte, reduceCtorEq, SX.exit.injEq, if_true, if_false, Int.reduceAdd, Int.reduceSub, Int.reduceMul, Int.reduceLT, Int.reduceLE, Int.reduceEq, Int.reduceNe, Int.reduceNeg, Int.reduceToNat, Nat.reduceMul, Nat.reduceLT, Nat.reduceSub, Nat.reduceLeDiff]
      refine cp (MinimalE hT h0) ?_
      simp (maxSteps := 1000000) (disch := first | omega | (simp only [lenW] <;> omega)) only [wordsN, Int.reduceGT, wordsR, ne_eq, words, Nat.reduceAdd, Nat.reduceEqDiff, Nat.reduceBEq, ↓reduceIte, reduceCtorEq, SX.exit.injEq, if_true, if_false, Int.reduceAdd, Int.reduceSub, Int.reduceMul, Int.reduceLT, Int.reduceLE, Int.reduceEq, Int.reduceNe, Int.reduceNeg, Int.reduceToNat, Nat.reduceMul, Nat.reduceLT, Nat.reduceSub, Nat.reduceLeDiff]
      refine cp (CoveredE hT h0) ?_
      simp (maxSteps := 1000000) (disch := first | omega | (simp only [lenW] <;> omega)) only [aBuildSlice_frz, wZ_some, wordsN, Int.reduceGT, wordsR, ne_eq, words, Nat.reduceAdd, Nat.reduceEqDiff, Nat.reduceBEq, ↓reduceIte, reduceCtorEq, SX.exit.injEq, if_true, if_false, Int.reduceAdd, Int.reduceSub, Int.reduceMul, Int.reduceLT, Int.reduceLE, Int.reduceEq, Int.reduceNe, Int.reduceNeg, Int.reduceToNat, Nat.reduceMul, Nat.reduceLT, Nat.reduceSub, Nat.reduceLeDiff]
      refine cp (VerifyE hT h0 [w]) ?_
      simp (maxSteps := 1000000) (disch := first | omega | (simp only [lenW] <;> omega)) only [h0, wordsN, Int.reduceGT, wordsR, ne_eq, words, Nat.reduceAdd, Nat.reduceEqDiff, Nat.reduceBEq, ↓reduceIte, reduceCtorEq, SX.exit.injEq, if_true, if_false, Int.reduceAdd, Int.reduceSub, Int.reduceMul, Int.reduceLT, Int.reduceLE, Int.reduceEq, Int.reduceNe, Int.reduceNeg, Int.reduceToNat, Nat.reduceMul, Nat.reduceLT, Nat.reduceSub, Nat.reduceLeDiff]
      exact ⟨.inr trivial, rfl⟩
abbrev tyArc : Ty := .st (.pair (.int .i64) (.pair (.int .i64) .unit))
abbrev tyTn : Ty := .st (.pair (.int .i64) (.pair (.sl tyArc) (.pair (.sl tyArc) .unit)))
abbrev tyNet : Ty := .st (.pair (.sl (.int .i64)) (.pair (.sl tyTn) .unit))
def arcOf (d : tyArc.D) : Int × Int := (d.1, d.2.1)
def tnOf (d : tyTn.D) : Tn := ⟨d.1, (show List tyArc.D from d.2.1).map arcOf, (show List tyArc.D from d.2.2.1).map arcOf⟩
theorem arcs_in : ∀ l : List tyArc.D, l.flatMap tyArc.cells = (l.map arcOf).flatMap arcC
  | [] => rfl
  | a :: l => by rw [List.flatMap_cons, arcs_in l]; rfl
theorem tns_in : ∀ l : List tyTn.D, l.flatMap tyTn.cells = (l.map tnOf).flatMap tnC
  | [] => rfl
  | t :: l => by
    rw [List.flatMap_cons, tns_in l, List.map_cons, List.flatMap_cons]
    congr 1
    obtain ⟨e, i, o, _⟩ := t
    show [AV.int .i64 e, .fsl (List.flatMap tyArc.cells i) (List.length i) 2, .fsl (List.flatMap tyArc.cells o) (List.length o) 2] = [.int .i64 e, arcs (List.map arcOf i), arcs (List.map arcOf o)]
    rw [arcs_in i, arcs_in o]
    simp only [arcs, List.length_map]
theorem net_in (d : tyNet.D) : ∃ x : Nt, tyNet.val d = netV x := by
  obtain ⟨i, t, _⟩ := d
  refine ⟨⟨i, (show List tyTn.D from t).map tnOf⟩, ?_⟩
  show AV.agg [.fsl (List.flatMap (Ty.cells (.int .i64)) i) (List.length i) 1, .fsl (List.flatMap tyTn.cells t) (List.length t) 3] = _
  rw [tns_in t]
  have : ∀ l : List Int, l.flatMap (Ty.cells (.int .i64)) = ints l := by
    intro l
    induction l with
    | nil => rfl
    | cons x l ih => rw [List.flatMap_cons, ih]; rfl
  rw [this i]
  simp only [netV, sli, tns, List.length_map]
theorem law11_in (d0 : tyNet.D) (d1 : (Ty.int .i64).D) (d2 : (Ty.sl (.int .i64)).D) (h0 : tyNet.wf d0) (h1 : (Ty.int .i64).wf d1) (h2 : (Ty.sl (.int .i64)).wf d2) :
    W2 Try.prog ⟨SZ.s11.n, 0⟩ SZ.s11.body (fun e B => (e = .normal ∨ e = .ret) ∧ resV B.T B.h SZ.s11.res = some [.bool true]) ⟨argT 0 [tyNet.val d0, (Ty.int .i64).val d1, (Ty.sl (.int .i64)).val d2], .e⟩ := by
  obtain ⟨x, e0⟩ := net_in d0
  obtain ⟨m, hm, e2⟩ := sli_in h2
  rw [e0, e2]
  exact law11 x d1 m hm
end Go.AM.SN
