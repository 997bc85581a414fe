/- Contracts for nets: newTable for transitions. Conditions: none of ours. -/
import Derived.Test.YteaeobmbfhaklaaAmNf
import Derived.Test.YteaeobmbfhaklaaAmQd
namespace Go.AM.SN
open Go.Proofs
set_option maxRecDepth 100000
set_option linter.unusedSimpArgs false
set_option linter.unusedVariables false
theorem ints_len (l : List Int) : (ints l).length = l.length := by simp [ints]

set_option maxHeartbeats 8000000 in
theorem newTable2 (x : Nt) (ho : NetOk x) : PSpec Try.prog 39 [netV x, .int .i64 2] (.tup [tabV (tabC x 2) (tabR x 2), .int .i64 0]) := by
  refine PSpec.of_rn 64 ok39 rfl (by rw [noRefs, noRef_net]; rfl) (by simp only [noRef, noRefs, noRefs_pad]; rfl) ?_
  have hp := ho.places
  have ht := ho.trans
  simp (config := { maxSteps := 1000000 }) (disch := first | omega | (simp only [List.length_map, List.length_append, List.length_cons, List.length_nil, ints_len] <;> omega)) only [s39, wordsN, Int.reduceGT, wordsR, ne_eq, words, Nat.reduceAdd, Nat.reduceEqDiff, Nat.reduceBEq, ↓reduceIte, reduceCtorEq, SX.exit.injEq, if_true, if_false, Int.reduceAdd, Int.reduceSub, Int.reduceMul, Int.reduceLT, Int.reduceLE, Int.reduceEq, Int.reduceNe, Int.reduceNeg, Int.reduceToNat, Nat.reduceMul, Nat.reduceLT, Nat.reduceSub, Nat.reduceLeDiff]
  refine cp (netIncidence x ho) ?_
  have hc1 : (80 : Int) * (x.tr.length : Int) ≤ 1099511627776 := by omega
  have hc3 : (x.tr.length : Int) ≤ 1099511627776 := by omega
  have hc4 : (80 : Int) * (x.ini.length : Int) ≤ 1099511627776 := by omega
  have hc5 : (x.ini.length : Int) ≤ 1099511627776 := by omega
  simp (config := { maxSteps := 1000000 }) (disch := first | omega | (simp only [List.length_map, List.length_append, List.length_cons, List.length_nil, ints_len] <;> omega)) only [hc1, hc3, hc4, hc5, flat10_zero, wordsN, Int.reduceGT, wordsR, ne_eq, words, Nat.reduceAdd, Nat.reduceEqDiff, Nat.reduceBEq, ↓reduceIte, reduceCtorEq, SX.exit.injEq, if_true, if_false, Int.reduceAdd, Int.reduceSub, Int.reduceMul, Int.reduceLT, Int.reduceLE, Int.reduceEq, Int.reduceNe, Int.reduceNeg, Int.reduceToNat, Nat.reduceMul, Nat.reduceLT, Nat.reduceSub, Nat.reduceLeDiff]
  have hil : (incM x).length = x.ini.length := by simp [incM]
  refine wS_loopR 200 (fun p : Nat => [(1, .int .i64 2), (4, .ptr 65 0 0), (8, .ptr 90 0 0), (47, lsts (incM x)), (48, .int .i64 (incM x).length), (49, .int .i64 p)])
    (fun p => [(65, .cells 0 [.int .i64 0, .nilsl]), (90, .cells 0 [.int .i64 x.tr.length, .sl 100 0 0 x.ini.length 10]), (100, .cells 0 (flat10 x.ini.length fun i q => if i < p then (incR x i).getD q 0 else 0))])
    (fun p => p ≤ x.ini.length) (fun p => x.ini.length - p) 0 ?_ (Nat.zero_le _) ?_
  · refine ⟨[(65, .blk 65 0), (90, .blk 90 0), (100, .blk 100 0)], rfl, ?_, (by repeat (first | exact RT.nil | (refine RT.cons ?_ ?_; · (first | exact Rn.any | exact Rn.sl (Nat.zero_le _) rfl | exact Rn.ptr (Nat.zero_le _) rfl | exact Rn.map (Nat.zero_le _) rfl | exact Rn.slnil (Nat.zero_le _) rfl | (refine Rn.slot ?_ ?_; (first | rfl | (rw [Int.natCast_add]; rfl)); (first | rfl | (simp only [noRef, noRefs, noRefs_append, noRefs_ints, noRefs_lsts, noRefs_pad, noRef_arcs, noRef_tns, Bool.and_self, Bool.and_true, Bool.true_and]; done)))))))⟩
    refine RB.cells rfl rfl ?_ (RB.cells rfl rfl ?_ (RB.cells rfl rfl (RnL.eq (flat10_congr fun i q _ _ => if_neg (Nat.not_lt_zero _)) (noRefs_ints _)) RB.nil)) <;> repeat' (first | exact RB.nil | (refine RnL.same ?_; first | rfl | (simp only [noRef, noRefs, noRefs_append, noRefs_ints, noRefs_lsts, noRefs_pad, noRef_arcs, noRef_tns, Bool.and_self, Bool.and_true, Bool.true_and]; done)) | exact RnL.nil | refine RnL.cons ?_ ?_ | (refine Rn.same ?_; first | rfl | (simp only [noRef, noRefs, noRefs_append, noRefs_ints, noRefs_lsts, noRefs_pad, noRef_arcs, noRef_tns, Bool.and_self, Bool.and_true, Bool.true_and]; done)) | exact Rn.sl (Nat.zero_le _) rfl | exact Rn.ptr (Nat.zero_le _) rfl | exact Rn.map (Nat.zero_le _) rfl | exact Rn.slnil (Nat.zero_le _) rfl | refine RB.newnil rfl ?_ | refine RB.cells rfl rfl ?_ ?_ | refine RB.map rfl rfl ?_ ?_)
  intro p hi
  by_cases hlt : p < x.ini.length
  · have hlt' : p < (incM x).length := by rw [hil]; omega
    have hrow := incM_get hlt
    simp (config := { maxSteps := 1000000 }) (disch := first | omega | (simp only [List.length_map, List.length_append, List.length_cons, List.length_nil, ints_len] <;> omega)) only [hlt', head_lsts hrow, wordsN, Int.reduceGT, wordsR, ne_eq, words, Nat.reduceAdd, Nat.reduceEqDiff, Nat.reduceBEq, ↓reduceIte, reduceCtorEq, SX.exit.injEq, if_true, if_false, Int.reduceAdd, Int.reduceSub, Int.reduceMul, Int.reduceLT, Int.reduceLE, Int.reduceEq, Int.reduceNe, Int.reduceNeg, Int.reduceToNat, Nat.reduceMul, Nat.reduceLT, Nat.reduceSub, Nat.reduceLeDiff]
    refine wS_loopR 300 (fun k : Nat => [(1, .int .i64 2), (4, .ptr 65 0 0), (8, .ptr 90 0 0), (47, lsts (incM x)), (48, .int .i64 (incM x).length), (49, .int .i64 p), (9, .int .i64 p), (54, sli (incR x p)), (55, .int .i64 (incR x p).length), (56, .int .i64 k)])
      (fun k => [(65, .cells 0 [.int .i64 0, .nilsl]), (90, .cells 0 [.int .i64 x.tr.length, .sl 100 0 0 x.ini.length 10]), (100, .cells 0 (flat10 x.ini.length fun i q => if i < p then (incR x i).getD q 0 else if i = p ∧ q < k then (incR x i).getD q 0 else 0))])
      (fun k => k ≤ x.tr.length) (fun k => x.tr.length - k) 0 ?_ (Nat.zero_le _) ?_
    · refine ⟨[(65, .blk 65 0), (90, .blk 90 0), (100, .blk 100 0)], rfl, ?_, (by repeat (first | exact RT.nil | (refine RT.cons ?_ ?_; · (first | exact Rn.any | exact Rn.sl (Nat.zero_le _) rfl | exact Rn.ptr (Nat.zero_le _) rfl | exact Rn.map (Nat.zero_le _) rfl | exact Rn.slnil (Nat.zero_le _) rfl | (refine Rn.slot ?_ ?_; (first | rfl | (rw [Int.natCast_add]; rfl)); (first | rfl | (simp only [noRef, noRefs, noRefs_append, noRefs_ints, noRefs_lsts, noRefs_pad, noRef_arcs, noRef_tns, Bool.and_self, Bool.and_true, Bool.true_and]; done)))))))⟩
      refine RB.cells rfl rfl ?_ (RB.cells rfl rfl ?_ (RB.cells rfl rfl (RnL.eq (flat10_congr fun i q _ _ => by simp) (noRefs_ints _)) RB.nil)) <;> repeat' (first | exact RB.nil | (refine RnL.same ?_; first | rfl | (simp only [noRef, noRefs, noRefs_append, noRefs_ints, noRefs_lsts, noRefs_pad, noRef_arcs, noRef_tns, Bool.and_self, Bool.and_true, Bool.true_and]; done)) | exact RnL.nil | refine RnL.cons ?_ ?_ | (refine Rn.same ?_; first | rfl | (simp only [noRef, noRefs, noRefs_append, noRefs_ints, noRefs_lsts, noRefs_pad, noRef_arcs, noRef_tns, Bool.and_self, Bool.and_true, Bool.true_and]; done)) | exact Rn.sl (Nat.zero_le _) rfl | exact Rn.ptr (Nat.zero_le _) rfl | exact Rn.map (Nat.zero_le _) rfl | exact Rn.slnil (Nat.zero_le _) rfl | refine RB.newnil rfl ?_ | refine RB.cells rfl rfl ?_ ?_ | refine RB.map rfl rfl ?_ ?_)
    intro k hk
    by_cases hkl : k < x.tr.length
    · obtain ⟨y, hy⟩ := get_ex (l := incR x p) (i := k) (by rw [incR_len]; exact hkl)
      have hkl' : k < (incR x p).length := by rw [incR_len]; omega
      have hk10 : (k : Int) < 10 := by omega
      have hle : p * 10 + k + 1 ≤ (flat10 x.ini.length fun i q => if i < p then (incR x i).getD q 0 else if i = p ∧ q < k then (incR x i).getD q 0 else 0).length := by rw [flat10_len]; omega
      have hset := flat10_set (fun i q => if i < p then (incR x i).getD q 0 else if i = p ∧ q < k then (incR x i).getD q 0 else 0) hlt (show k < 10 by omega) y
      have hyb := incR_bound ho p y (List.mem_of_getElem? hy)
      simp (config := { maxSteps := 1000000 }) (disch := first | omega | (simp only [List.length_map, List.length_append, List.length_cons, List.length_nil, ints_len] <;> omega)) only [hkl', hlt, hk10, head_ints hy, hle, hset, wordsN, Int.reduceGT, wordsR, ne_eq, words, Nat.reduceAdd, Nat.reduceEqDiff, Nat.reduceBEq, ↓reduceIte, reduceCtorEq, SX.exit.injEq, if_true, if_false, Int.reduceAdd, Int.reduceSub, Int.reduceMul, Int.reduceLT, Int.reduceLE, Int.reduceEq, Int.reduceNe, Int.reduceNeg, Int.reduceToNat, Nat.reduceMul, Nat.reduceLT, Nat.reduceSub, Nat.reduceLeDiff]
      refine ⟨k + 1, by omega, by omega, ?_⟩
      refine ⟨[(65, .blk 65 0), (90, .blk 90 0), (100, .blk 100 0)], rfl, ?_, (by repeat (first | exact RT.nil | (refine RT.cons ?_ ?_; · (first | exact Rn.any | exact Rn.sl (Nat.zero_le _) rfl | exact Rn.ptr (Nat.zero_le _) rfl | exact Rn.map (Nat.zero_le _) rfl | exact Rn.slnil (Nat.zero_le _) rfl | (refine Rn.slot ?_ ?_; (first | rfl | (rw [Int.natCast_add]; rfl)); (first | rfl | (simp only [noRef, noRefs, noRefs_append, noRefs_ints, noRefs_lsts, noRefs_pad, noRef_arcs, noRef_tns, Bool.and_self, Bool.and_true, Bool.true_and]; done)))))))⟩
      refine RB.cells rfl rfl ?_ (RB.cells rfl rfl ?_ (RB.cells rfl rfl (RnL.eq (flat10_congr fun i q _ _ => ?_) (noRefs_ints _)) RB.nil)) <;> try repeat' (first | exact RB.nil | (refine RnL.same ?_; first | rfl | (simp only [noRef, noRefs, noRefs_append, noRefs_ints, noRefs_lsts, noRefs_pad, noRef_arcs, noRef_tns, Bool.and_self, Bool.and_true, Bool.true_and]; done)) | exact RnL.nil | refine RnL.cons ?_ ?_ | (refine Rn.same ?_; first | rfl | (simp only [noRef, noRefs, noRefs_append, noRefs_ints, noRefs_lsts, noRefs_pad, noRef_arcs, noRef_tns, Bool.and_self, Bool.and_true, Bool.true_and]; done)) | exact Rn.sl (Nat.zero_le _) rfl | exact Rn.ptr (Nat.zero_le _) rfl | exact Rn.map (Nat.zero_le _) rfl | exact Rn.slnil (Nat.zero_le _) rfl | refine RB.newnil rfl ?_ | refine RB.cells rfl rfl ?_ ?_ | refine RB.map rfl rfl ?_ ?_)
      by_cases c1 : i = p
      · subst c1
        by_cases c2 : q = k
        · subst c2; simp [List.getD_eq_getElem?_getD, hy]
        · have : (q < k + 1) ↔ (q < k) := by omega
          simp [c2, this]
      · simp [c1]
    · have hkl' : ¬ k < (incR x p).length := by rw [incR_len]; omega
      have e : k = x.tr.length := by omega
      simp (config := { maxSteps := 1000000 }) (disch := first | omega | (simp only [List.length_map, List.length_append, List.length_cons, List.length_nil, ints_len] <;> omega)) only [hkl', wordsN, Int.reduceGT, wordsR, ne_eq, words, Nat.reduceAdd, Nat.reduceEqDiff, Nat.reduceBEq, ↓reduceIte, reduceCtorEq, SX.exit.injEq, if_true, if_false, Int.reduceAdd, Int.reduceSub, Int.reduceMul, Int.reduceLT, Int.reduceLE, Int.reduceEq, Int.reduceNe, Int.reduceNeg, Int.reduceToNat, Nat.reduceMul, Nat.reduceLT, Nat.reduceSub, Nat.reduceLeDiff]
      refine ⟨p + 1, by omega, by omega, ?_⟩
      refine ⟨[(65, .blk 65 0), (90, .blk 90 0), (100, .blk 100 0)], rfl, ?_, (by repeat (first | exact RT.nil | (refine RT.cons ?_ ?_; · (first | exact Rn.any | exact Rn.sl (Nat.zero_le _) rfl | exact Rn.ptr (Nat.zero_le _) rfl | exact Rn.map (Nat.zero_le _) rfl | exact Rn.slnil (Nat.zero_le _) rfl | (refine Rn.slot ?_ ?_; (first | rfl | (rw [Int.natCast_add]; rfl)); (first | rfl | (simp only [noRef, noRefs, noRefs_append, noRefs_ints, noRefs_lsts, noRefs_pad, noRef_arcs, noRef_tns, Bool.and_self, Bool.and_true, Bool.true_and]; done)))))))⟩
      refine RB.cells rfl rfl ?_ (RB.cells rfl rfl ?_ (RB.cells rfl rfl (RnL.eq (flat10_congr fun i q _ _ => ?_) (noRefs_ints _)) RB.nil)) <;> try repeat' (first | exact RB.nil | (refine RnL.same ?_; first | rfl | (simp only [noRef, noRefs, noRefs_append, noRefs_ints, noRefs_lsts, noRefs_pad, noRef_arcs, noRef_tns, Bool.and_self, Bool.and_true, Bool.true_and]; done)) | exact RnL.nil | refine RnL.cons ?_ ?_ | (refine Rn.same ?_; first | rfl | (simp only [noRef, noRefs, noRefs_append, noRefs_ints, noRefs_lsts, noRefs_pad, noRef_arcs, noRef_tns, Bool.and_self, Bool.and_true, Bool.true_and]; done)) | exact Rn.sl (Nat.zero_le _) rfl | exact Rn.ptr (Nat.zero_le _) rfl | exact Rn.map (Nat.zero_le _) rfl | exact Rn.slnil (Nat.zero_le _) rfl | refine RB.newnil rfl ?_ | refine RB.cells rfl rfl ?_ ?_ | refine RB.map rfl rfl ?_ ?_)
      by_cases c1 : i < p
      · have : i < p + 1 := by omega
        simp [c1, this]
      · by_cases c2 : i = p
        · subst c2
          by_cases c3 : q < k
          · simp [c3]
          · simp [c3, List.getD_eq_getElem?_getD, List.getElem?_eq_none (show (incR x i).length ≤ q by rw [incR_len]; omega)]
        · have : ¬ i < p + 1 := by omega
          simp [c1, c2, this]
  · have hlt' : ¬ p < (incM x).length := by rw [hil]; omega
    have e : p = x.ini.length := by omega
    simp (config := { maxSteps := 1000000 }) (disch := first | omega | (simp only [List.length_map, List.length_append, List.length_cons, List.length_nil, ints_len] <;> omega)) only [hlt', wordsN, Int.reduceGT, wordsR, ne_eq, words, Nat.reduceAdd, Nat.reduceEqDiff, Nat.reduceBEq, ↓reduceIte, reduceCtorEq, SX.exit.injEq, if_true, if_false, Int.reduceAdd, Int.reduceSub, Int.reduceMul, Int.reduceLT, Int.reduceLE, Int.reduceEq, Int.reduceNe, Int.reduceNeg, Int.reduceToNat, Nat.reduceMul, Nat.reduceLT, Nat.reduceSub, Nat.reduceLeDiff]
    have hf : (flat10 x.ini.length fun i q => if i < p then (incR x i).getD q 0 else 0) = (incM x).flatMap pad := by
      rw [flat10_tab (fun r hr => by simp only [incM, List.mem_map] at hr; obtain ⟨t, _, rfl⟩ := hr; rw [incR_len]; omega), hil]
      refine flat10_congr fun i q q1 _ => ?_
      have c1 : i < p := by omega
      simp [c1, incM, List.getD_eq_getElem?_getD, List.getElem?_range q1]
    refine ⟨.inr trivial, _, rfl, Rn.tup (RnL.cons (Rn.agg (RnL.cons (Rn.same rfl) (RnL.cons ?_ RnL.nil))) (RnL.cons (Rn.same rfl) RnL.nil))⟩
    have hl : x.ini.length = (tabR x 2).length := by simp [tabR, hil]
    rw [← hl]
    refine Rn.fz0 rfl (by rw [flat10_len]) (RnL.eq ?_ (noRefs_pad _))
    rw [hf]; rfl
end Go.AM.SN
