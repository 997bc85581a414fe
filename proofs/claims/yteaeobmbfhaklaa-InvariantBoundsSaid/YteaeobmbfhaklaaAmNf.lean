/- Contracts for nets: newTable. Conditions: none of ours. -/
import Derived.Test.YteaeobmbfhaklaaAmNe
namespace Go.AM.SN
open Go.Proofs
set_option maxRecDepth 100000
set_option linter.unusedSimpArgs false
set_option linter.unusedVariables false

theorem flat10_zero (rows : Nat) : (List.replicate rows [AV.int .i64 0, .int .i64 0, .int .i64 0, .int .i64 0, .int .i64 0, .int .i64 0, .int .i64 0, .int .i64 0, .int .i64 0, .int .i64 0]).flatten = flat10 rows (fun _ _ => 0) := by
  induction rows with
  | zero => rfl
  | succ n ih => rw [List.replicate_succ, List.flatten_cons, ih, flat10_succ]; rfl

theorem incR_bound {x : Nt} (ho : NetOk x) (p : Nat) : ∀ y ∈ incR x p, -8 ≤ y ∧ y ≤ 8 := by
  intro y hy
  simp only [incR, List.mem_map] at hy
  obtain ⟨t, ht, rfl⟩ := hy
  have h1 := weightR_bound (ho.inn t ht) p
  have h2 := weightR_bound (ho.out t ht) p
  omega

set_option maxHeartbeats 8000000 in
theorem newTable1 (x : Nt) (ho : NetOk x) : PSpec Try.prog 39 [netV x, .int .i64 1] (.tup [tabV (tabC x 1) (tabR x 1), .int .i64 0]) := by
  refine PSpec.of_frz 64 ok39 rfl (by rw [noRefs, noRef_net]; rfl) (by simp only [noRef, noRefs, noRefs_pad]; rfl) ?_
  have hp := ho.places
  have ht := ho.trans
  have hfe : ∀ b, Tr.get (α := Blk) .e b = none := fun b => by simp [Tr.get]
  simp (config := { maxSteps := 1000000 }) (disch := omega) only [s39, hfe, wordsN, Int.reduceGT, words, Nat.reduceAdd, Nat.reduceEqDiff, Nat.reduceBEq, ↓reduceIte, reduceCtorEq, SX.exit.injEq, if_true, if_false, Int.reduceAdd, Int.reduceSub, Int.reduceMul, Int.reduceLT, Int.reduceLE, Int.reduceEq, Int.reduceNe, Int.reduceNeg, Int.reduceToNat, Nat.reduceMul, Nat.reduceLT, Nat.reduceSub, Nat.reduceLeDiff]
  refine cp (netIncidence x ho) ?_
  have hc1 : (80 : Int) * (x.tr.length : Int) ≤ 1099511627776 := by omega
  have hc3 : (x.tr.length : Int) ≤ 1099511627776 := by omega
  simp (config := { maxSteps := 1000000 }) (disch := omega) only [hfe, hc1, hc3, flat10_zero, Int.le_refl, wordsN, Int.reduceGT, words, Nat.reduceAdd, Nat.reduceEqDiff, Nat.reduceBEq, ↓reduceIte, reduceCtorEq, SX.exit.injEq, if_true, if_false, Int.reduceAdd, Int.reduceSub, Int.reduceMul, Int.reduceLT, Int.reduceLE, Int.reduceEq, Int.reduceNe, Int.reduceNeg, Int.reduceToNat, Nat.reduceMul, Nat.reduceLT, Nat.reduceSub, Nat.reduceLeDiff]
  have hil : (incM x).length = x.ini.length := by simp [incM]
  refine wS_loop (fun p : Nat => [(1, .int .i64 1), (4, .ptr 65 0 0), (8, .ptr 90 0 0), (47, lsts (incM x)), (48, .int .i64 (incM x).length), (49, .int .i64 p)])
    (fun p h n => p ≤ x.ini.length ∧ h.get 65 = some (.cells 0 [.int .i64 0, .nilsl]) ∧ h.get 90 = some (.cells 0 [.int .i64 x.ini.length, .sl 88 0 0 x.tr.length 10]) ∧ h.get 88 = some (.cells 0 (flat10 x.tr.length fun i q => if q < p then (incR x q).getD i 0 else 0)))
    (fun p => x.ini.length - p) 0 (by repeat (first | exact Sub.nil | refine Sub.cons (by first | rfl | (rw [Int.natCast_add]; rfl)) ?_)) ⟨Nat.zero_le _, by rw [get_ne (by omega) (by omega), get_ne (by omega) (by omega), get_ne (by omega) (by omega), get_same (by omega)], get_same (by omega), by rw [get_ne (by omega) (by omega), get_ne (by omega) (by omega), get_same (by omega)]; simp⟩ ?_
  rintro p h n ⟨hi, h65, h90, h88⟩
  by_cases hlt : p < x.ini.length
  · have hlt' : (p : Int) < ((incM x).length : Int) := by rw [hil]; omega
    have hrow := incM_get hlt
    simp (config := { maxSteps := 1000000 }) (disch := omega) only [hlt', head_lsts hrow, wordsN, Int.reduceGT, words, Nat.reduceAdd, Nat.reduceEqDiff, Nat.reduceBEq, ↓reduceIte, reduceCtorEq, SX.exit.injEq, if_true, if_false, Int.reduceAdd, Int.reduceSub, Int.reduceMul, Int.reduceLT, Int.reduceLE, Int.reduceEq, Int.reduceNe, Int.reduceNeg, Int.reduceToNat, Nat.reduceMul, Nat.reduceLT, Nat.reduceSub, Nat.reduceLeDiff]
    refine wS_loop (fun k : Nat => [(1, .int .i64 1), (4, .ptr 65 0 0), (8, .ptr 90 0 0), (47, lsts (incM x)), (48, .int .i64 (incM x).length), (49, .int .i64 p), (9, .int .i64 p), (54, sli (incR x p)), (55, .int .i64 (incR x p).length), (56, .int .i64 k)])
      (fun k h n => k ≤ x.tr.length ∧ h.get 65 = some (.cells 0 [.int .i64 0, .nilsl]) ∧ h.get 90 = some (.cells 0 [.int .i64 x.ini.length, .sl 88 0 0 x.tr.length 10]) ∧ h.get 88 = some (.cells 0 (flat10 x.tr.length fun i q => if q < p then (incR x q).getD i 0 else if q = p ∧ i < k then (incR x q).getD i 0 else 0)))
      (fun k => x.tr.length - k) 0 (by repeat (first | exact Sub.nil | refine Sub.cons (by first | rfl | (rw [Int.natCast_add]; rfl)) ?_)) ⟨Nat.zero_le _, h65, h90, by rw [h88]; simp⟩ ?_
    clear h65 h90 h88
    rintro k h n ⟨hk, h65, h90, h88⟩
    by_cases hkl : k < x.tr.length
    · obtain ⟨y, hy⟩ := get_ex (l := incR x p) (i := k) (by rw [incR_len]; exact hkl)
      have hkl' : (k : Int) < ((incR x p).length : Int) := by rw [incR_len]; omega
      have hkl2 : (k : Int) < (x.tr.length : Int) := by omega
      have hp10 : (p : Int) < 10 := by omega
      have hle : k * 10 + p + 1 ≤ (flat10 x.tr.length fun i q => if q < p then (incR x q).getD i 0 else if q = p ∧ i < k then (incR x q).getD i 0 else 0).length := by rw [flat10_len]; omega
      have hset := flat10_set (fun i q => if q < p then (incR x q).getD i 0 else if q = p ∧ i < k then (incR x q).getD i 0 else 0) hkl (show p < 10 by omega) y
      have hyb := incR_bound ho p y (List.mem_of_getElem? hy)
      simp (config := { maxSteps := 1000000 }) (disch := omega) only [hkl', hkl2, hp10, head_ints hy, h90, h88, hle, hset, wordsN, Int.reduceGT, words, Nat.reduceAdd, Nat.reduceEqDiff, Nat.reduceBEq, ↓reduceIte, reduceCtorEq, SX.exit.injEq, if_true, if_false, Int.reduceAdd, Int.reduceSub, Int.reduceMul, Int.reduceLT, Int.reduceLE, Int.reduceEq, Int.reduceNe, Int.reduceNeg, Int.reduceToNat, Nat.reduceMul, Nat.reduceLT, Nat.reduceSub, Nat.reduceLeDiff]
      refine ⟨k + 1, by omega, by repeat (first | exact Sub.nil | refine Sub.cons (by first | rfl | (rw [Int.natCast_add]; rfl)) ?_), by omega, h65, congrArg (fun c => some (Blk.cells 0 c)) (flat10_congr fun i' p' _ _ => ?_)⟩
      by_cases c1 : p' = p
      · subst c1
        by_cases c2 : i' = k
        · subst c2; simp [List.getD_eq_getElem?_getD, hy]
        · have : (i' < k + 1) ↔ (i' < k) := by omega
          simp [c2, this]
      · simp [c1]
    · have hkl' : ¬ (k : Int) < ((incR x p).length : Int) := by rw [incR_len]; omega
      have e : k = x.tr.length := by omega
      simp (config := { maxSteps := 1000000 }) (disch := omega) only [hkl', wordsN, Int.reduceGT, words, Nat.reduceAdd, Nat.reduceEqDiff, Nat.reduceBEq, ↓reduceIte, reduceCtorEq, SX.exit.injEq, if_true, if_false, Int.reduceAdd, Int.reduceSub, Int.reduceMul, Int.reduceLT, Int.reduceLE, Int.reduceEq, Int.reduceNe, Int.reduceNeg, Int.reduceToNat, Nat.reduceMul, Nat.reduceLT, Nat.reduceSub, Nat.reduceLeDiff]
      refine ⟨p + 1, by omega, by repeat (first | exact Sub.nil | refine Sub.cons (by first | rfl | (rw [Int.natCast_add]; rfl)) ?_), by omega, h65, h90, ?_⟩
      rw [h88]
      refine congrArg (fun c => some (Blk.cells 0 c)) (flat10_congr fun i' p' q1 _ => ?_)
      by_cases c1 : p' < p
      · have : p' < p + 1 := by omega
        simp [c1, this]
      · by_cases c2 : p' = p
        · subst c2
          have : i' < k := by omega
          simp [this]
        · have : ¬ p' < p + 1 := by omega
          simp [c1, c2, this]
  · have hlt' : ¬ (p : Int) < ((incM x).length : Int) := by rw [hil]; omega
    have e : p = x.ini.length := by omega
    simp (config := { maxSteps := 1000000 }) (disch := omega) only [hlt', h90, h65, wordsN, Int.reduceGT, words, Nat.reduceAdd, Nat.reduceEqDiff, Nat.reduceBEq, ↓reduceIte, reduceCtorEq, SX.exit.injEq, if_true, if_false, Int.reduceAdd, Int.reduceSub, Int.reduceMul, Int.reduceLT, Int.reduceLE, Int.reduceEq, Int.reduceNe, Int.reduceNeg, Int.reduceToNat, Nat.reduceMul, Nat.reduceLT, Nat.reduceSub, Nat.reduceLeDiff]
    have hg : (h.set 65 (.cells 0 [.int .i64 x.ini.length, .sl 88 0 0 x.tr.length 10])).get 65 = some (.cells 0 [.int .i64 x.ini.length, .sl 88 0 0 x.tr.length 10]) := get_same (by omega)
    refine ⟨by simp, [.agg [.int .i64 x.ini.length, .sl 88 0 0 x.tr.length 10], .int .i64 0], by simp [resV, lk_cons, aLoad, HM.cells, HM.run, hg], ?_⟩
    have h88' : (h.set 65 (.cells 0 [.int .i64 x.ini.length, .sl 88 0 0 x.tr.length 10])).get 88 = some (.cells 0 ((colM x).flatMap pad)) := by
      have hcl : (colM x).length = x.tr.length := by simp [colM]
      rw [get_ne (by omega) (by omega), h88, flat10_tab (fun r hr => by simp only [colM, List.mem_map] at hr; obtain ⟨t, _, rfl⟩ := hr; rw [colR_len]; omega), hcl]
      refine congrArg (fun c => some (Blk.cells 0 c)) (flat10_congr fun i' p' q1 q2 => ?_)
      have e1 : (colM x).getD i' [] = colR x i' := by simp [colM, List.getD_eq_getElem?_getD, List.getElem?_range q1]
      rw [e1]
      by_cases c1 : p' < p
      · have c2 : p' < x.ini.length := by omega
        simp [c1, colR, List.getD_eq_getElem?_getD, List.getElem?_range c2]
      · have c2 : ¬ p' < x.ini.length := by omega
        simp [c1, colR, List.getD_eq_getElem?_getD, List.getElem?_eq_none (show (List.range x.ini.length).length ≤ p' by simp; omega)]
    have hcl : (colM x).length = x.tr.length := by simp [colM]
    simp only [resOf, tabV, tabC, tabR, if_true]
    refine FrzTo.tup ⟨FrzTo.agg ⟨FrzTo.same _, ?_, trivial⟩, FrzTo.same _, trivial⟩
    rw [hcl]
    refine FrzTo.sl h88' ?_ ?_
    · rw [flat10_tab (fun r hr => by simp only [colM, List.mem_map] at hr; obtain ⟨t, _, rfl⟩ := hr; rw [colR_len]; omega), flat10_len, hcl]; omega
    · rw [List.drop_zero, List.take_of_length_le (by rw [flat10_tab (fun r hr => by simp only [colM, List.mem_map] at hr; obtain ⟨t, _, rfl⟩ := hr; rw [colR_len]; omega), flat10_len, hcl]; omega)]
      exact FrzL.same _
end Go.AM.SN
