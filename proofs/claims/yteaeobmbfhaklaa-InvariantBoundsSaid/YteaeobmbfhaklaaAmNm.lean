/- Contracts for nets: weights of any kind, values, the checks of lists of weights. Conditions: none of ours. -/
import Derived.Test.YteaeobmbfhaklaaAmNk
namespace Go.AM.SN
open Go.Proofs
set_option maxRecDepth 100000
set_option linter.unusedSimpArgs false
set_option linter.unusedVariables false
-- NA: noRef_net, noRef_sli, noRef_lsts, noRef_arcs, noRef_tns
-- NR: noRefs_ints, noRefs_lsts, noRefs_pad, noRefs_tnC, noRefs_arcC

theorem noRef_lsts (l : List (List Int)) : noRef (lsts l) = true := by simp only [noRef]; exact noRefs_lsts l
def badW (n : Int) : Bool := decide (n < 0 ∨ 65536 < n)
theorem badW_of {n : Int} (h : badW n = false) : okT n := by simp [badW] at h; unfold okT; omega
theorem within1G (n : Int) : PSpec Try.prog 67 [.int .i64 n] (.bool (badW n)) := by
  refine PSpec.of_flat 64 ok67 rfl rfl rfl ?_
  unfold badW
  by_cases h : n < 0
  · simp (config := { maxSteps := 1000000 }) (disch := omega) only [s67, h, words, Nat.reduceAdd, Nat.reduceEqDiff, Nat.reduceBEq, ↓reduceIte, reduceCtorEq, SX.exit.injEq, if_true, if_false, Int.reduceAdd, Int.reduceSub, Int.reduceMul, Int.reduceLT, Int.reduceLE, Int.reduceEq, Int.reduceNe, Int.reduceNeg, Int.reduceToNat, Nat.reduceMul, Nat.reduceLT, Nat.reduceSub, Nat.reduceLeDiff]
    exact ⟨by simp, _, rfl, by simp [resOf, lk_cons]⟩
  · simp (config := { maxSteps := 1000000 }) (disch := omega) only [s67, h, words, Nat.reduceAdd, Nat.reduceEqDiff, Nat.reduceBEq, ↓reduceIte, reduceCtorEq, SX.exit.injEq, if_true, if_false, Int.reduceAdd, Int.reduceSub, Int.reduceMul, Int.reduceLT, Int.reduceLE, Int.reduceEq, Int.reduceNe, Int.reduceNeg, Int.reduceToNat, Nat.reduceMul, Nat.reduceLT, Nat.reduceSub, Nat.reduceLeDiff]
    exact ⟨by simp, _, rfl, by simp [resOf, lk_cons]⟩
theorem small (n : Int) : PSpec Try.prog 32 [.int .i64 n] (.bool (!badW n)) := by
  refine PSpec.of_flat 64 ok32 rfl rfl rfl ?_
  unfold badW
  by_cases h : 0 ≤ n
  · have h' : ¬ n < 0 := by omega
    by_cases h2 : n ≤ 65536
    · have h2' : ¬ 65536 < n := by omega
      simp (config := { maxSteps := 1000000 }) (disch := omega) only [s32, h, h2, words, Nat.reduceAdd, Nat.reduceEqDiff, Nat.reduceBEq, ↓reduceIte, reduceCtorEq, SX.exit.injEq, if_true, if_false, Int.reduceAdd, Int.reduceSub, Int.reduceMul, Int.reduceLT, Int.reduceLE, Int.reduceEq, Int.reduceNe, Int.reduceNeg, Int.reduceToNat, Nat.reduceMul, Nat.reduceLT, Nat.reduceSub, Nat.reduceLeDiff]
      exact ⟨by simp, _, rfl, by simp [resOf, lk_cons, h', h2']⟩
    · have h2' : 65536 < n := by omega
      simp (config := { maxSteps := 1000000 }) (disch := omega) only [s32, h, h2, words, Nat.reduceAdd, Nat.reduceEqDiff, Nat.reduceBEq, ↓reduceIte, reduceCtorEq, SX.exit.injEq, if_true, if_false, Int.reduceAdd, Int.reduceSub, Int.reduceMul, Int.reduceLT, Int.reduceLE, Int.reduceEq, Int.reduceNe, Int.reduceNeg, Int.reduceToNat, Nat.reduceMul, Nat.reduceLT, Nat.reduceSub, Nat.reduceLeDiff]
      exact ⟨by simp, _, rfl, by simp [resOf, lk_cons, h', h2']⟩
  · have h' : n < 0 := by omega
    simp (config := { maxSteps := 1000000 }) (disch := omega) only [s32, h, words, Nat.reduceAdd, Nat.reduceEqDiff, Nat.reduceBEq, ↓reduceIte, reduceCtorEq, SX.exit.injEq, if_true, if_false, Int.reduceAdd, Int.reduceSub, Int.reduceMul, Int.reduceLT, Int.reduceLE, Int.reduceEq, Int.reduceNe, Int.reduceNeg, Int.reduceToNat, Nat.reduceMul, Nat.reduceLT, Nat.reduceSub, Nat.reduceLeDiff]
    exact ⟨by simp, _, rfl, by simp [resOf, lk_cons, h']⟩

/-- The first place where p holds, or -1. -/
def firstAt {α : Type} (p : α → Bool) (l : List α) : Int := match l.findIdx? p with | some i => i | none => -1
theorem firstAt_found {α : Type} {p : α → Bool} {l : List α} {i : Nat} {x : α} (hx : l[i]? = some x) (hp : p x = true) (hb : ∀ (j : Nat) (y : α), j < i → l[j]? = some y → p y = false) : firstAt p l = i := by
  unfold firstAt
  have : l.findIdx? p = some i := by
    rw [List.findIdx?_eq_some_iff_getElem]
    obtain ⟨h1, h2⟩ := List.getElem?_eq_some_iff.1 hx
    refine ⟨h1, by rw [h2]; exact hp, fun j hj => ?_⟩
    have := hb j l[j] hj (List.getElem?_eq_getElem (by omega))
    simp [this]
  rw [this]
theorem firstAt_none {α : Type} {p : α → Bool} {l : List α} (hb : ∀ (j : Nat) (y : α), l[j]? = some y → p y = false) : firstAt p l = -1 := by
  unfold firstAt
  have : l.findIdx? p = none := by
    rw [List.findIdx?_eq_none_iff]
    intro x hx
    obtain ⟨j, hj, _⟩ := mem_at hx
    exact hb j x hj
  rw [this]
theorem firstAt_ge {α : Type} (p : α → Bool) (l : List α) : decide (0 ≤ firstAt p l) = l.any p := by
  unfold firstAt
  cases h : l.findIdx? p with
  | none =>
    rw [List.findIdx?_eq_none_iff] at h
    have : l.any p = false := by rw [List.any_eq_false]; intro x hx; simp [h x hx]
    rw [this]; rfl
  | some i =>
    rw [List.findIdx?_eq_some_iff_getElem] at h
    obtain ⟨h1, h2, _⟩ := h
    have : l.any p = true := List.any_eq_true.2 ⟨_, List.getElem_mem h1, h2⟩
    rw [this]; simp
theorem any_of {α : Type} {p : α → Bool} {l : List α} {i : Nat} {x : α} (hx : l[i]? = some x) (hp : p x = true) : l.any p = true := List.any_eq_true.2 ⟨x, List.mem_of_getElem? hx, hp⟩
theorem any_no {α : Type} {p : α → Bool} {l : List α} (hb : ∀ (j : Nat) (y : α), j < l.length → l[j]? = some y → p y = false) : l.any p = false := by
  rw [List.any_eq_false]
  intro x hx
  obtain ⟨j, hj, hl⟩ := mem_at hx
  simp [hb j x hl hj]

theorem indexG (g : Nat) (p : Int → Bool) (l : List Int) (hg : ∀ x ∈ l, PSpec Try.prog g [.int .i64 x] (.bool (p x))) (hl : l.length ≤ 1099511627776) :
    PSpec Try.prog 76 [sli l, .fn g [] []] (.int .i64 (firstAt p l)) := by
  refine PSpec.of_flat 64 ok76 rfl (by simp [noRefs, noRef, noRefs_ints]) rfl ?_
  simp (config := { maxSteps := 1000000 }) (disch := first | omega | (simp only [List.length_map, List.length_append, List.length_cons, List.length_nil, ints_len] <;> omega)) only [s76, wordsN, Int.reduceGT, wordsR, ne_eq, words, Nat.reduceAdd, Nat.reduceEqDiff, Nat.reduceBEq, ↓reduceIte, reduceCtorEq, SX.exit.injEq, if_true, if_false, Int.reduceAdd, Int.reduceSub, Int.reduceMul, Int.reduceLT, Int.reduceLE, Int.reduceEq, Int.reduceNe, Int.reduceNeg, Int.reduceToNat, Nat.reduceMul, Nat.reduceLT, Nat.reduceSub, Nat.reduceLeDiff]
  refine wS_loopR 100 (fun i : Nat => [(0, sli l), (1, .fn g [] []), (7, .int .i64 l.length), (8, .int .i64 i)]) (fun _ => []) (fun i => i ≤ l.length ∧ ∀ j y, j < i → l[j]? = some y → p y = false) (fun i => l.length - i) 0 ⟨[], rfl, (by repeat' (first | exact RB.nil | (refine RnL.same ?_; first | rfl | (simp only [noRef, noRefs, noRefs_append, Bool.and_self, Bool.and_true, Bool.true_and, noRefs_ints, noRefs_lsts, noRefs_pad, noRefs_tnC, noRefs_arcC]; done)) | exact RnL.nil | refine RnL.cons ?_ ?_ | (refine Rn.same ?_; first | rfl | (simp only [noRef, noRefs, noRefs_append, Bool.and_self, Bool.and_true, Bool.true_and, noRefs_ints, noRefs_lsts, noRefs_pad, noRefs_tnC, noRefs_arcC]; done)) | exact Rn.sl (Nat.zero_le _) rfl | exact Rn.ptr (Nat.zero_le _) rfl | exact Rn.map (Nat.zero_le _) rfl | exact Rn.slnil (Nat.zero_le _) rfl | refine RB.newnil rfl ?_ | refine RB.cells rfl rfl ?_ ?_ | refine RB.map rfl rfl ?_ ?_)), (by repeat (first | exact RT.nil | (refine RT.cons ?_ ?_; · (first | exact Rn.any | exact Rn.sl (Nat.zero_le _) rfl | exact Rn.ptr (Nat.zero_le _) rfl | exact Rn.map (Nat.zero_le _) rfl | exact Rn.slnil (Nat.zero_le _) rfl | (refine Rn.slot ?_ ?_; (first | rfl | (rw [Int.natCast_add]; rfl)); (first | rfl | (simp only [noRef, noRefs, noRefs_append, Bool.and_self, Bool.and_true, Bool.true_and, noRefs_ints, noRefs_lsts, noRefs_pad, noRefs_tnC, noRefs_arcC]; done)))))))⟩ ⟨Nat.zero_le _, fun j y hj => absurd hj (Nat.not_lt_zero _)⟩ ?_
  rintro i ⟨hi, hb⟩
  by_cases hlt : i < l.length
  · obtain ⟨x, hx⟩ := get_ex hlt
    simp (config := { maxSteps := 1000000 }) (disch := first | omega | (simp only [List.length_map, List.length_append, List.length_cons, List.length_nil, ints_len] <;> omega)) only [hlt, head_ints hx, wordsN, Int.reduceGT, wordsR, ne_eq, words, Nat.reduceAdd, Nat.reduceEqDiff, Nat.reduceBEq, ↓reduceIte, reduceCtorEq, SX.exit.injEq, if_true, if_false, Int.reduceAdd, Int.reduceSub, Int.reduceMul, Int.reduceLT, Int.reduceLE, Int.reduceEq, Int.reduceNe, Int.reduceNeg, Int.reduceToNat, Nat.reduceMul, Nat.reduceLT, Nat.reduceSub, Nat.reduceLeDiff]
    refine cp (hg x (List.mem_of_getElem? hx)) ?_
    cases hp : p x with
    | true =>
      simp (config := { maxSteps := 1000000 }) (disch := first | omega | (simp only [List.length_map, List.length_append, List.length_cons, List.length_nil, ints_len] <;> omega)) only [wordsN, Int.reduceGT, wordsR, ne_eq, words, Nat.reduceAdd, Nat.reduceEqDiff, Nat.reduceBEq, ↓reduceIte, reduceCtorEq, SX.exit.injEq, if_true, if_false, Int.reduceAdd, Int.reduceSub, Int.reduceMul, Int.reduceLT, Int.reduceLE, Int.reduceEq, Int.reduceNe, Int.reduceNeg, Int.reduceToNat, Nat.reduceMul, Nat.reduceLT, Nat.reduceSub, Nat.reduceLeDiff]
      exact ⟨.inr trivial, _, rfl, by rw [firstAt_found hx hp hb]; rfl⟩
    | false =>
      simp (config := { maxSteps := 1000000 }) (disch := first | omega | (simp only [List.length_map, List.length_append, List.length_cons, List.length_nil, ints_len] <;> omega)) only [wordsN, Int.reduceGT, wordsR, ne_eq, words, Nat.reduceAdd, Nat.reduceEqDiff, Nat.reduceBEq, ↓reduceIte, reduceCtorEq, SX.exit.injEq, if_true, if_false, Int.reduceAdd, Int.reduceSub, Int.reduceMul, Int.reduceLT, Int.reduceLE, Int.reduceEq, Int.reduceNe, Int.reduceNeg, Int.reduceToNat, Nat.reduceMul, Nat.reduceLT, Nat.reduceSub, Nat.reduceLeDiff]
      refine ⟨i + 1, by omega, ⟨by omega, fun j y hj hy => ?_⟩, ⟨[], rfl, (by repeat' (first | exact RB.nil | (refine RnL.same ?_; first | rfl | (simp only [noRef, noRefs, noRefs_append, Bool.and_self, Bool.and_true, Bool.true_and, noRefs_ints, noRefs_lsts, noRefs_pad, noRefs_tnC, noRefs_arcC]; done)) | exact RnL.nil | refine RnL.cons ?_ ?_ | (refine Rn.same ?_; first | rfl | (simp only [noRef, noRefs, noRefs_append, Bool.and_self, Bool.and_true, Bool.true_and, noRefs_ints, noRefs_lsts, noRefs_pad, noRefs_tnC, noRefs_arcC]; done)) | exact Rn.sl (Nat.zero_le _) rfl | exact Rn.ptr (Nat.zero_le _) rfl | exact Rn.map (Nat.zero_le _) rfl | exact Rn.slnil (Nat.zero_le _) rfl | refine RB.newnil rfl ?_ | refine RB.cells rfl rfl ?_ ?_ | refine RB.map rfl rfl ?_ ?_)), (by repeat (first | exact RT.nil | (refine RT.cons ?_ ?_; · (first | exact Rn.any | exact Rn.sl (Nat.zero_le _) rfl | exact Rn.ptr (Nat.zero_le _) rfl | exact Rn.map (Nat.zero_le _) rfl | exact Rn.slnil (Nat.zero_le _) rfl | (refine Rn.slot ?_ ?_; (first | rfl | (rw [Int.natCast_add]; rfl)); (first | rfl | (simp only [noRef, noRefs, noRefs_append, Bool.and_self, Bool.and_true, Bool.true_and, noRefs_ints, noRefs_lsts, noRefs_pad, noRefs_tnC, noRefs_arcC]; done)))))))⟩⟩
      by_cases e : j = i
      · subst e; rw [hx] at hy; cases hy; exact hp
      · exact hb j y (by omega) hy
  · simp (config := { maxSteps := 1000000 }) (disch := first | omega | (simp only [List.length_map, List.length_append, List.length_cons, List.length_nil, ints_len] <;> omega)) only [hlt, wordsN, Int.reduceGT, wordsR, ne_eq, words, Nat.reduceAdd, Nat.reduceEqDiff, Nat.reduceBEq, ↓reduceIte, reduceCtorEq, SX.exit.injEq, if_true, if_false, Int.reduceAdd, Int.reduceSub, Int.reduceMul, Int.reduceLT, Int.reduceLE, Int.reduceEq, Int.reduceNe, Int.reduceNeg, Int.reduceToNat, Nat.reduceMul, Nat.reduceLT, Nat.reduceSub, Nat.reduceLeDiff]
    exact ⟨.inr trivial, _, rfl, by rw [firstAt_none fun j y hy => hb j y (by have := (List.getElem?_eq_some_iff.1 hy).1; omega) hy]; rfl⟩
theorem containsG (g : Nat) (p : Int → Bool) (l : List Int) (hg : ∀ x ∈ l, PSpec Try.prog g [.int .i64 x] (.bool (p x))) (hl : l.length ≤ 1099511627776) :
    PSpec Try.prog 66 [sli l, .fn g [] []] (.bool (l.any p)) := by
  refine PSpec.of_flat 64 ok66 rfl (by simp [noRefs, noRef, noRefs_ints]) rfl ?_
  simp (config := { maxSteps := 1000000 }) (disch := first | omega | (simp only [List.length_map, List.length_append, List.length_cons, List.length_nil, ints_len] <;> omega)) only [s66, wordsN, Int.reduceGT, wordsR, ne_eq, words, Nat.reduceAdd, Nat.reduceEqDiff, Nat.reduceBEq, ↓reduceIte, reduceCtorEq, SX.exit.injEq, if_true, if_false, Int.reduceAdd, Int.reduceSub, Int.reduceMul, Int.reduceLT, Int.reduceLE, Int.reduceEq, Int.reduceNe, Int.reduceNeg, Int.reduceToNat, Nat.reduceMul, Nat.reduceLT, Nat.reduceSub, Nat.reduceLeDiff]
  refine cp (indexG g p l hg hl) ?_
  simp (config := { maxSteps := 1000000 }) (disch := first | omega | (simp only [List.length_map, List.length_append, List.length_cons, List.length_nil, ints_len] <;> omega)) only [firstAt_ge, wordsN, Int.reduceGT, wordsR, ne_eq, words, Nat.reduceAdd, Nat.reduceEqDiff, Nat.reduceBEq, ↓reduceIte, reduceCtorEq, SX.exit.injEq, if_true, if_false, Int.reduceAdd, Int.reduceSub, Int.reduceMul, Int.reduceLT, Int.reduceLE, Int.reduceEq, Int.reduceNe, Int.reduceNeg, Int.reduceToNat, Nat.reduceMul, Nat.reduceLT, Nat.reduceSub, Nat.reduceLeDiff]
  exact ⟨.inr trivial, _, rfl, rfl⟩
theorem withinG (l : List Int) (hl : l.length ≤ 1099511627776) : PSpec Try.prog 50 [sli l] (.int .i64 (if l.any badW = true then 2 else 0)) := by
  refine PSpec.of_flat 64 ok50 rfl (by simp [noRefs, noRef, noRefs_ints]) rfl ?_
  simp (config := { maxSteps := 1000000 }) (disch := first | omega | (simp only [List.length_map, List.length_append, List.length_cons, List.length_nil, ints_len] <;> omega)) only [s50, wordsN, Int.reduceGT, wordsR, ne_eq, words, Nat.reduceAdd, Nat.reduceEqDiff, Nat.reduceBEq, ↓reduceIte, reduceCtorEq, SX.exit.injEq, if_true, if_false, Int.reduceAdd, Int.reduceSub, Int.reduceMul, Int.reduceLT, Int.reduceLE, Int.reduceEq, Int.reduceNe, Int.reduceNeg, Int.reduceToNat, Nat.reduceMul, Nat.reduceLT, Nat.reduceSub, Nat.reduceLeDiff]
  refine cp (containsG 67 badW l (fun x _ => within1G x) hl) ?_
  cases l.any badW with
  | true => simp (config := { maxSteps := 1000000 }) (disch := first | omega | (simp only [List.length_map, List.length_append, List.length_cons, List.length_nil, ints_len] <;> omega)) only [wordsN, Int.reduceGT, wordsR, ne_eq, words, Nat.reduceAdd, Nat.reduceEqDiff, Nat.reduceBEq, ↓reduceIte, reduceCtorEq, SX.exit.injEq, if_true, if_false, Int.reduceAdd, Int.reduceSub, Int.reduceMul, Int.reduceLT, Int.reduceLE, Int.reduceEq, Int.reduceNe, Int.reduceNeg, Int.reduceToNat, Nat.reduceMul, Nat.reduceLT, Nat.reduceSub, Nat.reduceLeDiff]; exact ⟨.inr trivial, _, rfl, rfl⟩
  | false => simp (config := { maxSteps := 1000000 }) (disch := first | omega | (simp only [List.length_map, List.length_append, List.length_cons, List.length_nil, ints_len] <;> omega)) only [wordsN, Int.reduceGT, wordsR, ne_eq, words, Nat.reduceAdd, Nat.reduceEqDiff, Nat.reduceBEq, ↓reduceIte, reduceCtorEq, SX.exit.injEq, if_true, if_false, Int.reduceAdd, Int.reduceSub, Int.reduceMul, Int.reduceLT, Int.reduceLE, Int.reduceEq, Int.reduceNe, Int.reduceNeg, Int.reduceToNat, Nat.reduceMul, Nat.reduceLT, Nat.reduceSub, Nat.reduceLeDiff]; exact ⟨.inr trivial, _, rfl, rfl⟩
/-- The error of weights of which there should be n. -/
def wErr (l : List Int) (n : Nat) : Int := if l.length = n then (if l.any badW = true then 2 else 0) else 4
theorem wErr_ok {l : List Int} {n : Nat} (h : wErr l n = 0) : l.length = n ∧ ∀ x ∈ l, okT x := by
  unfold wErr at h
  split at h
  · rename_i hl
    split at h
    · cases h
    · rename_i ha
      refine ⟨hl, fun x hx => badW_of ?_⟩
      cases hb : badW x with
      | false => rfl
      | true => exact absurd (List.any_eq_true.2 ⟨x, hx, hb⟩) ha
  · cases h
theorem weighG (l : List Int) (n : Nat) (hl : l.length ≤ 1099511627776) (hn : n ≤ 1099511627776) : PSpec Try.prog 47 [sli l, .int .i64 n] (.int .i64 (wErr l n)) := by
  refine PSpec.of_flat 64 ok47 rfl (by simp [noRefs, noRef, noRefs_ints]) rfl ?_
  unfold wErr
  by_cases h : l.length = n
  · simp (config := { maxSteps := 1000000 }) (disch := first | omega | (simp only [List.length_map, List.length_append, List.length_cons, List.length_nil, ints_len] <;> omega)) only [s47, h, wordsN, Int.reduceGT, wordsR, ne_eq, words, Nat.reduceAdd, Nat.reduceEqDiff, Nat.reduceBEq, ↓reduceIte, reduceCtorEq, SX.exit.injEq, if_true, if_false, Int.reduceAdd, Int.reduceSub, Int.reduceMul, Int.reduceLT, Int.reduceLE, Int.reduceEq, Int.reduceNe, Int.reduceNeg, Int.reduceToNat, Nat.reduceMul, Nat.reduceLT, Nat.reduceSub, Nat.reduceLeDiff]
    refine cp (withinG l hl) ?_
    simp (config := { maxSteps := 1000000 }) (disch := first | omega | (simp only [List.length_map, List.length_append, List.length_cons, List.length_nil, ints_len] <;> omega)) only [h, wordsN, Int.reduceGT, wordsR, ne_eq, words, Nat.reduceAdd, Nat.reduceEqDiff, Nat.reduceBEq, ↓reduceIte, reduceCtorEq, SX.exit.injEq, if_true, if_false, Int.reduceAdd, Int.reduceSub, Int.reduceMul, Int.reduceLT, Int.reduceLE, Int.reduceEq, Int.reduceNe, Int.reduceNeg, Int.reduceToNat, Nat.reduceMul, Nat.reduceLT, Nat.reduceSub, Nat.reduceLeDiff]
    exact ⟨.inr trivial, _, rfl, rfl⟩
  · simp (config := { maxSteps := 1000000 }) (disch := first | omega | (simp only [List.length_map, List.length_append, List.length_cons, List.length_nil, ints_len] <;> omega)) only [s47, h, wordsN, Int.reduceGT, wordsR, ne_eq, words, Nat.reduceAdd, Nat.reduceEqDiff, Nat.reduceBEq, ↓reduceIte, reduceCtorEq, SX.exit.injEq, if_true, if_false, Int.reduceAdd, Int.reduceSub, Int.reduceMul, Int.reduceLT, Int.reduceLE, Int.reduceEq, Int.reduceNe, Int.reduceNeg, Int.reduceToNat, Nat.reduceMul, Nat.reduceLT, Nat.reduceSub, Nat.reduceLeDiff]
    exact ⟨.inr trivial, _, rfl, by simp [resOf, lk_cons]⟩
theorem checkWeights (l : List Int) (n : Nat) (hl : l.length ≤ 1099511627776) (hn : n ≤ 1099511627776) : PSpec Try.prog 19 [sli l, .int .i64 n] (.int .i64 (wErr l n)) := by
  refine PSpec.of_flat 64 ok19 rfl (by simp [noRefs, noRef, noRefs_ints]) rfl ?_
  unfold wErr
  by_cases h : l.length = n
  · rw [if_pos h]
    simp (config := { maxSteps := 1000000 }) (disch := first | omega | (simp only [List.length_map, List.length_append, List.length_cons, List.length_nil, ints_len] <;> omega)) only [s19, h, wordsN, Int.reduceGT, wordsR, ne_eq, words, Nat.reduceAdd, Nat.reduceEqDiff, Nat.reduceBEq, ↓reduceIte, reduceCtorEq, SX.exit.injEq, if_true, if_false, Int.reduceAdd, Int.reduceSub, Int.reduceMul, Int.reduceLT, Int.reduceLE, Int.reduceEq, Int.reduceNe, Int.reduceNeg, Int.reduceToNat, Nat.reduceMul, Nat.reduceLT, Nat.reduceSub, Nat.reduceLeDiff]
    refine wS_loopR 100 (fun i : Nat => [(0, sli l), (5, .int .i64 i)]) (fun _ => []) (fun i => i ≤ l.length ∧ ∀ j y, j < i → l[j]? = some y → badW y = false) (fun i => l.length - i) 0 ⟨[], rfl, (by repeat' (first | exact RB.nil | (refine RnL.same ?_; first | rfl | (simp only [noRef, noRefs, noRefs_append, Bool.and_self, Bool.and_true, Bool.true_and, noRefs_ints, noRefs_lsts, noRefs_pad, noRefs_tnC, noRefs_arcC]; done)) | exact RnL.nil | refine RnL.cons ?_ ?_ | (refine Rn.same ?_; first | rfl | (simp only [noRef, noRefs, noRefs_append, Bool.and_self, Bool.and_true, Bool.true_and, noRefs_ints, noRefs_lsts, noRefs_pad, noRefs_tnC, noRefs_arcC]; done)) | exact Rn.sl (Nat.zero_le _) rfl | exact Rn.ptr (Nat.zero_le _) rfl | exact Rn.map (Nat.zero_le _) rfl | exact Rn.slnil (Nat.zero_le _) rfl | refine RB.newnil rfl ?_ | refine RB.cells rfl rfl ?_ ?_ | refine RB.map rfl rfl ?_ ?_)), (by repeat (first | exact RT.nil | (refine RT.cons ?_ ?_; · (first | exact Rn.any | exact Rn.sl (Nat.zero_le _) rfl | exact Rn.ptr (Nat.zero_le _) rfl | exact Rn.map (Nat.zero_le _) rfl | exact Rn.slnil (Nat.zero_le _) rfl | (refine Rn.slot ?_ ?_; (first | rfl | (rw [Int.natCast_add]; rfl)); (first | rfl | (simp only [noRef, noRefs, noRefs_append, Bool.and_self, Bool.and_true, Bool.true_and, noRefs_ints, noRefs_lsts, noRefs_pad, noRefs_tnC, noRefs_arcC]; done)))))))⟩ ⟨Nat.zero_le _, fun j y hj => absurd hj (Nat.not_lt_zero _)⟩ ?_
    rintro i ⟨hi, hb⟩
    by_cases hlt : i < l.length
    · obtain ⟨x, hx⟩ := get_ex hlt
      simp (config := { maxSteps := 1000000 }) (disch := first | omega | (simp only [List.length_map, List.length_append, List.length_cons, List.length_nil, ints_len] <;> omega)) only [hlt, head_ints hx, wordsN, Int.reduceGT, wordsR, ne_eq, words, Nat.reduceAdd, Nat.reduceEqDiff, Nat.reduceBEq, ↓reduceIte, reduceCtorEq, SX.exit.injEq, if_true, if_false, Int.reduceAdd, Int.reduceSub, Int.reduceMul, Int.reduceLT, Int.reduceLE, Int.reduceEq, Int.reduceNe, Int.reduceNeg, Int.reduceToNat, Nat.reduceMul, Nat.reduceLT, Nat.reduceSub, Nat.reduceLeDiff]
      refine cp (small x) ?_
      cases hp : badW x with
      | true =>
        simp (config := { maxSteps := 1000000 }) (disch := first | omega | (simp only [List.length_map, List.length_append, List.length_cons, List.length_nil, ints_len] <;> omega)) only [wordsN, Int.reduceGT, wordsR, ne_eq, words, Nat.reduceAdd, Nat.reduceEqDiff, Nat.reduceBEq, ↓reduceIte, reduceCtorEq, SX.exit.injEq, if_true, if_false, Int.reduceAdd, Int.reduceSub, Int.reduceMul, Int.reduceLT, Int.reduceLE, Int.reduceEq, Int.reduceNe, Int.reduceNeg, Int.reduceToNat, Nat.reduceMul, Nat.reduceLT, Nat.reduceSub, Nat.reduceLeDiff]
        exact ⟨.inr trivial, _, rfl, by rw [if_pos (any_of hx hp)]; rfl⟩
      | false =>
        simp (config := { maxSteps := 1000000 }) (disch := first | omega | (simp only [List.length_map, List.length_append, List.length_cons, List.length_nil, ints_len] <;> omega)) only [wordsN, Int.reduceGT, wordsR, ne_eq, words, Nat.reduceAdd, Nat.reduceEqDiff, Nat.reduceBEq, ↓reduceIte, reduceCtorEq, SX.exit.injEq, if_true, if_false, Int.reduceAdd, Int.reduceSub, Int.reduceMul, Int.reduceLT, Int.reduceLE, Int.reduceEq, Int.reduceNe, Int.reduceNeg, Int.reduceToNat, Nat.reduceMul, Nat.reduceLT, Nat.reduceSub, Nat.reduceLeDiff]
        refine ⟨i + 1, by omega, ⟨by omega, fun j y hj hy => ?_⟩, ⟨[], rfl, (by repeat' (first | exact RB.nil | (refine RnL.same ?_; first | rfl | (simp only [noRef, noRefs, noRefs_append, Bool.and_self, Bool.and_true, Bool.true_and, noRefs_ints, noRefs_lsts, noRefs_pad, noRefs_tnC, noRefs_arcC]; done)) | exact RnL.nil | refine RnL.cons ?_ ?_ | (refine Rn.same ?_; first | rfl | (simp only [noRef, noRefs, noRefs_append, Bool.and_self, Bool.and_true, Bool.true_and, noRefs_ints, noRefs_lsts, noRefs_pad, noRefs_tnC, noRefs_arcC]; done)) | exact Rn.sl (Nat.zero_le _) rfl | exact Rn.ptr (Nat.zero_le _) rfl | exact Rn.map (Nat.zero_le _) rfl | exact Rn.slnil (Nat.zero_le _) rfl | refine RB.newnil rfl ?_ | refine RB.cells rfl rfl ?_ ?_ | refine RB.map rfl rfl ?_ ?_)), (by repeat (first | exact RT.nil | (refine RT.cons ?_ ?_; · (first | exact Rn.any | exact Rn.sl (Nat.zero_le _) rfl | exact Rn.ptr (Nat.zero_le _) rfl | exact Rn.map (Nat.zero_le _) rfl | exact Rn.slnil (Nat.zero_le _) rfl | (refine Rn.slot ?_ ?_; (first | rfl | (rw [Int.natCast_add]; rfl)); (first | rfl | (simp only [noRef, noRefs, noRefs_append, Bool.and_self, Bool.and_true, Bool.true_and, noRefs_ints, noRefs_lsts, noRefs_pad, noRefs_tnC, noRefs_arcC]; done)))))))⟩⟩
        by_cases e : j = i
        · subst e; rw [hx] at hy; cases hy; exact hp
        · exact hb j y (by omega) hy
    · simp (config := { maxSteps := 1000000 }) (disch := first | omega | (simp only [List.length_map, List.length_append, List.length_cons, List.length_nil, ints_len] <;> omega)) only [hlt, wordsN, Int.reduceGT, wordsR, ne_eq, words, Nat.reduceAdd, Nat.reduceEqDiff, Nat.reduceBEq, ↓reduceIte, reduceCtorEq, SX.exit.injEq, if_true, if_false, Int.reduceAdd, Int.reduceSub, Int.reduceMul, Int.reduceLT, Int.reduceLE, Int.reduceEq, Int.reduceNe, Int.reduceNeg, Int.reduceToNat, Nat.reduceMul, Nat.reduceLT, Nat.reduceSub, Nat.reduceLeDiff]
      refine ⟨.inr trivial, _, rfl, ?_⟩
      rw [any_no fun j y hj hy => hb j y (by omega) hy]; rfl
  · rw [if_neg h]
    simp (config := { maxSteps := 1000000 }) (disch := first | omega | (simp only [List.length_map, List.length_append, List.length_cons, List.length_nil, ints_len] <;> omega)) only [s19, h, wordsN, Int.reduceGT, wordsR, ne_eq, words, Nat.reduceAdd, Nat.reduceEqDiff, Nat.reduceBEq, ↓reduceIte, reduceCtorEq, SX.exit.injEq, if_true, if_false, Int.reduceAdd, Int.reduceSub, Int.reduceMul, Int.reduceLT, Int.reduceLE, Int.reduceEq, Int.reduceNe, Int.reduceNeg, Int.reduceToNat, Nat.reduceMul, Nat.reduceLT, Nat.reduceSub, Nat.reduceLeDiff]
    exact ⟨.inr trivial, _, rfl, rfl⟩

/-! ### values -/
theorem valueG (a b : List Int) (hab : a.length ≤ b.length) (hl : a.length ≤ 1000) (ha : ∀ x ∈ a, sm x) (hb : ∀ x ∈ b, sm x) : PSpec Try.prog 25 [sli a, sli b] (.int .i64 (rowSum a b)) := by
  refine PSpec.of_flat 64 ok25 rfl (by simp [noRefs, noRef, noRefs_ints]) rfl ?_
  simp (config := { maxSteps := 1000000 }) (disch := first | omega | (simp only [List.length_map, List.length_append, List.length_cons, List.length_nil, ints_len] <;> omega)) only [s25, wordsN, Int.reduceGT, wordsR, ne_eq, words, Nat.reduceAdd, Nat.reduceEqDiff, Nat.reduceBEq, ↓reduceIte, reduceCtorEq, SX.exit.injEq, if_true, if_false, Int.reduceAdd, Int.reduceSub, Int.reduceMul, Int.reduceLT, Int.reduceLE, Int.reduceEq, Int.reduceNe, Int.reduceNeg, Int.reduceToNat, Nat.reduceMul, Nat.reduceLT, Nat.reduceSub, Nat.reduceLeDiff]
  refine wS_loopR 100 (fun i : Nat => [(0, sli a), (1, sli b), (5, .int .i64 (rowSum (a.take i) (b.take i))), (6, .int .i64 i)]) (fun _ => []) (fun i => i ≤ a.length) (fun i => a.length - i) 0 ⟨[], rfl, (by repeat' (first | exact RB.nil | (refine RnL.same ?_; first | rfl | (simp only [noRef, noRefs, noRefs_append, Bool.and_self, Bool.and_true, Bool.true_and, noRefs_ints, noRefs_lsts, noRefs_pad, noRefs_tnC, noRefs_arcC]; done)) | exact RnL.nil | refine RnL.cons ?_ ?_ | (refine Rn.same ?_; first | rfl | (simp only [noRef, noRefs, noRefs_append, Bool.and_self, Bool.and_true, Bool.true_and, noRefs_ints, noRefs_lsts, noRefs_pad, noRefs_tnC, noRefs_arcC]; done)) | exact Rn.sl (Nat.zero_le _) rfl | exact Rn.ptr (Nat.zero_le _) rfl | exact Rn.map (Nat.zero_le _) rfl | exact Rn.slnil (Nat.zero_le _) rfl | refine RB.newnil rfl ?_ | refine RB.cells rfl rfl ?_ ?_ | refine RB.map rfl rfl ?_ ?_)), (by repeat (first | exact RT.nil | (refine RT.cons ?_ ?_; · (first | exact Rn.any | exact Rn.sl (Nat.zero_le _) rfl | exact Rn.ptr (Nat.zero_le _) rfl | exact Rn.map (Nat.zero_le _) rfl | exact Rn.slnil (Nat.zero_le _) rfl | (refine Rn.slot ?_ ?_; (first | rfl | (rw [Int.natCast_add]; rfl)); (first | rfl | (simp only [noRef, noRefs, noRefs_append, Bool.and_self, Bool.and_true, Bool.true_and, noRefs_ints, noRefs_lsts, noRefs_pad, noRefs_tnC, noRefs_arcC]; done)))))))⟩ (Nat.zero_le _) ?_
  intro i hi
  by_cases hlt : i < a.length
  · obtain ⟨x, hx⟩ := get_ex hlt
    obtain ⟨y, hy⟩ := get_ex (l := b) (i := i) (by omega)
    have hlt2 : i < b.length := by omega
    have h1 := mul_sm (ha x (List.mem_of_getElem? hx)) (hb y (List.mem_of_getElem? hy))
    have h2 := rowSum_bound (l := a.take i) (m := b.take i) (fun z hz => ha z (List.mem_of_mem_take hz)) (fun z hz => hb z (List.mem_of_mem_take hz))
    have h3 : (a.take i).length = i := by simp; omega
    rw [h3] at h2
    have hs := rowSum_take hx hy
    simp (config := { maxSteps := 1000000 }) (disch := first | omega | (simp only [List.length_map, List.length_append, List.length_cons, List.length_nil, ints_len] <;> omega)) only [hlt, hlt2, head_ints hx, head_ints hy, wordsN, Int.reduceGT, wordsR, ne_eq, words, Nat.reduceAdd, Nat.reduceEqDiff, Nat.reduceBEq, ↓reduceIte, reduceCtorEq, SX.exit.injEq, if_true, if_false, Int.reduceAdd, Int.reduceSub, Int.reduceMul, Int.reduceLT, Int.reduceLE, Int.reduceEq, Int.reduceNe, Int.reduceNeg, Int.reduceToNat, Nat.reduceMul, Nat.reduceLT, Nat.reduceSub, Nat.reduceLeDiff]
    refine ⟨i + 1, by omega, by omega, ?_⟩
    rw [hs]
    exact ⟨[], rfl, (by repeat' (first | exact RB.nil | (refine RnL.same ?_; first | rfl | (simp only [noRef, noRefs, noRefs_append, Bool.and_self, Bool.and_true, Bool.true_and, noRefs_ints, noRefs_lsts, noRefs_pad, noRefs_tnC, noRefs_arcC]; done)) | exact RnL.nil | refine RnL.cons ?_ ?_ | (refine Rn.same ?_; first | rfl | (simp only [noRef, noRefs, noRefs_append, Bool.and_self, Bool.and_true, Bool.true_and, noRefs_ints, noRefs_lsts, noRefs_pad, noRefs_tnC, noRefs_arcC]; done)) | exact Rn.sl (Nat.zero_le _) rfl | exact Rn.ptr (Nat.zero_le _) rfl | exact Rn.map (Nat.zero_le _) rfl | exact Rn.slnil (Nat.zero_le _) rfl | refine RB.newnil rfl ?_ | refine RB.cells rfl rfl ?_ ?_ | refine RB.map rfl rfl ?_ ?_)), (by repeat (first | exact RT.nil | (refine RT.cons ?_ ?_; · (first | exact Rn.any | exact Rn.sl (Nat.zero_le _) rfl | exact Rn.ptr (Nat.zero_le _) rfl | exact Rn.map (Nat.zero_le _) rfl | exact Rn.slnil (Nat.zero_le _) rfl | (refine Rn.slot ?_ ?_; (first | rfl | (rw [Int.natCast_add]; rfl)); (first | rfl | (simp only [noRef, noRefs, noRefs_append, Bool.and_self, Bool.and_true, Bool.true_and, noRefs_ints, noRefs_lsts, noRefs_pad, noRefs_tnC, noRefs_arcC]; done)))))))⟩
  · have e : i = a.length := by omega
    have h1 : rowSum (a.take i) (b.take i) = rowSum a b := by
      rw [e, List.take_length]
      have : ∀ (a b : List Int), rowSum a (b.take a.length) = rowSum a b := by
        intro a
        induction a with
        | nil => intro b; cases b <;> rfl
        | cons x a ih => intro b; cases b with
          | nil => rfl
          | cons y b => simp only [List.length_cons, List.take_succ_cons, rowSum, ih]
      exact this a b
    simp (config := { maxSteps := 1000000 }) (disch := first | omega | (simp only [List.length_map, List.length_append, List.length_cons, List.length_nil, ints_len] <;> omega)) only [hlt, h1, wordsN, Int.reduceGT, wordsR, ne_eq, words, Nat.reduceAdd, Nat.reduceEqDiff, Nat.reduceBEq, ↓reduceIte, reduceCtorEq, SX.exit.injEq, if_true, if_false, Int.reduceAdd, Int.reduceSub, Int.reduceMul, Int.reduceLT, Int.reduceLE, Int.reduceEq, Int.reduceNe, Int.reduceNeg, Int.reduceToNat, Nat.reduceMul, Nat.reduceLT, Nat.reduceSub, Nat.reduceLeDiff]
    exact ⟨.inr trivial, _, rfl, rfl⟩
theorem valueP (a b : List Int) (hab : a.length ≤ b.length) (hl : a.length ≤ 1000) (ha : ∀ x ∈ a, sm x) (hb : ∀ x ∈ b, sm x) : PSpec Try.prog 46 [sli a, sli b] (.int .i64 (rowSum a b)) := by
  refine PSpec.of_flat 64 ok46 rfl (by simp [noRefs, noRef, noRefs_ints]) rfl ?_
  simp (config := { maxSteps := 1000000 }) (disch := first | omega | (simp only [List.length_map, List.length_append, List.length_cons, List.length_nil, ints_len] <;> omega)) only [s46, wordsN, Int.reduceGT, wordsR, ne_eq, words, Nat.reduceAdd, Nat.reduceEqDiff, Nat.reduceBEq, ↓reduceIte, reduceCtorEq, SX.exit.injEq, if_true, if_false, Int.reduceAdd, Int.reduceSub, Int.reduceMul, Int.reduceLT, Int.reduceLE, Int.reduceEq, Int.reduceNe, Int.reduceNeg, Int.reduceToNat, Nat.reduceMul, Nat.reduceLT, Nat.reduceSub, Nat.reduceLeDiff]
  refine wS_loopR 100 (fun i : Nat => [(1, sli b), (5, .int .i64 (rowSum (a.take i) (b.take i))), (8, sli a), (9, .int .i64 a.length), (10, .int .i64 i)]) (fun _ => []) (fun i => i ≤ a.length) (fun i => a.length - i) 0 ⟨[], rfl, (by repeat' (first | exact RB.nil | (refine RnL.same ?_; first | rfl | (simp only [noRef, noRefs, noRefs_append, Bool.and_self, Bool.and_true, Bool.true_and, noRefs_ints, noRefs_lsts, noRefs_pad, noRefs_tnC, noRefs_arcC]; done)) | exact RnL.nil | refine RnL.cons ?_ ?_ | (refine Rn.same ?_; first | rfl | (simp only [noRef, noRefs, noRefs_append, Bool.and_self, Bool.and_true, Bool.true_and, noRefs_ints, noRefs_lsts, noRefs_pad, noRefs_tnC, noRefs_arcC]; done)) | exact Rn.sl (Nat.zero_le _) rfl | exact Rn.ptr (Nat.zero_le _) rfl | exact Rn.map (Nat.zero_le _) rfl | exact Rn.slnil (Nat.zero_le _) rfl | refine RB.newnil rfl ?_ | refine RB.cells rfl rfl ?_ ?_ | refine RB.map rfl rfl ?_ ?_)), (by repeat (first | exact RT.nil | (refine RT.cons ?_ ?_; · (first | exact Rn.any | exact Rn.sl (Nat.zero_le _) rfl | exact Rn.ptr (Nat.zero_le _) rfl | exact Rn.map (Nat.zero_le _) rfl | exact Rn.slnil (Nat.zero_le _) rfl | (refine Rn.slot ?_ ?_; (first | rfl | (rw [Int.natCast_add]; rfl)); (first | rfl | (simp only [noRef, noRefs, noRefs_append, Bool.and_self, Bool.and_true, Bool.true_and, noRefs_ints, noRefs_lsts, noRefs_pad, noRefs_tnC, noRefs_arcC]; done)))))))⟩ (Nat.zero_le _) ?_
  intro i hi
  by_cases hlt : i < a.length
  · obtain ⟨x, hx⟩ := get_ex hlt
    obtain ⟨y, hy⟩ := get_ex (l := b) (i := i) (by omega)
    have hlt2 : i < b.length := by omega
    have h1 := mul_sm (ha x (List.mem_of_getElem? hx)) (hb y (List.mem_of_getElem? hy))
    have h2 := rowSum_bound (l := a.take i) (m := b.take i) (fun z hz => ha z (List.mem_of_mem_take hz)) (fun z hz => hb z (List.mem_of_mem_take hz))
    have h3 : (a.take i).length = i := by simp; omega
    rw [h3] at h2
    have hs := rowSum_take hx hy
    simp (config := { maxSteps := 1000000 }) (disch := first | omega | (simp only [List.length_map, List.length_append, List.length_cons, List.length_nil, ints_len] <;> omega)) only [hlt, hlt2, head_ints hx, head_ints hy, wordsN, Int.reduceGT, wordsR, ne_eq, words, Nat.reduceAdd, Nat.reduceEqDiff, Nat.reduceBEq, ↓reduceIte, reduceCtorEq, SX.exit.injEq, if_true, if_false, Int.reduceAdd, Int.reduceSub, Int.reduceMul, Int.reduceLT, Int.reduceLE, Int.reduceEq, Int.reduceNe, Int.reduceNeg, Int.reduceToNat, Nat.reduceMul, Nat.reduceLT, Nat.reduceSub, Nat.reduceLeDiff]
    refine ⟨i + 1, by omega, by omega, ?_⟩
    rw [hs]
    exact ⟨[], rfl, (by repeat' (first | exact RB.nil | (refine RnL.same ?_; first | rfl | (simp only [noRef, noRefs, noRefs_append, Bool.and_self, Bool.and_true, Bool.true_and, noRefs_ints, noRefs_lsts, noRefs_pad, noRefs_tnC, noRefs_arcC]; done)) | exact RnL.nil | refine RnL.cons ?_ ?_ | (refine Rn.same ?_; first | rfl | (simp only [noRef, noRefs, noRefs_append, Bool.and_self, Bool.and_true, Bool.true_and, noRefs_ints, noRefs_lsts, noRefs_pad, noRefs_tnC, noRefs_arcC]; done)) | exact Rn.sl (Nat.zero_le _) rfl | exact Rn.ptr (Nat.zero_le _) rfl | exact Rn.map (Nat.zero_le _) rfl | exact Rn.slnil (Nat.zero_le _) rfl | refine RB.newnil rfl ?_ | refine RB.cells rfl rfl ?_ ?_ | refine RB.map rfl rfl ?_ ?_)), (by repeat (first | exact RT.nil | (refine RT.cons ?_ ?_; · (first | exact Rn.any | exact Rn.sl (Nat.zero_le _) rfl | exact Rn.ptr (Nat.zero_le _) rfl | exact Rn.map (Nat.zero_le _) rfl | exact Rn.slnil (Nat.zero_le _) rfl | (refine Rn.slot ?_ ?_; (first | rfl | (rw [Int.natCast_add]; rfl)); (first | rfl | (simp only [noRef, noRefs, noRefs_append, Bool.and_self, Bool.and_true, Bool.true_and, noRefs_ints, noRefs_lsts, noRefs_pad, noRefs_tnC, noRefs_arcC]; done)))))))⟩
  · have e : i = a.length := by omega
    have h1 : rowSum (a.take i) (b.take i) = rowSum a b := by
      rw [e, List.take_length]
      have : ∀ (a b : List Int), rowSum a (b.take a.length) = rowSum a b := by
        intro a
        induction a with
        | nil => intro b; cases b <;> rfl
        | cons x a ih => intro b; cases b with
          | nil => rfl
          | cons y b => simp only [List.length_cons, List.take_succ_cons, rowSum, ih]
      exact this a b
    simp (config := { maxSteps := 1000000 }) (disch := first | omega | (simp only [List.length_map, List.length_append, List.length_cons, List.length_nil, ints_len] <;> omega)) only [hlt, h1, wordsN, Int.reduceGT, wordsR, ne_eq, words, Nat.reduceAdd, Nat.reduceEqDiff, Nat.reduceBEq, ↓reduceIte, reduceCtorEq, SX.exit.injEq, if_true, if_false, Int.reduceAdd, Int.reduceSub, Int.reduceMul, Int.reduceLT, Int.reduceLE, Int.reduceEq, Int.reduceNe, Int.reduceNeg, Int.reduceToNat, Nat.reduceMul, Nat.reduceLT, Nat.reduceSub, Nat.reduceLeDiff]
    exact ⟨.inr trivial, _, rfl, rfl⟩

/-! ### the check of lists of weights -/
def chk1 (x : Nt) (w : List Int) : Int := if wErr w x.ini.length = 0 then (if flowsR (tabR x 1) w = true then 0 else 6) else wErr w x.ini.length
def chkR (x : Nt) : List (List Int) → Int
  | [] => 0
  | w :: l => if chk1 x w = 0 then chkR x l else chk1 x w
theorem chkR_take (x : Nt) : ∀ (l : List (List Int)) (i : Nat) (w : List Int), l[i]? = some w → chkR x (l.take (i + 1)) = if chkR x (l.take i) = 0 then chk1 x w else chkR x (l.take i)
  | [], i, w, h => by simp at h
  | a :: l, 0, w, h => by
    simp at h; subst h
    simp only [List.take_succ_cons, List.take_zero, chkR]
    by_cases h0 : chk1 x a = 0 <;> simp [h0]
  | a :: l, i + 1, w, h => by
    simp at h
    have := chkR_take x l i w h
    simp only [List.take_succ_cons, chkR] at this ⊢
    by_cases h0 : chk1 x a = 0
    · simp only [if_pos h0]; exact this
    · simp only [if_neg h0, if_neg h0]

theorem flows1 (x : Nt) (ho : NetOk x) (w : List Int) (h : wErr w x.ini.length = 0) : PSpec Try.prog 49 [tabV (tabC x 1) (tabR x 1), sli w] (.bool (flowsR (tabR x 1) w)) := by
  obtain ⟨h1, h2⟩ := wErr_ok h
  have hp := ho.places
  have ht := ho.trans
  have hsm1 : ∀ (r : List Int), (∀ y ∈ r, -8 ≤ y ∧ y ≤ 8) → ∀ y ∈ r, sm y := fun r hr y hy => by have := hr y hy; unfold sm; omega
  exact flows _ _ _ (by simp [tabC]; omega) (by simp [tabR, colM]; omega) (by rw [h1]; rfl) (tabR_len x 1) (tabR_all 1 (fun p => hsm1 _ (incR_bound ho p)) (fun t => hsm1 _ (colR_bound ho t)))
    (fun y hy => by have := h2 y hy; unfold okT at this; unfold sm; omega)
theorem noRef_tab (k : Nat) (R : List (List Int)) : noRef (tabV k R) = true := by simp only [noRef, noRefs, noRefs_pad]; rfl

set_option maxHeartbeats 8000000 in
theorem chk (x : Nt) (ho : NetOk x) (l : List (List Int)) (hl : l.length ≤ 1000) (hll : ∀ w ∈ l, w.length ≤ 1000) : PSpec Try.prog 45 [netV x, lsts l] (.int .i64 (chkR x l)) := by
  refine PSpec.of_rn 64 ok45 rfl (by (try simp only [noRefs, noRef_net, noRef_sli, noRef_lsts, noRef_arcs, noRef_tns]) <;> rfl) rfl ?_
  have hp := ho.places
  simp (config := { maxSteps := 1000000 }) (disch := first | omega | (simp only [List.length_map, List.length_append, List.length_cons, List.length_nil, ints_len] <;> omega)) only [s45, wordsN, Int.reduceGT, wordsR, ne_eq, words, Nat.reduceAdd, Nat.reduceEqDiff, Nat.reduceBEq, ↓reduceIte, reduceCtorEq, SX.exit.injEq, if_true, if_false, Int.reduceAdd, Int.reduceSub, Int.reduceMul, Int.reduceLT, Int.reduceLE, Int.reduceEq, Int.reduceNe, Int.reduceNeg, Int.reduceToNat, Nat.reduceMul, Nat.reduceLT, Nat.reduceSub, Nat.reduceLeDiff]
  refine cp (newTable1 x ho) ?_
  simp (config := { maxSteps := 1000000 }) (disch := first | omega | (simp only [List.length_map, List.length_append, List.length_cons, List.length_nil, ints_len] <;> omega)) only [wordsN, Int.reduceGT, wordsR, ne_eq, words, Nat.reduceAdd, Nat.reduceEqDiff, Nat.reduceBEq, ↓reduceIte, reduceCtorEq, SX.exit.injEq, if_true, if_false, Int.reduceAdd, Int.reduceSub, Int.reduceMul, Int.reduceLT, Int.reduceLE, Int.reduceEq, Int.reduceNe, Int.reduceNeg, Int.reduceToNat, Nat.reduceMul, Nat.reduceLT, Nat.reduceSub, Nat.reduceLeDiff]
  refine wS_loopR 100 (fun i : Nat => [(5, .ptr 50 0 0), (18, lsts l), (19, .int .i64 l.length), (20, .int .i64 i)]) (fun _ => [(50, .cells 0 [.int .i64 (tabC x 1), .fsl ((tabR x 1).flatMap pad) (tabR x 1).length 10])])
    (fun i => i ≤ l.length ∧ chkR x (l.take i) = 0) (fun i => l.length - i) 0 ⟨[(50, .blk 71 0)], rfl, (by repeat' (first | exact RB.nil | (refine RnL.same ?_; first | rfl | (simp only [noRef, noRefs, noRefs_append, Bool.and_self, Bool.and_true, Bool.true_and, noRefs_ints, noRefs_lsts, noRefs_pad, noRefs_tnC, noRefs_arcC]; done)) | exact RnL.nil | refine RnL.cons ?_ ?_ | (refine Rn.same ?_; first | rfl | (simp only [noRef, noRefs, noRefs_append, Bool.and_self, Bool.and_true, Bool.true_and, noRefs_ints, noRefs_lsts, noRefs_pad, noRefs_tnC, noRefs_arcC]; done)) | exact Rn.sl (Nat.zero_le _) rfl | exact Rn.ptr (Nat.zero_le _) rfl | exact Rn.map (Nat.zero_le _) rfl | exact Rn.slnil (Nat.zero_le _) rfl | refine RB.newnil rfl ?_ | refine RB.cells rfl rfl ?_ ?_ | refine RB.map rfl rfl ?_ ?_)), (by repeat (first | exact RT.nil | (refine RT.cons ?_ ?_; · (first | exact Rn.any | exact Rn.sl (Nat.zero_le _) rfl | exact Rn.ptr (Nat.zero_le _) rfl | exact Rn.map (Nat.zero_le _) rfl | exact Rn.slnil (Nat.zero_le _) rfl | (refine Rn.slot ?_ ?_; (first | rfl | (rw [Int.natCast_add]; rfl)); (first | rfl | (simp only [noRef, noRefs, noRefs_append, Bool.and_self, Bool.and_true, Bool.true_and, noRefs_ints, noRefs_lsts, noRefs_pad, noRefs_tnC, noRefs_arcC]; done)))))))⟩ ⟨Nat.zero_le _, rfl⟩ ?_
  rintro i ⟨hi, hb⟩
  by_cases hlt : i < l.length
  · obtain ⟨w, hw⟩ := get_ex hlt
    have hwl := hll w (List.mem_of_getElem? hw)
    have hs := chkR_take x l i w hw
    rw [if_pos hb] at hs
    have hwe := weighG w (tabC x 1) (by omega) (by simp [tabC]; omega)
    have hrest : ∀ k, chkR x (l.take k) ≠ 0 → chkR x l = chkR x (l.take k) := by
      intro k
      have : ∀ (l : List (List Int)) (k : Nat), chkR x (l.take k) ≠ 0 → chkR x l = chkR x (l.take k) := by
        intro l
        induction l with
        | nil => intro k hk; simp
        | cons a l ih =>
          intro k hk
          cases k with
          | zero => simp [chkR] at hk
          | succ k =>
            simp only [List.take_succ_cons, chkR] at hk ⊢
            by_cases h0 : chk1 x a = 0
            · simp only [if_pos h0] at hk ⊢; exact ih k hk
            · simp only [if_neg h0]
      exact this l k
    simp (config := { maxSteps := 1000000 }) (disch := first | omega | (simp only [List.length_map, List.length_append, List.length_cons, List.length_nil, ints_len] <;> omega)) only [hlt, head_lsts hw, wordsN, Int.reduceGT, wordsR, ne_eq, words, Nat.reduceAdd, Nat.reduceEqDiff, Nat.reduceBEq, ↓reduceIte, reduceCtorEq, SX.exit.injEq, if_true, if_false, Int.reduceAdd, Int.reduceSub, Int.reduceMul, Int.reduceLT, Int.reduceLE, Int.reduceEq, Int.reduceNe, Int.reduceNeg, Int.reduceToNat, Nat.reduceMul, Nat.reduceLT, Nat.reduceSub, Nat.reduceLeDiff]
    refine cp hwe ?_
    have htc : tabC x 1 = x.ini.length := rfl
    rw [htc]
    by_cases h0 : wErr w x.ini.length = 0
    · simp (config := { maxSteps := 1000000 }) (disch := first | omega | (simp only [List.length_map, List.length_append, List.length_cons, List.length_nil, ints_len] <;> omega)) only [h0, wordsN, Int.reduceGT, wordsR, ne_eq, words, Nat.reduceAdd, Nat.reduceEqDiff, Nat.reduceBEq, ↓reduceIte, reduceCtorEq, SX.exit.injEq, if_true, if_false, Int.reduceAdd, Int.reduceSub, Int.reduceMul, Int.reduceLT, Int.reduceLE, Int.reduceEq, Int.reduceNe, Int.reduceNeg, Int.reduceToNat, Nat.reduceMul, Nat.reduceLT, Nat.reduceSub, Nat.reduceLeDiff]
      refine cp (flows1 x ho w h0) ?_
      cases hf : flowsR (tabR x 1) w with
      | true =>
        simp (config := { maxSteps := 1000000 }) (disch := first | omega | (simp only [List.length_map, List.length_append, List.length_cons, List.length_nil, ints_len] <;> omega)) only [wordsN, Int.reduceGT, wordsR, ne_eq, words, Nat.reduceAdd, Nat.reduceEqDiff, Nat.reduceBEq, ↓reduceIte, reduceCtorEq, SX.exit.injEq, if_true, if_false, Int.reduceAdd, Int.reduceSub, Int.reduceMul, Int.reduceLT, Int.reduceLE, Int.reduceEq, Int.reduceNe, Int.reduceNeg, Int.reduceToNat, Nat.reduceMul, Nat.reduceLT, Nat.reduceSub, Nat.reduceLeDiff]
        refine ⟨i + 1, by omega, ⟨by omega, by rw [hs, chk1, if_pos h0, if_pos hf]⟩, ⟨[(50, .blk 50 0)], rfl, (by repeat' (first | exact RB.nil | (refine RnL.same ?_; first | rfl | (simp only [noRef, noRefs, noRefs_append, Bool.and_self, Bool.and_true, Bool.true_and, noRefs_ints, noRefs_lsts, noRefs_pad, noRefs_tnC, noRefs_arcC]; done)) | exact RnL.nil | refine RnL.cons ?_ ?_ | (refine Rn.same ?_; first | rfl | (simp only [noRef, noRefs, noRefs_append, Bool.and_self, Bool.and_true, Bool.true_and, noRefs_ints, noRefs_lsts, noRefs_pad, noRefs_tnC, noRefs_arcC]; done)) | exact Rn.sl (Nat.zero_le _) rfl | exact Rn.ptr (Nat.zero_le _) rfl | exact Rn.map (Nat.zero_le _) rfl | exact Rn.slnil (Nat.zero_le _) rfl | refine RB.newnil rfl ?_ | refine RB.cells rfl rfl ?_ ?_ | refine RB.map rfl rfl ?_ ?_)), (by repeat (first | exact RT.nil | (refine RT.cons ?_ ?_; · (first | exact Rn.any | exact Rn.sl (Nat.zero_le _) rfl | exact Rn.ptr (Nat.zero_le _) rfl | exact Rn.map (Nat.zero_le _) rfl | exact Rn.slnil (Nat.zero_le _) rfl | (refine Rn.slot ?_ ?_; (first | rfl | (rw [Int.natCast_add]; rfl)); (first | rfl | (simp only [noRef, noRefs, noRefs_append, Bool.and_self, Bool.and_true, Bool.true_and, noRefs_ints, noRefs_lsts, noRefs_pad, noRefs_tnC, noRefs_arcC]; done)))))))⟩⟩
      | false =>
        simp (config := { maxSteps := 1000000 }) (disch := first | omega | (simp only [List.length_map, List.length_append, List.length_cons, List.length_nil, ints_len] <;> omega)) only [wordsN, Int.reduceGT, wordsR, ne_eq, words, Nat.reduceAdd, Nat.reduceEqDiff, Nat.reduceBEq, ↓reduceIte, reduceCtorEq, SX.exit.injEq, if_true, if_false, Int.reduceAdd, Int.reduceSub, Int.reduceMul, Int.reduceLT, Int.reduceLE, Int.reduceEq, Int.reduceNe, Int.reduceNeg, Int.reduceToNat, Nat.reduceMul, Nat.reduceLT, Nat.reduceSub, Nat.reduceLeDiff]
        have e : chkR x (l.take (i + 1)) = 6 := by rw [hs, chk1, if_pos h0, if_neg (by rw [hf]; simp)]
        exact ⟨.inr trivial, _, rfl, by rw [hrest (i + 1) (by rw [e]; decide), e]; exact Rn.same rfl⟩
    · simp (config := { maxSteps := 1000000 }) (disch := first | omega | (simp only [List.length_map, List.length_append, List.length_cons, List.length_nil, ints_len] <;> omega)) only [h0, wordsN, Int.reduceGT, wordsR, ne_eq, words, Nat.reduceAdd, Nat.reduceEqDiff, Nat.reduceBEq, ↓reduceIte, reduceCtorEq, SX.exit.injEq, if_true, if_false, Int.reduceAdd, Int.reduceSub, Int.reduceMul, Int.reduceLT, Int.reduceLE, Int.reduceEq, Int.reduceNe, Int.reduceNeg, Int.reduceToNat, Nat.reduceMul, Nat.reduceLT, Nat.reduceSub, Nat.reduceLeDiff]
      have e : chkR x (l.take (i + 1)) = wErr w x.ini.length := by rw [hs, chk1, if_neg h0]
      exact ⟨.inr trivial, _, rfl, by rw [hrest (i + 1) (by rw [e]; exact h0), e]; exact Rn.same rfl⟩
  · simp (config := { maxSteps := 1000000 }) (disch := first | omega | (simp only [List.length_map, List.length_append, List.length_cons, List.length_nil, ints_len] <;> omega)) only [hlt, wordsN, Int.reduceGT, wordsR, ne_eq, words, Nat.reduceAdd, Nat.reduceEqDiff, Nat.reduceBEq, ↓reduceIte, reduceCtorEq, SX.exit.injEq, if_true, if_false, Int.reduceAdd, Int.reduceSub, Int.reduceMul, Int.reduceLT, Int.reduceLE, Int.reduceEq, Int.reduceNe, Int.reduceNeg, Int.reduceToNat, Nat.reduceMul, Nat.reduceLT, Nat.reduceSub, Nat.reduceLeDiff]
    have e : i = l.length := by omega
    rw [e, List.take_length] at hb
    exact ⟨.inr trivial, _, rfl, by rw [hb]; exact Rn.same rfl⟩
end Go.AM.SN
