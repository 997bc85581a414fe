/- A part of the proof of InvariantCombines: lemmas on the way (AmNq, AmPr). Conditions: none of ours. -/
import Derived.Test.YteaeobmbfhaklaaAmZ9
namespace Go.AM.SN
open Go.Proofs
set_option maxRecDepth 100000
set_option linter.unusedSimpArgs false
set_option linter.unusedVariables false
def exN : Nt := ⟨[1, 0], [⟨0, [(0, 1)], [(1, 1)]⟩, ⟨1, [(1, 1)], [(0, 1)]⟩]⟩
def twoN : Nt := ⟨[4, 0], [⟨0, [(0, 2)], [(1, 3)]⟩]⟩
theorem arcs1_ok {p w n : Int} (h : 0 ≤ p ∧ p < n ∧ 1 ≤ w ∧ w ≤ 8) : ArcsOk [(p, w)] n where
  len := by simp
  each := fun i a ha => by
    cases i with
    | zero => simp at ha; subst ha; exact h
    | succ i => simp at ha
  up := fun i a b ha hb => by simp at hb
theorem exN_ok : NetOk exN where
  places := by decide
  tokens := by unfold okT; decide
  trans := by decide
  ev := by decide
  inn := fun t ht => by
    simp only [exN, List.mem_cons, List.not_mem_nil, or_false] at ht
    rcases ht with rfl | rfl <;> exact arcs1_ok (by decide)
  out := fun t ht => by
    simp only [exN, List.mem_cons, List.not_mem_nil, or_false] at ht
    rcases ht with rfl | rfl <;> exact arcs1_ok (by decide)
theorem twoN_ok : NetOk twoN where
  places := by decide
  tokens := by unfold okT; decide
  trans := by decide
  ev := by decide
  inn := fun t ht => by
    simp only [twoN, List.mem_cons, List.not_mem_nil, or_false] at ht
    subst ht; exact arcs1_ok (by decide)
  out := fun t ht => by
    simp only [twoN, List.mem_cons, List.not_mem_nil, or_false] at ht
    subst ht; exact arcs1_ok (by decide)
theorem exMin : PSpec Try.prog 14 [netV exN, .int .i64 1] (.tup [lsts [[1, 1]], .int .i64 0]) := by
  have h := MinimalT exN 1 _ _ (newTable exN exN_ok 1 (.inl rfl)) (by decide +kernel) (by decide +kernel) (tabR_len exN 1) (by decide +kernel) (by decide +kernel)
  rwa [show listR (tabC exN 1) (minF (tabR exN 1) (tabC exN 1) (tabC exN 1)) = [[1, 1]] by decide +kernel] at h
theorem twoMin : PSpec Try.prog 14 [netV twoN, .int .i64 1] (.tup [lsts [[3, 2]], .int .i64 0]) := by
  have h := MinimalT twoN 1 _ _ (newTable twoN twoN_ok 1 (.inl rfl)) (by decide +kernel) (by decide +kernel) (tabR_len twoN 1) (by decide +kernel) (by decide +kernel)
  rwa [show listR (tabC twoN 1) (minF (tabR twoN 1) (tabC twoN 1) (tabC twoN 1)) = [[3, 2]] by decide +kernel] at h
theorem twoCov : PSpec Try.prog 15 [netV twoN, .int .i64 2] (.tup [.bool false, .int .i64 0]) := by
  have h := CoveredT twoN 2 _ _ (newTable twoN twoN_ok 2 (.inr rfl)) (by decide +kernel) (by decide +kernel) (tabR_len twoN 2) (by decide +kernel)
  rwa [show decide (covR (minF (tabR twoN 2) (tabC twoN 2) (tabC twoN 2)) = 2 ^ tabC twoN 2 - 1) = false by decide +kernel] at h
theorem exBnd : PSpec Try.prog 23 [netV exN, lsts [[1, 1]]] (.tup [sli [1, 1], .int .i64 0]) := by
  have h := bounds exN exN_ok [[1, 1]] (by decide) (by decide)
  rwa [show chkR exN [[1, 1]] = 0 by decide +kernel, if_pos rfl, show bndL exN [[1, 1]] = [1, 1] by decide +kernel] at h
theorem exExc : PSpec Try.prog 24 [netV exN, lsts [[1, 1]], sli [1, 1]] (.tup [.int .i64 0, .bool true, .int .i64 0]) := by
  have h := excludes exN exN_ok [[1, 1]] [1, 1] (by decide) (by decide) (by decide)
  rwa [show exV exN [[1, 1]] [1, 1] = .tup [.int .i64 0, .bool true, .int .i64 0] by
    unfold exV
    rw [if_pos (by decide +kernel), if_pos (by decide +kernel), if_pos (by decide +kernel), show firstAt (exP exN [1, 1]) [[1, 1]] = 0 by decide +kernel]] at h
theorem exchange38 : PSpec Try.prog 38 [] (netV exN) := by
  refine PSpec.of_rn 64 SV.ok38 rfl rfl (noRef_net _) ?_
  simp (maxSteps := 1000000) (disch := first | omega | (simp only [lenW] <;> omega)) only [SV.s38, aBuildSlice_frz, wZ_some, wordsN, Int.reduceGT, wordsR, ne_eq, words, Nat.reduceAdd, Nat.reduceEqDiff, Nat.reduceBEq, ↓reduceIte, reduceCtorEq, SX.exit.injEq, if_true, if_false, Int.reduceAdd, Int.reduceSub, Int.reduceMul, Int.reduceLT, Int.reduceLE, Int.reduceEq, Int.reduceNe, Int.reduceNeg, Int.reduceToNat, Nat.reduceMul, Nat.reduceLT, Nat.reduceSub, Nat.reduceLeDiff]
  exact ⟨.inr trivial, _, rfl, Rn.same (noRef_net exN)⟩
theorem known : PSpec Try.prog 12 [] (.bool true) := by
  refine PSpec.of_rn 64 SV.ok12 rfl rfl rfl ?_
  simp (maxSteps := 1000000) (disch := first | omega | (simp only [lenW] <;> omega)) only [SV.s12, wordsN, Int.reduceGT, wordsR, ne_eq, words, Nat.reduceAdd, Nat.reduceEqDiff, Nat.reduceBEq, ↓reduceIte, reduceCtorEq, SX.exit.injEq, if_true, if_false, Int.reduceAdd, Int.reduceSub, Int.reduceMul, Int.reduceLT, Int.reduceLE, Int.reduceEq, Int.reduceNe, Int.reduceNeg, Int.reduceToNat, Nat.reduceMul, Nat.reduceLT, Nat.reduceSub, Nat.reduceLeDiff]
  refine cp exchange38 ?_
  simp (maxSteps := 1000000) (disch := first | omega | (simp only [lenW] <;> omega)) only [wordsN, Int.reduceGT, wordsR, ne_eq, words, Nat.reduceAdd, Nat.reduceEqDiff, Nat.reduceBEq, ↓reduceIte, reduceCtorEq, SX.exit.injEq, if_true, if_false, Int.reduceAdd, Int.reduceSub, Int.reduceMul, Int.reduceLT, Int.reduceLE, Int.reduceEq, Int.reduceNe, Int.reduceNeg, Int.reduceToNat, Nat.reduceMul, Nat.reduceLT, Nat.reduceSub, Nat.reduceLeDiff]
  refine cp exMin ?_
  simp (maxSteps := 1000000) (disch := first | omega | (simp only [lenW] <;> omega)) only [wordsN, Int.reduceGT, wordsR, ne_eq, words, Nat.reduceAdd, Nat.reduceEqDiff, Nat.reduceBEq, ↓reduceIte, reduceCtorEq, SX.exit.injEq, if_true, if_false, Int.reduceAdd, Int.reduceSub, Int.reduceMul, Int.reduceLT, Int.reduceLE, Int.reduceEq, Int.reduceNe, Int.reduceNeg, Int.reduceToNat, Nat.reduceMul, Nat.reduceLT, Nat.reduceSub, Nat.reduceLeDiff]
  refine cp exchange38 ?_
  simp (maxSteps := 1000000) (disch := first | omega | (simp only [lenW] <;> omega)) only [aBuildSlice_frz, wZ_some, List.map_cons, List.map_nil, wordsN, Int.reduceGT, wordsR, ne_eq, words, Nat.reduceAdd, Nat.reduceEqDiff, Nat.reduceBEq, ↓reduceIte, reduceCtorEq, SX.exit.injEq, if_true, if_false, Int.reduceAdd, Int.reduceSub, Int.reduceMul, Int.reduceLT, Int.reduceLE, Int.reduceEq, Int.reduceNe, Int.reduceNeg, Int.reduceToNat, Nat.reduceMul, Nat.reduceLT, Nat.reduceSub, Nat.reduceLeDiff]
  refine cp exBnd ?_
  simp (maxSteps := 1000000) (disch := first | omega | (simp only [lenW] <;> omega)) only [wordsN, Int.reduceGT, wordsR, ne_eq, words, Nat.reduceAdd, Nat.reduceEqDiff, Nat.reduceBEq, ↓reduceIte, reduceCtorEq, SX.exit.injEq, if_true, if_false, Int.reduceAdd, Int.reduceSub, Int.reduceMul, Int.reduceLT, Int.reduceLE, Int.reduceEq, Int.reduceNe, Int.reduceNeg, Int.reduceToNat, Nat.reduceMul, Nat.reduceLT, Nat.reduceSub, Nat.reduceLeDiff]
  refine cp exchange38 ?_
  simp (maxSteps := 1000000) (disch := first | omega | (simp only [lenW] <;> omega)) only [aBuildSlice_frz, wZ_some, List.map_cons, List.map_nil, wordsN, Int.reduceGT, wordsR, ne_eq, words, Nat.reduceAdd, Nat.reduceEqDiff, Nat.reduceBEq, ↓reduceIte, reduceCtorEq, SX.exit.injEq, if_true, if_false, Int.reduceAdd, Int.reduceSub, Int.reduceMul, Int.reduceLT, Int.reduceLE, Int.reduceEq, Int.reduceNe, Int.reduceNeg, Int.reduceToNat, Nat.reduceMul, Nat.reduceLT, Nat.reduceSub, Nat.reduceLeDiff]
  refine cp exExc ?_
  simp (maxSteps := 1000000) (disch := first | omega | (simp only [lenW] <;> omega)) only [aBuildSlice_frz, wZ_some, List.map_cons, List.map_nil, wordsN, Int.reduceGT, wordsR, ne_eq, words, Nat.reduceAdd, Nat.reduceEqDiff, Nat.reduceBEq, ↓reduceIte, reduceCtorEq, SX.exit.injEq, if_true, if_false, Int.reduceAdd, Int.reduceSub, Int.reduceMul, Int.reduceLT, Int.reduceLE, Int.reduceEq, Int.reduceNe, Int.reduceNeg, Int.reduceToNat, Nat.reduceMul, Nat.reduceLT, Nat.reduceSub, Nat.reduceLeDiff]
  refine cp twoMin ?_
  simp (maxSteps := 1000000) (disch := first | omega | (simp only [lenW] <;> omega)) only [wordsN, Int.reduceGT, wordsR, ne_eq, words, Nat.reduceAdd, Nat.reduceEqDiff, Nat.reduceBEq, ↓reduceIte, reduceCtorEq, SX.exit.injEq, if_true, if_false, Int.reduceAdd, Int.reduceSub, Int.reduceMul, Int.reduceLT, Int.reduceLE, Int.reduceEq, Int.reduceNe, Int.reduceNeg, Int.reduceToNat, Nat.reduceMul, Nat.reduceLT, Nat.reduceSub, Nat.reduceLeDiff]
  refine cp twoCov ?_
  simp (maxSteps := 1000000) (disch := first | omega | (simp only [lenW] <;> omega)) only [aBuildSlice_frz, wZ_some, List.map_cons, List.map_nil, wordsN, Int.reduceGT, wordsR, ne_eq, words, Nat.reduceAdd, Nat.reduceEqDiff, Nat.reduceBEq, ↓reduceIte, reduceCtorEq, SX.exit.injEq, if_true, if_false, Int.reduceAdd, Int.reduceSub, Int.reduceMul, Int.reduceLT, Int.reduceLE, Int.reduceEq, Int.reduceNe, Int.reduceNeg, Int.reduceToNat, Nat.reduceMul, Nat.reduceLT, Nat.reduceSub, Nat.reduceLeDiff]
  refine cp (same [1, 1] [1, 1] (by decide)) ?_
  simp (maxSteps := 1000000) (disch := first | omega | (simp only [lenW] <;> omega)) only [aBuildSlice_frz, wZ_some, List.map_cons, List.map_nil, wordsN, Int.reduceGT, wordsR, ne_eq, words, Nat.reduceAdd, Nat.reduceEqDiff, Nat.reduceBEq, ↓reduceIte, reduceCtorEq, SX.exit.injEq, if_true, if_false, Int.reduceAdd, Int.reduceSub, Int.reduceMul, Int.reduceLT, Int.reduceLE, Int.reduceEq, Int.reduceNe, Int.reduceNeg, Int.reduceToNat, Nat.reduceMul, Nat.reduceLT, Nat.reduceSub, Nat.reduceLeDiff]
  refine cp (same [1, 1] [1, 1] (by decide)) ?_
  simp (maxSteps := 1000000) (disch := first | omega | (simp only [lenW] <;> omega)) only [aBuildSlice_frz, wZ_some, List.map_cons, List.map_nil, wordsN, Int.reduceGT, wordsR, ne_eq, words, Nat.reduceAdd, Nat.reduceEqDiff, Nat.reduceBEq, ↓reduceIte, reduceCtorEq, SX.exit.injEq, if_true, if_false, Int.reduceAdd, Int.reduceSub, Int.reduceMul, Int.reduceLT, Int.reduceLE, Int.reduceEq, Int.reduceNe, Int.reduceNeg, Int.reduceToNat, Nat.reduceMul, Nat.reduceLT, Nat.reduceSub, Nat.reduceLeDiff]
  refine cp (same [3, 2] [3, 2] (by decide)) ?_
  simp (maxSteps := 1000000) (disch := first | omega | (simp only [lenW] <;> omega)) only [aBuildSlice_frz, wZ_some, List.map_cons, List.map_nil, wordsN, Int.reduceGT, wordsR, ne_eq, words, Nat.reduceAdd, Nat.reduceEqDiff, Nat.reduceBEq, ↓reduceIte, reduceCtorEq, SX.exit.injEq, if_true, if_false, Int.reduceAdd, Int.reduceSub, Int.reduceMul, Int.reduceLT, Int.reduceLE, Int.reduceEq, Int.reduceNe, Int.reduceNeg, Int.reduceToNat, Nat.reduceMul, Nat.reduceLT, Nat.reduceSub, Nat.reduceLeDiff]
  exact ⟨.inr trivial, _, rfl, Rn.same rfl⟩
end Go.AM.SN
namespace Go.AM.SN
open Go.Proofs
set_option maxRecDepth 100000
set_option linter.unusedSimpArgs false
set_option linter.unusedVariables false
theorem rowSum_lin (r w : List Int) (a : Int) (g : Nat → Int) (hw : w.length = r.length) : rowSum r ((List.range r.length).map fun c => a * w.getD c 0 + g c) = a * rowSum r w + rowSum r ((List.range r.length).map g) := by
  have e : w = (List.range r.length).map fun c => w.getD c 0 := by
    refine List.ext_getElem? fun j => ?_
    by_cases hj : j < w.length
    · simp [List.getElem?_range (show j < r.length by omega), List.getD_eq_getElem?_getD, hj]
    · simp [List.getElem?_eq_none (show (List.range r.length).length ≤ j by simp; omega), hj]
  conv => rhs; rw [e]
  rw [rowSum_sumN, rowSum_sumN, rowSum_sumN]
  have : ∀ n, sumN (fun c => r.getD c 0 * (a * w.getD c 0 + g c)) n = a * sumN (fun c => r.getD c 0 * w.getD c 0) n + sumN (fun c => r.getD c 0 * g c) n := by
    intro n
    induction n with
    | zero => simp [sumN]
    | succ n ih =>
      simp only [sumN]
      rw [ih, Int.mul_add, Int.mul_add, Int.mul_left_comm]; omega
  exact this _
theorem comb_zero {r : List Int} : ∀ (M : List (List Int)) (ks : List Int), (∀ w ∈ M, w.length = r.length ∧ rowSum r w = 0) → rowSum r ((List.range r.length).map fun c => colSum M ks c) = 0
  | [], ks, _ => by
    have : ∀ n, rowSum r ((List.range n).map fun c => colSum [] ks c) = 0 := by
      intro n
      rw [rowSum_comm]
      have : ∀ (l : List Nat) (r : List Int), rowSum (l.map fun c => colSum [] ks c) r = 0 := by
        intro l
        induction l with
        | nil => intro r; rfl
        | cons a l ih =>
          intro r
          cases r with
          | nil => rfl
          | cons b r => simp only [List.map_cons, rowSum, ih]; simp [colSum]
      exact this _ _
    exact this _
  | w :: M, [], _ => by
    have : ∀ (l : List Nat) (r : List Int), rowSum r (l.map fun c => colSum (w :: M) [] c) = 0 := by
      intro l
      induction l with
      | nil => intro r; cases r <;> rfl
      | cons a l ih =>
        intro r
        cases r with
        | nil => rfl
        | cons b r => simp only [List.map_cons, rowSum, ih]; simp [colSum]
    exact this _ _
  | w :: M, k :: ks, h => by
    obtain ⟨h1, h2⟩ := h w (by simp)
    have := rowSum_lin r w k (fun c => colSum M ks c) h1
    rw [h2, comb_zero M ks fun w hw => h w (by simp [hw])] at this
    simpa [colSum] using this
theorem colSum_lim {B : Nat} : ∀ (M : List (List Int)) (ks : List Int) (c : Nat), (∀ w ∈ M, ∀ y ∈ w, 0 ≤ y ∧ y ≤ B) → (∀ k ∈ ks, 0 ≤ k ∧ k ≤ 2) → 0 ≤ colSum M ks c ∧ colSum M ks c ≤ 2 * B * M.length
  | [], ks, c, _, _ => by simp [colSum]
  | w :: M, [], c, _, _ => ⟨by simp [colSum], by show (0 : Int) ≤ _; exact Int.mul_nonneg (by omega) (by omega)⟩
  | w :: M, k :: ks, c, hM, hk => by
    have ih := colSum_lim M ks c (fun w hw => hM w (by simp [hw])) (fun k hh => hk k (by simp [hh]))
    have h1 := hk k (by simp)
    have h2 : 0 ≤ w.getD c 0 ∧ w.getD c 0 ≤ B := by
      rw [List.getD_eq_getElem?_getD]
      cases hc : w[c]? with
      | none => simp
      | some y => exact hM w (by simp) y (List.mem_of_getElem? hc)
    have h3 := Int.mul_nonneg h1.1 h2.1
    have h4 : k * w.getD c 0 ≤ 2 * B := Int.mul_le_mul h1.2 h2.2 h2.1 (by decide)
    simp only [colSum, List.length_cons]
    have e : (2 * (B : Int)) * ((M.length + 1 : Nat) : Int) = 2 * B * M.length + 2 * B := by rw [Int.natCast_add, Int.mul_add]; simp
    rw [e]; omega
theorem colSum_ge : ∀ (M : List (List Int)) (ks : List Int) (c i : Nat) (w : List Int) (k : Int), (∀ w ∈ M, ∀ y ∈ w, 0 ≤ y) → (∀ k ∈ ks, 0 ≤ k) → M[i]? = some w → ks[i]? = some k → k * w.getD c 0 ≤ colSum M ks c
  | [], _, _, _, _, _, _, _, h, _ => by simp at h
  | _ :: _, [], _, _, _, _, _, _, _, h => by simp at h
  | v :: M, j :: ks, c, i, w, k, hM, hk, h1, h2 => by
    have h0 : ∀ v : List Int, (∀ y ∈ v, 0 ≤ y) → 0 ≤ v.getD c 0 := fun v hv => by
      rw [List.getD_eq_getElem?_getD]
      cases hc : v[c]? with
      | none => simp
      | some y => exact hv y (List.mem_of_getElem? hc)
    cases i with
    | zero =>
      simp at h1 h2; subst h1; subst h2
      have : ∀ (M : List (List Int)) (ks : List Int), (∀ w ∈ M, ∀ y ∈ w, 0 ≤ y) → (∀ k ∈ ks, 0 ≤ k) → 0 ≤ colSum M ks c := by
        intro M
        induction M with
        | nil => intro ks _ _; simp [colSum]
        | cons v M ih =>
          intro ks hM hk
          cases ks with
          | nil => simp [colSum]
          | cons k ks =>
            have := ih ks (fun w hw => hM w (by simp [hw])) fun k hh => hk k (by simp [hh])
            have := Int.mul_nonneg (hk k (by simp)) (h0 v (hM v (by simp)))
            simp only [colSum]; omega
      have := this M ks (fun w hw => hM w (by simp [hw])) fun k hh => hk k (by simp [hh])
      simp only [colSum]; omega
    | succ i =>
      have := colSum_ge M ks c i w k (fun w hw => hM w (by simp [hw])) (fun k hh => hk k (by simp [hh])) (by simpa using h1) (by simpa using h2)
      have := Int.mul_nonneg (hk j (by simp)) (h0 v (hM v (by simp)))
      simp only [colSum]; omega
def ks3 (n : Nat) : List Int := (List.range n).map fun i => ((i % 3 : Nat) : Int)
theorem ks3_len (n : Nat) : (ks3 n).length = n := by simp [ks3]
theorem ks3_succ (n : Nat) : ks3 (n + 1) = ks3 n ++ [((n % 3 : Nat) : Int)] := by simp [ks3, List.range_succ]
theorem ks3_mem {n : Nat} {k : Int} (h : k ∈ ks3 n) : 0 ≤ k ∧ k ≤ 2 := by
  simp only [ks3, List.mem_map] at h
  obtain ⟨i, _, rfl⟩ := h
  omega
theorem ks3_get {n i : Nat} (h : i < n) : (ks3 n)[i]? = some ((i % 3 : Nat) : Int) := by simp [ks3, List.getElem?_range h]
theorem comb_all {R : List (List Int)} {K : Nat} {M : List (List Int)} (hM0 : 0 < M.length) (hM : M.length ≤ 50) (hp : ∀ w ∈ M, w.length = K ∧ (∀ y ∈ w, 0 ≤ y ∧ y ≤ 384) ∧ (∀ r ∈ R, rowSum r w = 0) ∧ w.all (· == 0) = false) (hR : ∀ r ∈ R, r.length = K) :
    cmbE M (ks3 M.length) = 0 ∧ (cmbV M (ks3 M.length)).length = K ∧ (∀ y ∈ cmbV M (ks3 M.length), 0 ≤ y ∧ y ≤ 38400) ∧ flowsR R (cmbV M (ks3 M.length)) = decide (1 < M.length) := by
  have hwid : wid M = K := by
    cases M with
    | nil => cases hM0
    | cons a M => exact (hp a (by simp)).1
  have hV : cmbV M (ks3 M.length) = (List.range K).map fun c => colSum M (ks3 M.length) c := by unfold cmbV; rw [hwid]
  have hlim : ∀ c, 0 ≤ colSum M (ks3 M.length) c ∧ colSum M (ks3 M.length) c ≤ 38400 := fun c => by
    have h1 := colSum_lim (B := 384) M (ks3 M.length) c (fun w hw => (hp w hw).2.1) (fun k hk => ks3_mem hk)
    omega
  refine ⟨?_, by rw [hV]; simp, fun y hy => ?_, ?_⟩
  · unfold cmbE
    rw [if_neg (by omega), if_neg, if_neg]
    · rintro (h | h)
      · obtain ⟨w, hw, h2⟩ := List.any_eq_true.1 h
        obtain ⟨y, hy, h3⟩ := List.any_eq_true.1 h2
        have := (hp w hw).2.1 y hy
        simp only [badW, decide_eq_true_eq] at h3; omega
      · obtain ⟨y, hy, h3⟩ := List.any_eq_true.1 h
        have := ks3_mem hy
        simp only [badW, decide_eq_true_eq] at h3; omega
    · rintro (h | h)
      · exact h (ks3_len _)
      · obtain ⟨w, hw, h2⟩ := List.any_eq_true.1 h
        rw [(hp w hw).1, hwid] at h2; simp at h2
  · rw [hV] at hy
    obtain ⟨c, _, rfl⟩ := List.mem_map.1 hy
    exact hlim c
  · unfold flowsR
    have h1 : (R.all fun r => rowSum r (cmbV M (ks3 M.length)) == 0) = true := by
      rw [List.all_eq_true]
      intro r hr
      have := comb_zero (r := r) M (ks3 M.length) fun w hw => ⟨by rw [hR r hr]; exact (hp w hw).1, (hp w hw).2.2.1 r hr⟩
      rw [hR r hr, ← hV] at this
      rw [this]; rfl
    rw [h1, Bool.true_and, hV]
    by_cases h2 : 1 < M.length
    · rw [decide_eq_true h2, Bool.not_eq_true', Bool.eq_false_iff]
      intro ha
      obtain ⟨w, hw⟩ := get_ex h2
      obtain ⟨q1, q2, q3, q4⟩ := hp w (List.mem_of_getElem? hw)
      have : w.all (· == 0) = true := by
        rw [List.all_eq_true]
        intro y hy
        obtain ⟨c, hc, hcl⟩ := mem_at hy
        have h3 := colSum_ge M (ks3 M.length) c 1 w 1 (fun w hw y hy => ((hp w hw).2.1 y hy).1) (fun k hk => (ks3_mem hk).1) hw (ks3_get h2)
        have h4 := List.all_eq_true.1 ha (colSum M (ks3 M.length) c) (List.mem_map.2 ⟨c, by simp; omega, rfl⟩)
        have h5 : w.getD c 0 = y := by rw [List.getD_eq_getElem?_getD, hc]; rfl
        have h6 := (q2 y hy).1
        simp only [beq_iff_eq] at h4 ⊢
        rw [h4, h5] at h3; omega
      rw [this] at q4; cases q4
    · rw [decide_eq_false h2, Bool.not_eq_false']
      rw [List.all_eq_true]
      intro y hy
      obtain ⟨c, _, rfl⟩ := List.mem_map.1 hy
      have e : M.length = 1 := by omega
      rw [e]
      match M, e with
      | [w], _ => simp [ks3, colSum]
set_option maxHeartbeats 8000000 in
theorem law10 (s : Sm) (ho : SmOk s) (l : List (List Int)) (f : List Int) (hl0 : l.length ≤ 9223372036854775807) (hf0 : f.length ≤ 9223372036854775807) (hll0 : ∀ w ∈ l, w.length ≤ 9223372036854775807) :
    W2 Try.prog ⟨SY.s10.n, 0⟩ SY.s10.body (fun e B => (e = .normal ∨ e = .ret) ∧ resV B.T B.h SY.s10.res = some [.bool true]) ⟨argT 0 [.agg (smC s), lsts l, sli f], .e⟩ := by
  refine (wpC.toW (n := 64) (Q := fun e T h _ => (e = .normal ∨ e = .ret) ∧ resV T h SY.s10.res = some [.bool true]) (show wS Try.prog ⟨SY.s10.n, 0⟩ SY.s10.body [] 64 _ _ _ from ?_)).mono fun e B ⟨_, h⟩ => h
  have hsm := noRef_sm s
  have hN := mkN_ok s
  have hT := mkN_tiny s
  have hmk := make s ho
  have hsl : (smC s).length = 7 := by simp [smC, u8s, ho.ini]
  have ht7 : (smC s).take 7 = smC s := List.take_of_length_le (by omega)
  have h7 : (0 + 7 ≤ (smC s).length) = True := eq_true (by omega)
  generalize mkN s = x at hN hT hmk
  simp (maxSteps := 1000000) (disch := first | omega | exact PairsOK.mk rfl | (simp only [lenW] <;> omega)) only [SY.s10, wordsN, Int.reduceGT, wordsR, ne_eq, wS_regionP, aAppend_slF, aAppend_slN, aSlice_fslL, aSlice_fslH, aSlice_fslB, aSlice_slL, aSlice_slH, aSlice_slB, setL_cons, setL_nil, words, Nat.reduceAdd, Nat.reduceEqDiff, Nat.reduceBEq, ↓reduceIte, reduceCtorEq, SX.exit.injEq, if_true, if_false, Int.reduceAdd, Int.reduceSub, Int.reduceMul, Int.reduceLT, Int.reduceLE, Int.reduceEq, Int.reduceNe, Int.reduceNeg, Int.reduceToNat, Nat.reduceMul, Nat.reduceLT, Nat.reduceSub, Nat.reduceLeDiff]
  refine cp known ?_
  by_cases hl5 : 5 < l.length
  · have hl5' : (5 : Int) < (l.length : Int) := by omega
    simp (maxSteps := 1000000) (disch := first | omega | exact PairsOK.mk rfl | (simp only [lenW] <;> omega)) only [hl5', wordsN, Int.reduceGT, wordsR, ne_eq, wS_regionP, aAppend_slF, aAppend_slN, aSlice_fslL, aSlice_fslH, aSlice_fslB, aSlice_slL, aSlice_slH, aSlice_slB, setL_cons, setL_nil, words, Nat.reduceAdd, Nat.reduceEqDiff, Nat.reduceBEq, ↓reduceIte, reduceCtorEq, SX.exit.injEq, if_true, if_false, Int.reduceAdd, Int.reduceSub, Int.reduceMul, Int.reduceLT, Int.reduceLE, Int.reduceEq, Int.reduceNe, Int.reduceNeg, Int.reduceToNat, Nat.reduceMul, Nat.reduceLT, Nat.reduceSub, Nat.reduceLeDiff]
    refine cp known ?_
    simp (maxSteps := 1000000) (disch := first | omega | exact PairsOK.mk rfl | (simp only [lenW] <;> omega)) only [wordsN, Int.reduceGT, wordsR, ne_eq, wS_regionP, aAppend_slF, aAppend_slN, aSlice_fslL, aSlice_fslH, aSlice_fslB, aSlice_slL, aSlice_slH, aSlice_slB, setL_cons, setL_nil, words, Nat.reduceAdd, Nat.reduceEqDiff, Nat.reduceBEq, ↓reduceIte, reduceCtorEq, SX.exit.injEq, if_true, if_false, Int.reduceAdd, Int.reduceSub, Int.reduceMul, Int.reduceLT, Int.reduceLE, Int.reduceEq, Int.reduceNe, Int.reduceNeg, Int.reduceToNat, Nat.reduceMul, Nat.reduceLT, Nat.reduceSub, Nat.reduceLeDiff]
    exact ⟨.inr trivial, rfl⟩
  have hl5' : ¬ (5 : Int) < (l.length : Int) := by omega
  by_cases hf6 : 6 < f.length
  · have hf6' : (6 : Int) < (f.length : Int) := by omega
    simp (maxSteps := 1000000) (disch := first | omega | exact PairsOK.mk rfl | (simp only [lenW] <;> omega)) only [hl5', hf6', wordsN, Int.reduceGT, wordsR, ne_eq, wS_regionP, aAppend_slF, aAppend_slN, aSlice_fslL, aSlice_fslH, aSlice_fslB, aSlice_slL, aSlice_slH, aSlice_slB, setL_cons, setL_nil, words, Nat.reduceAdd, Nat.reduceEqDiff, Nat.reduceBEq, ↓reduceIte, reduceCtorEq, SX.exit.injEq, if_true, if_false, Int.reduceAdd, Int.reduceSub, Int.reduceMul, Int.reduceLT, Int.reduceLE, Int.reduceEq, Int.reduceNe, Int.reduceNeg, Int.reduceToNat, Nat.reduceMul, Nat.reduceLT, Nat.reduceSub, Nat.reduceLeDiff]
    refine cp known ?_
    simp (maxSteps := 1000000) (disch := first | omega | exact PairsOK.mk rfl | (simp only [lenW] <;> omega)) only [wordsN, Int.reduceGT, wordsR, ne_eq, wS_regionP, aAppend_slF, aAppend_slN, aSlice_fslL, aSlice_fslH, aSlice_fslB, aSlice_slL, aSlice_slH, aSlice_slB, setL_cons, setL_nil, words, Nat.reduceAdd, Nat.reduceEqDiff, Nat.reduceBEq, ↓reduceIte, reduceCtorEq, SX.exit.injEq, if_true, if_false, Int.reduceAdd, Int.reduceSub, Int.reduceMul, Int.reduceLT, Int.reduceLE, Int.reduceEq, Int.reduceNe, Int.reduceNeg, Int.reduceToNat, Nat.reduceMul, Nat.reduceLT, Nat.reduceSub, Nat.reduceLeDiff]
    exact ⟨.inr trivial, rfl⟩
  have hf6' : ¬ (6 : Int) < (f.length : Int) := by omega
  simp (maxSteps := 1000000) (disch := first | omega | exact PairsOK.mk rfl | (simp only [lenW] <;> omega)) only [hl5', hf6', wordsN, Int.reduceGT, wordsR, ne_eq, wS_regionP, aAppend_slF, aAppend_slN, aSlice_fslL, aSlice_fslH, aSlice_fslB, aSlice_slL, aSlice_slH, aSlice_slB, setL_cons, setL_nil, words, Nat.reduceAdd, Nat.reduceEqDiff, Nat.reduceBEq, ↓reduceIte, reduceCtorEq, SX.exit.injEq, if_true, if_false, Int.reduceAdd, Int.reduceSub, Int.reduceMul, Int.reduceLT, Int.reduceLE, Int.reduceEq, Int.reduceNe, Int.reduceNeg, Int.reduceToNat, Nat.reduceMul, Nat.reduceLT, Nat.reduceSub, Nat.reduceLeDiff]
  refine wS_loopX 100 (fun i : Nat => [(1, lsts l), (2, sli f), (3, .ptr 51 0 0), (7, .int .i64 i)]) (fun _ => [(51, .cells 0 (smC s))]) (fun i => i ≤ l.length ∧ ∀ (j : Nat) y, j < i → l[j]? = some y → y.length ≤ 5) (fun i => l.length - i) 0 0 200
    (fun _ : Unit => [(1, lsts l), (2, sli f), (3, .ptr 51 0 0)]) (fun _ => [(51, .cells 0 (smC s))]) (fun _ => ∀ w ∈ l, w.length ≤ 5) ?_ ⟨Nat.zero_le _, fun j y hj => absurd hj (Nat.not_lt_zero _)⟩ ?_ ?_
  · refine ⟨[(51, .blk 64 0)], rfl, (by repeat (first | exact RO.zero | exact RO.e | refine RO.set rfl ?_)), ?_, (by repeat (first | exact RT.nil | (refine RT.cons ?_ ?_; · (first | exact Rn.any | exact Rn.x1 rfl rfl | exact Rn.x2 rfl rfl | exact Rn.x3 rfl rfl | exact Rn.x4 rfl rfl | exact Rn.x5 rfl | exact Rn.x6 rfl | exact Rn.x7 rfl | (refine Rn.slot ?_ ?_; (first | rfl | (rw [Int.natCast_add]; rfl)); (first | rfl | (simp only [noRef, noRefs, noRefs_append, Bool.and_self, Bool.and_true, Bool.true_and, noRefs_ints, noRefs_lsts, noRefs_pad, noRefs_tnC, noRefs_arcC, noRefs_rowF, noRefs_u8s]; done))) | (refine Rn.fn ?_ ?_ <;> (repeat' (first | exact RnL.nil | refine RnL.cons ?_ ?_ | exact Rn.same rfl | exact Rn.x6 rfl | exact Rn.x2 rfl rfl | exact Rn.x5 rfl | exact Rn.x1 rfl rfl)))))))⟩
    exact RB.cells rfl rfl rfl (RnL.same hsm) RB.nil
  · rintro i ⟨hi, hb⟩
    by_cases hlt : i < l.length
    · obtain ⟨w, hw⟩ := get_ex hlt
      by_cases hww : 5 < w.length
      · have hww' : (5 : Int) < w.length := by omega
        simp (maxSteps := 1000000) (disch := first | omega | exact PairsOK.mk rfl | (simp only [lenW] <;> omega)) only [hlt, head_lsts hw, hww', wordsN, Int.reduceGT, wordsR, ne_eq, wS_regionP, aAppend_slF, aAppend_slN, aSlice_fslL, aSlice_fslH, aSlice_fslB, aSlice_slL, aSlice_slH, aSlice_slB, setL_cons, setL_nil, words, Nat.reduceAdd, Nat.reduceEqDiff, Nat.reduceBEq, ↓reduceIte, reduceCtorEq, SX.exit.injEq, if_true, if_false, Int.reduceAdd, Int.reduceSub, Int.reduceMul, Int.reduceLT, Int.reduceLE, Int.reduceEq, Int.reduceNe, Int.reduceNeg, Int.reduceToNat, Nat.reduceMul, Nat.reduceLT, Nat.reduceSub, Nat.reduceLeDiff]
        exact ⟨.inr trivial, rfl⟩
      · have hww' : ¬ (5 : Int) < w.length := by omega
        simp (maxSteps := 1000000) (disch := first | omega | exact PairsOK.mk rfl | (simp only [lenW] <;> omega)) only [hlt, head_lsts hw, hww', wordsN, Int.reduceGT, wordsR, ne_eq, wS_regionP, aAppend_slF, aAppend_slN, aSlice_fslL, aSlice_fslH, aSlice_fslB, aSlice_slL, aSlice_slH, aSlice_slB, setL_cons, setL_nil, words, Nat.reduceAdd, Nat.reduceEqDiff, Nat.reduceBEq, ↓reduceIte, reduceCtorEq, SX.exit.injEq, if_true, if_false, Int.reduceAdd, Int.reduceSub, Int.reduceMul, Int.reduceLT, Int.reduceLE, Int.reduceEq, Int.reduceNe, Int.reduceNeg, Int.reduceToNat, Nat.reduceMul, Nat.reduceLT, Nat.reduceSub, Nat.reduceLeDiff]
        refine ⟨i + 1, by omega, ⟨by omega, fun j y hj hy => ?_⟩, ?_⟩
        · by_cases e : j = i
          · subst e; rw [hw] at hy; cases hy; omega
          · exact hb j y (by omega) hy
        · refine ⟨[(51, .blk 51 0)], rfl, (by repeat (first | exact RO.zero | exact RO.e | refine RO.set rfl ?_)), ?_, (by repeat (first | exact RT.nil | (refine RT.cons ?_ ?_; · (first | exact Rn.any | exact Rn.x1 rfl rfl | exact Rn.x2 rfl rfl | exact Rn.x3 rfl rfl | exact Rn.x4 rfl rfl | exact Rn.x5 rfl | exact Rn.x6 rfl | exact Rn.x7 rfl | (refine Rn.slot ?_ ?_; (first | rfl | (rw [Int.natCast_add]; rfl)); (first | rfl | (simp only [noRef, noRefs, noRefs_append, Bool.and_self, Bool.and_true, Bool.true_and, noRefs_ints, noRefs_lsts, noRefs_pad, noRefs_tnC, noRefs_arcC, noRefs_rowF, noRefs_u8s]; done))) | (refine Rn.fn ?_ ?_ <;> (repeat' (first | exact RnL.nil | refine RnL.cons ?_ ?_ | exact Rn.same rfl | exact Rn.x6 rfl | exact Rn.x2 rfl rfl | exact Rn.x5 rfl | exact Rn.x1 rfl rfl)))))))⟩
          exact RB.cells rfl rfl rfl (RnL.same hsm) RB.nil
    · simp (maxSteps := 1000000) (disch := first | omega | exact PairsOK.mk rfl | (simp only [lenW] <;> omega)) only [hlt, wordsN, Int.reduceGT, wordsR, ne_eq, wS_regionP, aAppend_slF, aAppend_slN, aSlice_fslL, aSlice_fslH, aSlice_fslB, aSlice_slL, aSlice_slH, aSlice_slB, setL_cons, setL_nil, words, Nat.reduceAdd, Nat.reduceEqDiff, Nat.reduceBEq, ↓reduceIte, reduceCtorEq, SX.exit.injEq, if_true, if_false, Int.reduceAdd, Int.reduceSub, Int.reduceMul, Int.reduceLT, Int.reduceLE, Int.reduceEq, Int.reduceNe, Int.reduceNeg, Int.reduceToNat, Nat.reduceMul, Nat.reduceLT, Nat.reduceSub, Nat.reduceLeDiff]
      refine ⟨(), fun w hw => by obtain ⟨j, hj, hjl⟩ := mem_at hw; exact hb j w (by omega) hj, ?_⟩
      refine ⟨[(51, .blk 51 0)], rfl, (by repeat (first | exact RO.zero | exact RO.e | refine RO.set rfl ?_)), ?_, (by repeat (first | exact RT.nil | (refine RT.cons ?_ ?_; · (first | exact Rn.any | exact Rn.x1 rfl rfl | exact Rn.x2 rfl rfl | exact Rn.x3 rfl rfl | exact Rn.x4 rfl rfl | exact Rn.x5 rfl | exact Rn.x6 rfl | exact Rn.x7 rfl | (refine Rn.slot ?_ ?_; (first | rfl | (rw [Int.natCast_add]; rfl)); (first | rfl | (simp only [noRef, noRefs, noRefs_append, Bool.and_self, Bool.and_true, Bool.true_and, noRefs_ints, noRefs_lsts, noRefs_pad, noRefs_tnC, noRefs_arcC, noRefs_rowF, noRefs_u8s]; done))) | (refine Rn.fn ?_ ?_ <;> (repeat' (first | exact RnL.nil | refine RnL.cons ?_ ?_ | exact Rn.same rfl | exact Rn.x6 rfl | exact Rn.x2 rfl rfl | exact Rn.x5 rfl | exact Rn.x1 rfl rfl)))))))⟩
      exact RB.cells rfl rfl rfl (RnL.same hsm) RB.nil
  rintro _ hll
  have hcl : (cmbT l f).length ≤ 1099511627776 := by
    unfold cmbT
    split
    · simp only [cmbV, List.length_map, List.length_range, wid]
      cases l with
      | nil => simp
      | cons a l => have := hll a (by simp); simp only [List.headD_cons]; omega
    · simp
  have hsame := same (cmbT l f) (cmbT l f) hcl
  rw [decide_eq_true rfl] at hsame
  simp (maxSteps := 1000000) (disch := first | omega | exact PairsOK.mk rfl | (simp only [lenW] <;> omega)) only [wordsN, Int.reduceGT, wordsR, ne_eq, wS_regionP, aAppend_slF, aAppend_slN, aSlice_fslL, aSlice_fslH, aSlice_fslB, aSlice_slL, aSlice_slH, aSlice_slB, setL_cons, setL_nil, words, Nat.reduceAdd, Nat.reduceEqDiff, Nat.reduceBEq, ↓reduceIte, reduceCtorEq, SX.exit.injEq, if_true, if_false, Int.reduceAdd, Int.reduceSub, Int.reduceMul, Int.reduceLT, Int.reduceLE, Int.reduceEq, Int.reduceNe, Int.reduceNeg, Int.reduceToNat, Nat.reduceMul, Nat.reduceLT, Nat.reduceSub, Nat.reduceLeDiff]
  refine cp (combine34 l f (by omega) (fun w hw => by have := hll w hw; omega) (by omega)) ?_
  simp (maxSteps := 1000000) (disch := first | omega | exact PairsOK.mk rfl | (simp only [lenW] <;> omega)) only [wordsN, Int.reduceGT, wordsR, ne_eq, wS_regionP, aAppend_slF, aAppend_slN, aSlice_fslL, aSlice_fslH, aSlice_fslB, aSlice_slL, aSlice_slH, aSlice_slB, setL_cons, setL_nil, words, Nat.reduceAdd, Nat.reduceEqDiff, Nat.reduceBEq, ↓reduceIte, reduceCtorEq, SX.exit.injEq, if_true, if_false, Int.reduceAdd, Int.reduceSub, Int.reduceMul, Int.reduceLT, Int.reduceLE, Int.reduceEq, Int.reduceNe, Int.reduceNeg, Int.reduceToNat, Nat.reduceMul, Nat.reduceLT, Nat.reduceSub, Nat.reduceLeDiff]
  refine cp (combined35 l f (by omega) (fun w hw => by have := hll w hw; omega) (by omega)) ?_
  simp (maxSteps := 1000000) (disch := first | omega | exact PairsOK.mk rfl | (simp only [lenW] <;> omega)) only [wordsN, Int.reduceGT, wordsR, ne_eq, wS_regionP, aAppend_slF, aAppend_slN, aSlice_fslL, aSlice_fslH, aSlice_fslB, aSlice_slL, aSlice_slH, aSlice_slB, setL_cons, setL_nil, words, Nat.reduceAdd, Nat.reduceEqDiff, Nat.reduceBEq, ↓reduceIte, reduceCtorEq, SX.exit.injEq, if_true, if_false, Int.reduceAdd, Int.reduceSub, Int.reduceMul, Int.reduceLT, Int.reduceLE, Int.reduceEq, Int.reduceNe, Int.reduceNeg, Int.reduceToNat, Nat.reduceMul, Nat.reduceLT, Nat.reduceSub, Nat.reduceLeDiff]
  refine cp hsame ?_
  simp (maxSteps := 1000000) (disch := first | omega | exact PairsOK.mk rfl | (simp only [lenW] <;> omega)) only [h7, ht7, wordsN, Int.reduceGT, wordsR, ne_eq, wS_regionP, aAppend_slF, aAppend_slN, aSlice_fslL, aSlice_fslH, aSlice_fslB, aSlice_slL, aSlice_slH, aSlice_slB, setL_cons, setL_nil, words, Nat.reduceAdd, Nat.reduceEqDiff, Nat.reduceBEq, ↓reduceIte, reduceCtorEq, SX.exit.injEq, if_true, if_false, Int.reduceAdd, Int.reduceSub, Int.reduceMul, Int.reduceLT, Int.reduceLE, Int.reduceEq, Int.reduceNe, Int.reduceNeg, Int.reduceToNat, Nat.reduceMul, Nat.reduceLT, Nat.reduceSub, Nat.reduceLeDiff]
  refine cp hmk ?_
  have hM := MinimalN x hN hT 1 (.inl rfl)
  have hpr := fun w (hw : w ∈ minN x 1) => minN_prop hT 1 hw
  have hMl := minN_len hT 1
  have hp5 := hT.places
  have ht5 := hT.trans
  have htabC : tabC x 1 = x.ini.length := rfl
  have htabR := tabR_len x 1
  rw [htabC] at hpr htabR
  have hnt := newTable x hN 1 (.inl rfl)
  rw [htabC] at hnt
  have hplc := hN.places
  have hsm1 : ∀ (r : List Int), (∀ y ∈ r, -8 ≤ y ∧ y ≤ 8) → ∀ y ∈ r, sm y := fun r hr y hy => by have := hr y hy; unfold sm; omega
  have hRs : ∀ r ∈ tabR x 1, ∀ y ∈ r, sm y := tabR_all (q := fun r => ∀ y ∈ r, sm y) 1 (fun p => hsm1 _ (incR_bound hN p)) (fun t => hsm1 _ (colR_bound hN t))
  have hRl : (tabR x 1).length ≤ 1000 := by unfold tabR; rw [if_pos rfl]; simp [colM]; omega
  generalize tabR x 1 = R at *
  generalize minN x 1 = M at *
  simp (maxSteps := 1000000) (disch := first | omega | exact PairsOK.mk rfl | (simp only [lenW] <;> omega)) only [wordsN, Int.reduceGT, wordsR, ne_eq, wS_regionP, aAppend_slF, aAppend_slN, aSlice_fslL, aSlice_fslH, aSlice_fslB, aSlice_slL, aSlice_slH, aSlice_slB, setL_cons, setL_nil, words, Nat.reduceAdd, Nat.reduceEqDiff, Nat.reduceBEq, ↓reduceIte, reduceCtorEq, SX.exit.injEq, if_true, if_false, Int.reduceAdd, Int.reduceSub, Int.reduceMul, Int.reduceLT, Int.reduceLE, Int.reduceEq, Int.reduceNe, Int.reduceNeg, Int.reduceToNat, Nat.reduceMul, Nat.reduceLT, Nat.reduceSub, Nat.reduceLeDiff]
  refine cp hM ?_
  by_cases hM0 : M.length = 0
  · simp (maxSteps := 1000000) (disch := first | omega | exact PairsOK.mk rfl | (simp only [lenW] <;> omega)) only [hM0, wordsN, Int.reduceGT, wordsR, ne_eq, wS_regionP, aAppend_slF, aAppend_slN, aSlice_fslL, aSlice_fslH, aSlice_fslB, aSlice_slL, aSlice_slH, aSlice_slB, setL_cons, setL_nil, words, Nat.reduceAdd, Nat.reduceEqDiff, Nat.reduceBEq, ↓reduceIte, reduceCtorEq, SX.exit.injEq, if_true, if_false, Int.reduceAdd, Int.reduceSub, Int.reduceMul, Int.reduceLT, Int.reduceLE, Int.reduceEq, Int.reduceNe, Int.reduceNeg, Int.reduceToNat, Nat.reduceMul, Nat.reduceLT, Nat.reduceSub, Nat.reduceLeDiff]
    exact ⟨.inr trivial, rfl⟩
  have hM0' : ¬ (M.length : Int) = 0 := by omega
  obtain ⟨c1, c2, c3, c4⟩ := comb_all (R := R) (K := x.ini.length) (by omega) hMl hpr htabR
  simp (maxSteps := 1000000) (disch := first | omega | exact PairsOK.mk rfl | (simp only [lenW] <;> omega)) only [hM0', wordsN, Int.reduceGT, wordsR, ne_eq, wS_regionP, aAppend_slF, aAppend_slN, aSlice_fslL, aSlice_fslH, aSlice_fslB, aSlice_slL, aSlice_slH, aSlice_slB, setL_cons, setL_nil, words, Nat.reduceAdd, Nat.reduceEqDiff, Nat.reduceBEq, ↓reduceIte, reduceCtorEq, SX.exit.injEq, if_true, if_false, Int.reduceAdd, Int.reduceSub, Int.reduceMul, Int.reduceLT, Int.reduceLE, Int.reduceEq, Int.reduceNe, Int.reduceNeg, Int.reduceToNat, Nat.reduceMul, Nat.reduceLT, Nat.reduceSub, Nat.reduceLeDiff]
  refine wS_loopX 300 (fun i : Nat => [(12, .ptr 51 0 0), (13, lsts M), (15, .sl 50 0 0 i 1), (16, .int .i64 i)]) (fun i => [(50, .cells 0 (ints (ks3 i))), (51, .cells 0 [sli x.ini, tns x.tr])]) (fun i => i ≤ M.length) (fun i => M.length - i) 0 2 400
    (fun _ : Unit => [(12, .ptr 51 0 0), (13, lsts M), (15, sli (ks3 M.length))]) (fun _ => [(51, .cells 0 [sli x.ini, tns x.tr])]) (fun _ => True) ?_ (Nat.zero_le _) ?_ ?_
  · refine ⟨[(50, .nil), (51, .blk 227 0)], rfl, (by repeat (first | exact RO.zero | exact RO.e | refine RO.set rfl ?_)), ?_, (by repeat (first | exact RT.nil | (refine RT.cons ?_ ?_; · (first | exact Rn.any | exact Rn.x1 rfl rfl | exact Rn.x2 rfl rfl | exact Rn.x3 rfl rfl | exact Rn.x4 rfl rfl | exact Rn.x5 rfl | exact Rn.x6 rfl | exact Rn.x7 rfl | (refine Rn.slot ?_ ?_; (first | rfl | (rw [Int.natCast_add]; rfl)); (first | rfl | (simp only [noRef, noRefs, noRefs_append, Bool.and_self, Bool.and_true, Bool.true_and, noRefs_ints, noRefs_lsts, noRefs_pad, noRefs_tnC, noRefs_arcC, noRefs_rowF, noRefs_u8s]; done))) | (refine Rn.fn ?_ ?_ <;> (repeat' (first | exact RnL.nil | refine RnL.cons ?_ ?_ | exact Rn.same rfl | exact Rn.x6 rfl | exact Rn.x2 rfl rfl | exact Rn.x5 rfl | exact Rn.x1 rfl rfl)))))))⟩
    refine RB.newnil rfl rfl ?_
    repeat' (first | exact RB.nil | (refine RnL.same ?_; first | rfl | (simp only [noRef, noRefs, noRefs_append, Bool.and_self, Bool.and_true, Bool.true_and, noRefs_ints, noRefs_lsts, noRefs_pad, noRefs_tnC, noRefs_arcC, noRefs_rowF, noRefs_u8s]; done)) | exact RnM.keyM rfl | exact RnL.nil | refine RnL.cons ?_ ?_ | (refine Rn.same ?_; first | rfl | (simp only [noRef, noRefs, noRefs_append, Bool.and_self, Bool.and_true, Bool.true_and, noRefs_ints, noRefs_lsts, noRefs_pad, noRefs_tnC, noRefs_arcC, noRefs_rowF, noRefs_u8s]; done)) | exact Rn.x1 rfl rfl | exact Rn.x2 rfl rfl | exact Rn.x3 rfl rfl | exact Rn.x4 rfl rfl | exact Rn.x5 rfl | exact Rn.x6 rfl | exact Rn.x7 rfl | refine RB.newnil rfl rfl ?_ | refine RB.cells rfl rfl rfl ?_ ?_ | refine RB.map rfl rfl rfl ?_ ?_ | refine RB.cellsB rfl rfl ?_ ?_ | refine RB.mapB rfl rfl ?_ ?_)
  · intro i hi
    have hks := ks3_succ i
    have hkl := ks3_len i
    have htm : Int.tmod (i : Int) 3 = ((i % 3 : Nat) : Int) := rfl
    by_cases hlt : i < M.length
    · simp (maxSteps := 1000000) (disch := first | omega | exact PairsOK.mk rfl | (simp only [lenW] <;> omega)) only [hlt, htm, hkl, wordsN, Int.reduceGT, wordsR, ne_eq, wS_regionP, aAppend_slF, aAppend_slN, aSlice_fslL, aSlice_fslH, aSlice_fslB, aSlice_slL, aSlice_slH, aSlice_slB, setL_cons, setL_nil, words, Nat.reduceAdd, Nat.reduceEqDiff, Nat.reduceBEq, ↓reduceIte, reduceCtorEq, SX.exit.injEq, if_true, if_false, Int.reduceAdd, Int.reduceSub, Int.reduceMul, Int.reduceLT, Int.reduceLE, Int.reduceEq, Int.reduceNe, Int.reduceNeg, Int.reduceToNat, Nat.reduceMul, Nat.reduceLT, Nat.reduceSub, Nat.reduceLeDiff]
      refine ⟨i + 1, by omega, by omega, ?_⟩
      refine ⟨[(50, .blk 50 1), (51, .blk 51 0)], rfl, (by repeat (first | exact RO.zero | exact RO.e | refine RO.set rfl ?_)), ?_, (by repeat (first | exact RT.nil | (refine RT.cons ?_ ?_; · (first | exact Rn.any | exact Rn.x1 rfl rfl | exact Rn.x2 rfl rfl | exact Rn.x3 rfl rfl | exact Rn.x4 rfl rfl | exact Rn.x5 rfl | exact Rn.x6 rfl | exact Rn.x7 rfl | (refine Rn.slot ?_ ?_; (first | rfl | (rw [Int.natCast_add]; rfl)); (first | rfl | (simp only [noRef, noRefs, noRefs_append, Bool.and_self, Bool.and_true, Bool.true_and, noRefs_ints, noRefs_lsts, noRefs_pad, noRefs_tnC, noRefs_arcC, noRefs_rowF, noRefs_u8s]; done))) | (refine Rn.fn ?_ ?_ <;> (repeat' (first | exact RnL.nil | refine RnL.cons ?_ ?_ | exact Rn.same rfl | exact Rn.x6 rfl | exact Rn.x2 rfl rfl | exact Rn.x5 rfl | exact Rn.x1 rfl rfl)))))))⟩
      refine RB.cells rfl rfl rfl (RnL.eq (by rw [hks, ints_append]; rfl) (noRefs_ints _)) ?_
      repeat' (first | exact RB.nil | (refine RnL.same ?_; first | rfl | (simp only [noRef, noRefs, noRefs_append, Bool.and_self, Bool.and_true, Bool.true_and, noRefs_ints, noRefs_lsts, noRefs_pad, noRefs_tnC, noRefs_arcC, noRefs_rowF, noRefs_u8s]; done)) | exact RnM.keyM rfl | exact RnL.nil | refine RnL.cons ?_ ?_ | (refine Rn.same ?_; first | rfl | (simp only [noRef, noRefs, noRefs_append, Bool.and_self, Bool.and_true, Bool.true_and, noRefs_ints, noRefs_lsts, noRefs_pad, noRefs_tnC, noRefs_arcC, noRefs_rowF, noRefs_u8s]; done)) | exact Rn.x1 rfl rfl | exact Rn.x2 rfl rfl | exact Rn.x3 rfl rfl | exact Rn.x4 rfl rfl | exact Rn.x5 rfl | exact Rn.x6 rfl | exact Rn.x7 rfl | refine RB.newnil rfl rfl ?_ | refine RB.cells rfl rfl rfl ?_ ?_ | refine RB.map rfl rfl rfl ?_ ?_ | refine RB.cellsB rfl rfl ?_ ?_ | refine RB.mapB rfl rfl ?_ ?_)
    · have e : i = M.length := by omega
      simp (maxSteps := 1000000) (disch := first | omega | exact PairsOK.mk rfl | (simp only [lenW] <;> omega)) only [hlt, wordsN, Int.reduceGT, wordsR, ne_eq, wS_regionP, aAppend_slF, aAppend_slN, aSlice_fslL, aSlice_fslH, aSlice_fslB, aSlice_slL, aSlice_slH, aSlice_slB, setL_cons, setL_nil, words, Nat.reduceAdd, Nat.reduceEqDiff, Nat.reduceBEq, ↓reduceIte, reduceCtorEq, SX.exit.injEq, if_true, if_false, Int.reduceAdd, Int.reduceSub, Int.reduceMul, Int.reduceLT, Int.reduceLE, Int.reduceEq, Int.reduceNe, Int.reduceNeg, Int.reduceToNat, Nat.reduceMul, Nat.reduceLT, Nat.reduceSub, Nat.reduceLeDiff]
      refine ⟨(), ⟨[(51, .blk 51 0)], rfl, RO.zero, ?_, ?_⟩⟩
      · repeat' (first | exact RB.nil | (refine RnL.same ?_; first | rfl | (simp only [noRef, noRefs, noRefs_append, Bool.and_self, Bool.and_true, Bool.true_and, noRefs_ints, noRefs_lsts, noRefs_pad, noRefs_tnC, noRefs_arcC, noRefs_rowF, noRefs_u8s]; done)) | exact RnM.keyM rfl | exact RnL.nil | refine RnL.cons ?_ ?_ | (refine Rn.same ?_; first | rfl | (simp only [noRef, noRefs, noRefs_append, Bool.and_self, Bool.and_true, Bool.true_and, noRefs_ints, noRefs_lsts, noRefs_pad, noRefs_tnC, noRefs_arcC, noRefs_rowF, noRefs_u8s]; done)) | exact Rn.x1 rfl rfl | exact Rn.x2 rfl rfl | exact Rn.x3 rfl rfl | exact Rn.x4 rfl rfl | exact Rn.x5 rfl | exact Rn.x6 rfl | exact Rn.x7 rfl | refine RB.newnil rfl rfl ?_ | refine RB.cells rfl rfl rfl ?_ ?_ | refine RB.map rfl rfl rfl ?_ ?_ | refine RB.cellsB rfl rfl ?_ ?_ | refine RB.mapB rfl rfl ?_ ?_)
      · refine RT.cons' rfl ?_ (RT.cons' rfl ?_ (RT.cons' rfl (Rn.fzm rfl rfl rfl (by rw [ks3_len, e]) (by rw [ints_len, hkl]; omega) (RnL.eq (by rw [e]) (noRefs_ints _))) RT.nil)) <;> repeat' (first | exact RB.nil | (refine RnL.same ?_; first | rfl | (simp only [noRef, noRefs, noRefs_append, Bool.and_self, Bool.and_true, Bool.true_and, noRefs_ints, noRefs_lsts, noRefs_pad, noRefs_tnC, noRefs_arcC, noRefs_rowF, noRefs_u8s]; done)) | exact RnM.keyM rfl | exact RnL.nil | refine RnL.cons ?_ ?_ | (refine Rn.same ?_; first | rfl | (simp only [noRef, noRefs, noRefs_append, Bool.and_self, Bool.and_true, Bool.true_and, noRefs_ints, noRefs_lsts, noRefs_pad, noRefs_tnC, noRefs_arcC, noRefs_rowF, noRefs_u8s]; done)) | exact Rn.x1 rfl rfl | exact Rn.x2 rfl rfl | exact Rn.x3 rfl rfl | exact Rn.x4 rfl rfl | exact Rn.x5 rfl | exact Rn.x6 rfl | exact Rn.x7 rfl | refine RB.newnil rfl rfl ?_ | refine RB.cells rfl rfl rfl ?_ ?_ | refine RB.map rfl rfl rfl ?_ ?_ | refine RB.cellsB rfl rfl ?_ ?_ | refine RB.mapB rfl rfl ?_ ?_)
  rintro _ -
  have h34 := combine34 M (ks3 M.length) (by omega) (fun w hw => by have := (hpr w hw).1; omega) (by rw [ks3_len]; omega)
  rw [show cmbT M (ks3 M.length) = cmbV M (ks3 M.length) from if_pos c1, c1] at h34
  have hsf := isSemiflow x 1 (cmbV M (ks3 M.length)) x.ini.length R hnt (by omega) hRl c2 htabR hRs (fun y hy => by have := c3 y hy; unfold okT; omega)
  rw [c4] at hsf
  simp (maxSteps := 1000000) (disch := first | omega | exact PairsOK.mk rfl | (simp only [lenW] <;> omega)) only [wordsN, Int.reduceGT, wordsR, ne_eq, wS_regionP, aAppend_slF, aAppend_slN, aSlice_fslL, aSlice_fslH, aSlice_fslB, aSlice_slL, aSlice_slH, aSlice_slB, setL_cons, setL_nil, words, Nat.reduceAdd, Nat.reduceEqDiff, Nat.reduceBEq, ↓reduceIte, reduceCtorEq, SX.exit.injEq, if_true, if_false, Int.reduceAdd, Int.reduceSub, Int.reduceMul, Int.reduceLT, Int.reduceLE, Int.reduceEq, Int.reduceNe, Int.reduceNeg, Int.reduceToNat, Nat.reduceMul, Nat.reduceLT, Nat.reduceSub, Nat.reduceLeDiff]
  refine cp h34 ?_
  simp (maxSteps := 1000000) (disch := first | omega | exact PairsOK.mk rfl | (simp only [lenW] <;> omega)) only [wordsN, Int.reduceGT, wordsR, ne_eq, wS_regionP, aAppend_slF, aAppend_slN, aSlice_fslL, aSlice_fslH, aSlice_fslB, aSlice_slL, aSlice_slH, aSlice_slB, setL_cons, setL_nil, words, Nat.reduceAdd, Nat.reduceEqDiff, Nat.reduceBEq, ↓reduceIte, reduceCtorEq, SX.exit.injEq, if_true, if_false, Int.reduceAdd, Int.reduceSub, Int.reduceMul, Int.reduceLT, Int.reduceLE, Int.reduceEq, Int.reduceNe, Int.reduceNeg, Int.reduceToNat, Nat.reduceMul, Nat.reduceLT, Nat.reduceSub, Nat.reduceLeDiff]
  refine cp hsf ?_
  by_cases h1 : 1 < M.length
  · have h1' : (1 : Int) < M.length := by omega
    simp (maxSteps := 1000000) (disch := first | omega | exact PairsOK.mk rfl | (simp only [lenW] <;> omega)) only [h1, h1', aEq_bool, wordsN, Int.reduceGT, wordsR, ne_eq, wS_regionP, aAppend_slF, aAppend_slN, aSlice_fslL, aSlice_fslH, aSlice_fslB, aSlice_slL, aSlice_slH, aSlice_slB, setL_cons, setL_nil, words, Nat.reduceAdd, Nat.reduceEqDiff, Nat.reduceBEq, ↓reduceIte, reduceCtorEq, SX.exit.injEq, if_true, if_false, Int.reduceAdd, Int.reduceSub, Int.reduceMul, Int.reduceLT, Int.reduceLE, Int.reduceEq, Int.reduceNe, Int.reduceNeg, Int.reduceToNat, Nat.reduceMul, Nat.reduceLT, Nat.reduceSub, Nat.reduceLeDiff]
    exact ⟨.inr trivial, rfl⟩
  · have h1' : ¬ (1 : Int) < M.length := by omega
    simp (maxSteps := 1000000) (disch := first | omega | exact PairsOK.mk rfl | (simp only [lenW] <;> omega)) only [h1, h1', aEq_bool, wordsN, Int.reduceGT, wordsR, ne_eq, wS_regionP, aAppend_slF, aAppend_slN, aSlice_fslL, aSlice_fslH, aSlice_fslB, aSlice_slL, aSlice_slH, aSlice_slB, setL_cons, setL_nil, words, Nat.reduceAdd, Nat.reduceEqDiff, Nat.reduceBEq, ↓reduceIte, reduceCtorEq, SX.exit.injEq, if_true, if_false, Int.reduceAdd, Int.reduceSub, Int.reduceMul, Int.reduceLT, Int.reduceLE, Int.reduceEq, Int.reduceNe, Int.reduceNeg, Int.reduceToNat, Nat.reduceMul, Nat.reduceLT, Nat.reduceSub, Nat.reduceLeDiff]
    exact ⟨.inr trivial, rfl⟩
theorem law10_in (d0 : tySm.D) (d1 : (Ty.sl (.sl (.int .i64))).D) (d2 : (Ty.sl (.int .i64)).D) (h0 : tySm.wf d0) (h1 : (Ty.sl (.sl (.int .i64))).wf d1) (h2 : (Ty.sl (.int .i64)).wf d2) :
    W2 Try.prog ⟨SY.s10.n, 0⟩ SY.s10.body (fun e B => (e = .normal ∨ e = .ret) ∧ resV B.T B.h SY.s10.res = some [.bool true]) ⟨argT 0 [tySm.val d0, (Ty.sl (.sl (.int .i64))).val d1, (Ty.sl (.int .i64)).val d2], .e⟩ := by
  obtain ⟨s, hs, e0⟩ := sm_in h0
  obtain ⟨l, hl, hll, e1⟩ := lsts_in h1
  obtain ⟨m, hm, e2⟩ := sli_in h2
  rw [e0, e1, e2]
  exact law10 s hs l m hl hm hll
end Go.AM.SN
