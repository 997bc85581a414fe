/- Contracts for nets: weight, balanced, sameLists. Conditions: none of ours. -/
import Derived.Test.YteaeobmbfhaklaaAmNu
namespace Go.AM.SN
open Go.Proofs
set_option maxRecDepth 100000
set_option linter.unusedSimpArgs false
set_option linter.unusedVariables false

/-- The weight of the first arc of a place, or 0. -/
def weightR : List (Int × Int) → Int → Int
  | [], _ => 0
  | a :: l, p => if a.1 = p then a.2 else weightR l p
theorem weightR_drop {l : List (Int × Int)} {i : Nat} {a : Int × Int} {p : Int} (h : l[i]? = some a) : weightR (l.drop i) p = if a.1 = p then a.2 else weightR (l.drop (i + 1)) p := by
  obtain ⟨hl, e⟩ := List.getElem?_eq_some_iff.1 h
  rw [List.drop_eq_getElem_cons hl, e]; rfl

theorem weight (l : List (Int × Int)) (p : Int) (hl : l.length ≤ 1099511627776) : PSpec Try.prog 26 [arcs l, .int .i64 p] (.int .i64 (weightR l p)) := by
  refine PSpec.of_flat 64 ok26 rfl (by simp only [noRefs, noRef_arcs]; rfl) rfl ?_
  simp (config := { maxSteps := 1000000 }) (disch := omega) only [s26, words, Nat.reduceAdd, Nat.reduceEqDiff, Nat.reduceBEq, ↓reduceIte, reduceCtorEq, SX.exit.injEq, if_true, if_false, Int.reduceAdd, Int.reduceSub, Int.reduceMul, Int.reduceLT, Int.reduceLE, Int.reduceEq, Int.reduceNe, Int.reduceNeg, Int.reduceToNat, Nat.reduceMul, Nat.reduceLT, Nat.reduceSub, Nat.reduceLeDiff]
  refine wS_loop (fun i : Nat => [(0, arcs l), (1, .int .i64 p), (5, .int .i64 i)]) (fun i h _ => h = .e ∧ i ≤ l.length ∧ weightR l p = weightR (l.drop i) p) (fun i => l.length - i) 0 (by repeat (first | exact Sub.nil | refine Sub.cons (by first | rfl | (rw [Int.natCast_add]; rfl)) ?_)) ⟨rfl, Nat.zero_le _, rfl⟩ ?_
  rintro i h n ⟨rfl, hi, hb⟩
  by_cases hlt : i < l.length
  · obtain ⟨a, ha⟩ := get_ex hlt
    have hlt' : (i : Int) < (l.length : Int) := by omega
    by_cases h0 : a.1 = p
    · have hd := drop_arcs ha
      simp (config := { maxSteps := 1000000 }) (disch := omega) only [hlt', hd, h0, List.drop_zero, List.drop_succ_cons, List.head?_cons, words, Nat.reduceAdd, Nat.reduceEqDiff, Nat.reduceBEq, ↓reduceIte, reduceCtorEq, SX.exit.injEq, if_true, if_false, Int.reduceAdd, Int.reduceSub, Int.reduceMul, Int.reduceLT, Int.reduceLE, Int.reduceEq, Int.reduceNe, Int.reduceNeg, Int.reduceToNat, Nat.reduceMul, Nat.reduceLT, Nat.reduceSub, Nat.reduceLeDiff]
      refine ⟨by simp, _, rfl, ?_⟩
      rw [hb, weightR_drop ha, if_pos h0]; simp [resOf, lk_cons]
    · have hd := drop_arcs ha
      simp (config := { maxSteps := 1000000 }) (disch := omega) only [hlt', hd, h0, List.drop_zero, List.drop_succ_cons, List.head?_cons, words, Nat.reduceAdd, Nat.reduceEqDiff, Nat.reduceBEq, ↓reduceIte, reduceCtorEq, SX.exit.injEq, if_true, if_false, Int.reduceAdd, Int.reduceSub, Int.reduceMul, Int.reduceLT, Int.reduceLE, Int.reduceEq, Int.reduceNe, Int.reduceNeg, Int.reduceToNat, Nat.reduceMul, Nat.reduceLT, Nat.reduceSub, Nat.reduceLeDiff]
      refine ⟨i + 1, by omega, by repeat (first | exact Sub.nil | refine Sub.cons (by first | rfl | (rw [Int.natCast_add]; rfl)) ?_), by omega, ?_⟩
      rw [hb, weightR_drop ha, if_neg h0]
  · have hlt' : ¬ (i : Int) < (l.length : Int) := by omega
    simp (config := { maxSteps := 1000000 }) (disch := omega) only [hlt', words, Nat.reduceAdd, Nat.reduceEqDiff, Nat.reduceBEq, ↓reduceIte, reduceCtorEq, SX.exit.injEq, if_true, if_false, Int.reduceAdd, Int.reduceSub, Int.reduceMul, Int.reduceLT, Int.reduceLE, Int.reduceEq, Int.reduceNe, Int.reduceNeg, Int.reduceToNat, Nat.reduceMul, Nat.reduceLT, Nat.reduceSub, Nat.reduceLeDiff]
    refine ⟨by simp, _, rfl, ?_⟩
    have : l.drop i = [] := List.drop_of_length_le (by omega)
    rw [hb, this]; simp [resOf, lk_cons, weightR]

theorem sameLists (a b : List (List Int)) (hl : a.length ≤ 1099511627776) (hla : ∀ x ∈ a, x.length ≤ 1099511627776) : PSpec Try.prog 18 [lsts a, lsts b] (.bool (decide (a = b))) := by
  refine PSpec.of_flat 64 ok18 rfl (by simp [noRefs, noRef, noRefs_lsts]) rfl ?_
  by_cases hab : a.length = b.length
  · have hab' : (a.length : Int) = (b.length : Int) := by omega
    simp (config := { maxSteps := 1000000 }) (disch := omega) only [s18, hab', words, Nat.reduceAdd, Nat.reduceEqDiff, Nat.reduceBEq, ↓reduceIte, reduceCtorEq, SX.exit.injEq, if_true, if_false, Int.reduceAdd, Int.reduceSub, Int.reduceMul, Int.reduceLT, Int.reduceLE, Int.reduceEq, Int.reduceNe, Int.reduceNeg, Int.reduceToNat, Nat.reduceMul, Nat.reduceLT, Nat.reduceSub, Nat.reduceLeDiff]
    refine wS_loop (fun i : Nat => [(0, lsts a), (1, lsts b), (5, .int .i64 i)]) (fun i h _ => h = .e ∧ i ≤ a.length ∧ ∀ j, j < i → a[j]? = b[j]?) (fun i => a.length - i) 0 (by repeat (first | exact Sub.nil | refine Sub.cons (by first | rfl | (rw [Int.natCast_add]; rfl)) ?_)) ⟨rfl, Nat.zero_le _, fun j hj => absurd hj (Nat.not_lt_zero _)⟩ ?_
    rintro i h n ⟨rfl, hi, hb⟩
    by_cases hlt : i < a.length
    · obtain ⟨x, hx⟩ := get_ex hlt
      obtain ⟨y, hy⟩ := get_ex (l := b) (i := i) (by omega)
      have hlt' : (i : Int) < (a.length : Int) := by omega
      have hlt2 : (i : Int) < (b.length : Int) := by omega
      simp (config := { maxSteps := 1000000 }) (disch := omega) only [hlt', hlt2, hab, head_lsts hx, head_lsts hy, words, Nat.reduceAdd, Nat.reduceEqDiff, Nat.reduceBEq, ↓reduceIte, reduceCtorEq, SX.exit.injEq, if_true, if_false, Int.reduceAdd, Int.reduceSub, Int.reduceMul, Int.reduceLT, Int.reduceLE, Int.reduceEq, Int.reduceNe, Int.reduceNeg, Int.reduceToNat, Nat.reduceMul, Nat.reduceLT, Nat.reduceSub, Nat.reduceLeDiff]
      refine cp (same x y (hla x (List.mem_of_getElem? hx))) ?_
      by_cases h0 : x = y
      · simp (config := { maxSteps := 1000000 }) (disch := omega) only [h0, words, Nat.reduceAdd, Nat.reduceEqDiff, Nat.reduceBEq, ↓reduceIte, reduceCtorEq, SX.exit.injEq, if_true, if_false, Int.reduceAdd, Int.reduceSub, Int.reduceMul, Int.reduceLT, Int.reduceLE, Int.reduceEq, Int.reduceNe, Int.reduceNeg, Int.reduceToNat, Nat.reduceMul, Nat.reduceLT, Nat.reduceSub, Nat.reduceLeDiff]
        refine ⟨i + 1, by omega, by repeat (first | exact Sub.nil | refine Sub.cons (by first | rfl | (rw [Int.natCast_add]; rfl)) ?_), by omega, fun j hj => ?_⟩
        by_cases e : j = i
        · subst e; rw [hx, hy, h0]
        · exact hb j (by omega)
      · simp (config := { maxSteps := 1000000 }) (disch := omega) only [h0, words, Nat.reduceAdd, Nat.reduceEqDiff, Nat.reduceBEq, ↓reduceIte, reduceCtorEq, SX.exit.injEq, if_true, if_false, Int.reduceAdd, Int.reduceSub, Int.reduceMul, Int.reduceLT, Int.reduceLE, Int.reduceEq, Int.reduceNe, Int.reduceNeg, Int.reduceToNat, Nat.reduceMul, Nat.reduceLT, Nat.reduceSub, Nat.reduceLeDiff]
        refine ⟨by simp, _, rfl, ?_⟩
        have : a ≠ b := fun e => by subst e; rw [hx] at hy; cases hy; exact h0 rfl
        simp [resOf, lk_cons, this]
    · have hlt' : ¬ (i : Int) < (a.length : Int) := by omega
      have : a = b := List.ext_getElem? fun j => by
        by_cases hj : j < i
        · exact hb j hj
        · rw [List.getElem?_eq_none (by omega), List.getElem?_eq_none (by omega)]
      simp (config := { maxSteps := 1000000 }) (disch := omega) only [hlt', words, Nat.reduceAdd, Nat.reduceEqDiff, Nat.reduceBEq, ↓reduceIte, reduceCtorEq, SX.exit.injEq, if_true, if_false, Int.reduceAdd, Int.reduceSub, Int.reduceMul, Int.reduceLT, Int.reduceLE, Int.reduceEq, Int.reduceNe, Int.reduceNeg, Int.reduceToNat, Nat.reduceMul, Nat.reduceLT, Nat.reduceSub, Nat.reduceLeDiff]
      exact ⟨by simp, _, rfl, by simp [resOf, lk_cons, this]⟩
  · have hab' : ¬ (a.length : Int) = (b.length : Int) := by omega
    simp (config := { maxSteps := 1000000 }) (disch := omega) only [s18, hab', words, Nat.reduceAdd, Nat.reduceEqDiff, Nat.reduceBEq, ↓reduceIte, reduceCtorEq, SX.exit.injEq, if_true, if_false, Int.reduceAdd, Int.reduceSub, Int.reduceMul, Int.reduceLT, Int.reduceLE, Int.reduceEq, Int.reduceNe, Int.reduceNeg, Int.reduceToNat, Nat.reduceMul, Nat.reduceLT, Nat.reduceSub, Nat.reduceLeDiff]
    have : a ≠ b := fun e => hab (by rw [e])
    exact ⟨by simp, _, rfl, by simp [resOf, lk_cons, this]⟩

/-! ### balanced -/
/-- The k-th column, weighed. -/
def colSum : List (List Int) → List Int → Nat → Int
  | r :: l, w :: ws, k => w * r.getD k 0 + colSum l ws k
  | _, _, _ => 0
theorem colSum_take : ∀ {l : List (List Int)} {w : List Int} {i k : Nat} {r : List Int} {x : Int}, l[i]? = some r → w[i]? = some x → colSum (l.take (i + 1)) (w.take (i + 1)) k = colSum (l.take i) (w.take i) k + x * r.getD k 0
  | [], _, _, _, _, _, h, _ => by simp at h
  | _ :: _, [], _, _, _, _, _, h => by simp at h
  | a :: l, b :: w, 0, k, r, x, h1, h2 => by
    simp at h1 h2; subst h1; subst h2; simp [colSum]
  | a :: l, b :: w, i + 1, k, r, x, h1, h2 => by
    simp at h1 h2
    have := colSum_take (k := k) h1 h2
    simp only [List.take_succ_cons, colSum] at this ⊢
    omega
theorem colSum_cut : ∀ {l : List (List Int)} {w : List Int} {k : Nat}, colSum l (w.take l.length) k = colSum l w k
  | [], w, k => by cases w <;> rfl
  | r :: l, [], k => rfl
  | r :: l, x :: w, k => by simp only [List.length_cons, List.take_succ_cons, colSum, colSum_cut]
/-- Small, with a sign. -/
def sm (n : Int) : Prop := -65536 ≤ n ∧ n ≤ 65536
theorem mul_sm {x y : Int} (hx : sm x) (hy : sm y) : -4294967296 ≤ x * y ∧ x * y ≤ 4294967296 := by
  obtain ⟨h1, h2⟩ := hx
  obtain ⟨h3, h4⟩ := hy
  have hn : (x * y).natAbs ≤ 65536 * 65536 := by
    rw [Int.natAbs_mul]
    exact Nat.mul_le_mul (by omega) (by omega)
  omega
theorem sm_zero : sm 0 := by unfold sm; omega
theorem getD_sm {r : List Int} (h : ∀ x ∈ r, sm x) (k : Nat) : sm (r.getD k 0) := by
  rw [List.getD_eq_getElem?_getD]
  cases hk : r[k]? with
  | none => exact sm_zero
  | some x => exact h x (List.mem_of_getElem? hk)
theorem colSum_bound : ∀ {l : List (List Int)} {w : List Int} {k : Nat}, (∀ r ∈ l, ∀ x ∈ r, sm x) → (∀ x ∈ w, sm x) → -(l.length * 4294967296) ≤ colSum l w k ∧ colSum l w k ≤ l.length * 4294967296
  | [], w, k, _, _ => by simp [colSum]
  | r :: l, [], k, _, _ => by simp [colSum]; omega
  | r :: l, x :: w, k, hl, hw => by
    have h1 := colSum_bound (k := k) (fun r hr => hl r (by simp [hr])) (fun x hx => hw x (by simp [hx])) (l := l) (w := w)
    have h2 := mul_sm (hw x (by simp)) (getD_sm (hl r (by simp)) k)
    simp only [colSum, List.length_cons]
    omega

/-- A combination of rows is 0. -/
def balR (l : List (List Int)) (w : List Int) : Bool := (List.range (l.headD []).length).all fun k => colSum l w k == 0

theorem balanced (l : List (List Int)) (w : List Int) (hl : l.length ≤ 1000000) (hw : l.length ≤ w.length) (hc : ∀ r ∈ l, r.length = (l.headD []).length) (hk : (l.headD []).length ≤ 1000000)
    (hls : ∀ r ∈ l, ∀ x ∈ r, sm x) (hws : ∀ x ∈ w, sm x) : PSpec Try.prog 21 [lsts l, sli w] (.bool (balR l w)) := by
  refine PSpec.of_flat 64 ok21 rfl (by simp [noRefs, noRef, noRefs_lsts, noRefs_ints]) rfl ?_
  simp (config := { maxSteps := 1000000 }) (disch := omega) only [s21, words, Nat.reduceAdd, Nat.reduceEqDiff, Nat.reduceBEq, ↓reduceIte, reduceCtorEq, SX.exit.injEq, if_true, if_false, Int.reduceAdd, Int.reduceSub, Int.reduceMul, Int.reduceLT, Int.reduceLE, Int.reduceEq, Int.reduceNe, Int.reduceNeg, Int.reduceToNat, Nat.reduceMul, Nat.reduceLT, Nat.reduceSub, Nat.reduceLeDiff]
  refine wS_loop (fun k : Nat => [(0, lsts l), (1, sli w), (5, .int .i64 k)]) (fun k h _ => h = .e ∧ k ≤ (l.headD []).length ∧ ∀ j, j < k → colSum l w j = 0) (fun k => (l.headD []).length - k) 0 (by repeat (first | exact Sub.nil | refine Sub.cons (by first | rfl | (rw [Int.natCast_add]; rfl)) ?_)) ⟨rfl, Nat.zero_le _, fun j hj => absurd hj (Nat.not_lt_zero _)⟩ ?_
  rintro k h n ⟨rfl, hkl, hb⟩
  have fin : k = (l.headD []).length → balR l w = true := fun e => by
    unfold balR
    rw [List.all_eq_true]
    intro j hj
    simp only [List.mem_range] at hj
    simp [hb j (by omega)]
  by_cases hl0 : 0 < l.length
  · obtain ⟨r0, hr0⟩ := get_ex hl0
    have hl0' : (0 : Int) < (l.length : Int) := by omega
    have hh : l.headD [] = r0 := by
      cases l with
      | nil => simp at hl0
      | cons a l => simp at hr0; simp [hr0]
    have hd0 : ((l.map sli).head?) = some (sli r0) := by
      have := head_lsts hr0; simpa using this
    by_cases hlt : k < r0.length
    · have hlt' : (k : Int) < (r0.length : Int) := by omega
      simp (config := { maxSteps := 1000000 }) (disch := omega) only [hl0', hlt', hd0, List.drop_zero, Nat.zero_mul, words, Nat.reduceAdd, Nat.reduceEqDiff, Nat.reduceBEq, ↓reduceIte, reduceCtorEq, SX.exit.injEq, if_true, if_false, Int.reduceAdd, Int.reduceSub, Int.reduceMul, Int.reduceLT, Int.reduceLE, Int.reduceEq, Int.reduceNe, Int.reduceNeg, Int.reduceToNat, Nat.reduceMul, Nat.reduceLT, Nat.reduceSub, Nat.reduceLeDiff]
      refine wS_loop (fun i : Nat => [(0, lsts l), (1, sli w), (5, .int .i64 k), (6, .int .i64 (colSum (l.take i) (w.take i) k)), (7, .int .i64 i)]) (fun i h _ => h = .e ∧ i ≤ l.length) (fun i => l.length - i) 0 (by repeat (first | exact Sub.nil | refine Sub.cons (by first | rfl | (rw [Int.natCast_add]; rfl)) ?_)) ⟨rfl, Nat.zero_le _⟩ ?_
      rintro i h n ⟨rfl, hi⟩
      by_cases hil : i < l.length
      · obtain ⟨r, hr⟩ := get_ex hil
        obtain ⟨x, hx⟩ := get_ex (l := w) (i := i) (by omega)
        have hil' : (i : Int) < (l.length : Int) := by omega
        have hil2 : (i : Int) < (w.length : Int) := by omega
        have hrl := hc r (List.mem_of_getElem? hr)
        rw [hh] at hrl
        have hlt2 : (k : Int) < (r.length : Int) := by omega
        obtain ⟨y, hy⟩ := get_ex (l := r) (i := k) (by omega)
        have hyD : r.getD k 0 = y := by rw [List.getD_eq_getElem?_getD, hy]; rfl
        have hxb := mul_sm (hws x (List.mem_of_getElem? hx)) (hls r (List.mem_of_getElem? hr) y (List.mem_of_getElem? hy))
        have hd := colSum_bound (l := l.take i) (w := w.take i) (k := k) (fun r hr => hls r (List.mem_of_mem_take hr)) (fun z hz => hws z (List.mem_of_mem_take hz))
        have htl : (l.take i).length = i := by simp; omega
        rw [htl] at hd
        have hstep := colSum_take (k := k) hr hx
        rw [hyD] at hstep
        simp (config := { maxSteps := 1000000 }) (disch := omega) only [hil', hil2, hlt2, head_ints hx, head_ints hy, head_lsts hr, words, Nat.reduceAdd, Nat.reduceEqDiff, Nat.reduceBEq, ↓reduceIte, reduceCtorEq, SX.exit.injEq, if_true, if_false, Int.reduceAdd, Int.reduceSub, Int.reduceMul, Int.reduceLT, Int.reduceLE, Int.reduceEq, Int.reduceNe, Int.reduceNeg, Int.reduceToNat, Nat.reduceMul, Nat.reduceLT, Nat.reduceSub, Nat.reduceLeDiff]
        refine ⟨i + 1, by omega, ?_, by omega⟩
        rw [hstep]
        repeat (first | exact Sub.nil | refine Sub.cons (by first | rfl | (rw [Int.natCast_add]; rfl)) ?_)
      · have hil' : ¬ (i : Int) < (l.length : Int) := by omega
        have h1 : l.take i = l := List.take_of_length_le (by omega)
        have e1 : i = l.length := by omega
        have h2 : colSum (l.take i) (w.take i) k = colSum l w k := by
          rw [h1, e1, colSum_cut]
        by_cases h0 : colSum l w k = 0
        · simp (config := { maxSteps := 1000000 }) (disch := omega) only [hil', h2, h0, words, Nat.reduceAdd, Nat.reduceEqDiff, Nat.reduceBEq, ↓reduceIte, reduceCtorEq, SX.exit.injEq, if_true, if_false, Int.reduceAdd, Int.reduceSub, Int.reduceMul, Int.reduceLT, Int.reduceLE, Int.reduceEq, Int.reduceNe, Int.reduceNeg, Int.reduceToNat, Nat.reduceMul, Nat.reduceLT, Nat.reduceSub, Nat.reduceLeDiff]
          refine ⟨k + 1, by rw [hh]; omega, by repeat (first | exact Sub.nil | refine Sub.cons (by first | rfl | (rw [Int.natCast_add]; rfl)) ?_), by rw [hh]; omega, fun j hj => ?_⟩
          by_cases e : j = k
          · subst e; exact h0
          · exact hb j (by omega)
        · simp (config := { maxSteps := 1000000 }) (disch := omega) only [hil', h2, h0, words, Nat.reduceAdd, Nat.reduceEqDiff, Nat.reduceBEq, ↓reduceIte, reduceCtorEq, SX.exit.injEq, if_true, if_false, Int.reduceAdd, Int.reduceSub, Int.reduceMul, Int.reduceLT, Int.reduceLE, Int.reduceEq, Int.reduceNe, Int.reduceNeg, Int.reduceToNat, Nat.reduceMul, Nat.reduceLT, Nat.reduceSub, Nat.reduceLeDiff]
          refine ⟨by simp, _, rfl, ?_⟩
          have : balR l w = false := by
            unfold balR
            rw [List.all_eq_false]
            exact ⟨k, by rw [List.mem_range, hh]; exact hlt, by simp [h0]⟩
          simp [resOf, lk_cons, this]
    · have hlt' : ¬ (k : Int) < (r0.length : Int) := by omega
      simp (config := { maxSteps := 1000000 }) (disch := omega) only [hl0', hlt', hd0, List.drop_zero, Nat.zero_mul, words, Nat.reduceAdd, Nat.reduceEqDiff, Nat.reduceBEq, ↓reduceIte, reduceCtorEq, SX.exit.injEq, if_true, if_false, Int.reduceAdd, Int.reduceSub, Int.reduceMul, Int.reduceLT, Int.reduceLE, Int.reduceEq, Int.reduceNe, Int.reduceNeg, Int.reduceToNat, Nat.reduceMul, Nat.reduceLT, Nat.reduceSub, Nat.reduceLeDiff]
      exact ⟨by simp, _, rfl, by simp [resOf, lk_cons, fin (by rw [hh] at hkl ⊢; omega)]⟩
  · have hl0' : ¬ (0 : Int) < (l.length : Int) := by omega
    have : l = [] := List.length_eq_zero_iff.1 (by omega)
    subst this
    simp (config := { maxSteps := 1000000 }) (disch := omega) only [hl0', words, Nat.reduceAdd, Nat.reduceEqDiff, Nat.reduceBEq, ↓reduceIte, reduceCtorEq, SX.exit.injEq, if_true, if_false, Int.reduceAdd, Int.reduceSub, Int.reduceMul, Int.reduceLT, Int.reduceLE, Int.reduceEq, Int.reduceNe, Int.reduceNeg, Int.reduceToNat, Nat.reduceMul, Nat.reduceLT, Nat.reduceSub, Nat.reduceLeDiff]
    exact ⟨by simp, _, rfl, by simp [resOf, lk_cons, balR]⟩
end Go.AM.SN
