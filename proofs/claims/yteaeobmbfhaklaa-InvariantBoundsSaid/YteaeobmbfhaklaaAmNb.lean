/- Contracts for nets: weigh of small weights. Conditions: none of ours. -/
import Derived.Test.YteaeobmbfhaklaaAmNa
namespace Go.AM.SN
open Go.Proofs
set_option maxRecDepth 100000
set_option linter.unusedSimpArgs false
set_option linter.unusedVariables false

theorem within1 (n : Int) (h : okT n) : PSpec Try.prog 67 [.int .i64 n] (.bool false) := by
  obtain ⟨h1, h2⟩ := h
  have h1' : ¬ n < 0 := by omega
  have h2' : ¬ 65536 < n := by omega
  refine PSpec.of_flat 64 ok67 rfl rfl rfl ?_
  simp (config := { maxSteps := 1000000 }) (disch := omega) only [s67, h1', h2', words, Nat.reduceAdd, Nat.reduceEqDiff, Nat.reduceBEq, ↓reduceIte, reduceCtorEq, SX.exit.injEq, if_true, if_false, Int.reduceAdd, Int.reduceSub, Int.reduceMul, Int.reduceLT, Int.reduceLE, Int.reduceEq, Int.reduceNe, Int.reduceNeg, Int.reduceToNat, Nat.reduceMul, Nat.reduceLT, Nat.reduceSub, Nat.reduceLeDiff]
  exact ⟨by simp, _, rfl, by simp [resOf, lk_cons]⟩
theorem within (l : List Int) (hl : l.length ≤ 1099511627776) (h : ∀ x ∈ l, okT x) : PSpec Try.prog 50 [sli l] (.int .i64 0) := by
  refine PSpec.of_flat 64 ok50 rfl (by simp [noRefs, noRef, noRefs_ints]) rfl ?_
  simp (config := { maxSteps := 1000000 }) (disch := omega) only [s50, words, Nat.reduceAdd, Nat.reduceEqDiff, Nat.reduceBEq, ↓reduceIte, reduceCtorEq, SX.exit.injEq, if_true, if_false, Int.reduceAdd, Int.reduceSub, Int.reduceMul, Int.reduceLT, Int.reduceLE, Int.reduceEq, Int.reduceNe, Int.reduceNeg, Int.reduceToNat, Nat.reduceMul, Nat.reduceLT, Nat.reduceSub, Nat.reduceLeDiff]
  refine cp (containsNone 67 l (fun x hx => within1 x (h x hx)) hl) ?_
  simp (config := { maxSteps := 1000000 }) (disch := omega) only [words, Nat.reduceAdd, Nat.reduceEqDiff, Nat.reduceBEq, ↓reduceIte, reduceCtorEq, SX.exit.injEq, if_true, if_false, Int.reduceAdd, Int.reduceSub, Int.reduceMul, Int.reduceLT, Int.reduceLE, Int.reduceEq, Int.reduceNe, Int.reduceNeg, Int.reduceToNat, Nat.reduceMul, Nat.reduceLT, Nat.reduceSub, Nat.reduceLeDiff]
  exact ⟨by simp, _, rfl, by simp [resOf, lk_cons]⟩
theorem weigh (l : List Int) (hl : l.length ≤ 1099511627776) (h : ∀ x ∈ l, okT x) : PSpec Try.prog 47 [sli l, .int .i64 l.length] (.int .i64 0) := by
  refine PSpec.of_flat 64 ok47 rfl (by simp [noRefs, noRef, noRefs_ints]) rfl ?_
  simp (config := { maxSteps := 1000000 }) (disch := omega) only [s47, words, Nat.reduceAdd, Nat.reduceEqDiff, Nat.reduceBEq, ↓reduceIte, reduceCtorEq, SX.exit.injEq, if_true, if_false, Int.reduceAdd, Int.reduceSub, Int.reduceMul, Int.reduceLT, Int.reduceLE, Int.reduceEq, Int.reduceNe, Int.reduceNeg, Int.reduceToNat, Nat.reduceMul, Nat.reduceLT, Nat.reduceSub, Nat.reduceLeDiff]
  refine cp (within l hl h) ?_
  simp (config := { maxSteps := 1000000 }) (disch := omega) only [words, Nat.reduceAdd, Nat.reduceEqDiff, Nat.reduceBEq, ↓reduceIte, reduceCtorEq, SX.exit.injEq, if_true, if_false, Int.reduceAdd, Int.reduceSub, Int.reduceMul, Int.reduceLT, Int.reduceLE, Int.reduceEq, Int.reduceNe, Int.reduceNeg, Int.reduceToNat, Nat.reduceMul, Nat.reduceLT, Nat.reduceSub, Nat.reduceLeDiff]
  exact ⟨by simp, _, rfl, by simp [resOf, lk_cons]⟩

/-! ### tables: rows of ten numbers -/
def pad (r : List Int) : List AV := ints (r ++ List.replicate (10 - r.length) 0)
theorem pad_len {r : List Int} (h : r.length ≤ 10) : (pad r).length = 10 := by simp [pad, ints]; omega
/-- A table: how many columns; the rows, padded. -/
abbrev tabV (k : Nat) (R : List (List Int)) : AV := .agg [.int .i64 k, .fsl (R.flatMap pad) R.length 10]
theorem drop_flat' {α : Type} {f : α → List AV} {k : Nat} : ∀ {l : List α} {i : Nat} {x : α}, (∀ x ∈ l, (f x).length = k) → l[i]? = some x → (l.flatMap f).drop (i * k) = f x ++ (l.drop (i + 1)).flatMap f
  | [], i, x, _, h => by simp at h
  | a :: l, 0, x, _, h => by simp at h; subst h; simp
  | a :: l, i + 1, x, hf, h => by
    simp at h
    have := drop_flat' (fun y hy => hf y (by simp [hy])) h
    simp only [List.flatMap_cons, List.drop_succ_cons]
    rw [← this, show (i + 1) * k = (f a).length + i * k by rw [hf a (by simp), Nat.succ_mul, Nat.add_comm], List.drop_append, List.drop_eq_nil_of_le (by omega), Nat.add_sub_cancel_left, List.nil_append]

/-- A weighed row. -/
def rowSum : List Int → List Int → Int
  | r :: rs, w :: ws => r * w + rowSum rs ws
  | _, _ => 0
theorem rowSum_take : ∀ {l m : List Int} {i : Nat} {x y : Int}, l[i]? = some x → m[i]? = some y → rowSum (l.take (i + 1)) (m.take (i + 1)) = rowSum (l.take i) (m.take i) + x * y
  | [], _, i, x, y, h, _ => by simp at h
  | _ :: _, [], i, x, y, _, h => by simp at h
  | a :: l, b :: m, 0, x, y, h1, h2 => by
    simp at h1 h2; subst h1; subst h2; simp [rowSum]
  | a :: l, b :: m, i + 1, x, y, h1, h2 => by
    simp at h1 h2
    have := rowSum_take h1 h2
    simp only [List.take_succ_cons, rowSum] at this ⊢
    omega
theorem rowSum_bound : ∀ {l m : List Int}, (∀ x ∈ l, sm x) → (∀ x ∈ m, sm x) → -(l.length * 4294967296) ≤ rowSum l m ∧ rowSum l m ≤ l.length * 4294967296
  | [], m, _, _ => by simp [rowSum]
  | x :: l, [], _, _ => by simp [rowSum]; omega
  | x :: l, y :: m, hl, hm => by
    have h1 := rowSum_bound (l := l) (m := m) (fun z hz => hl z (by simp [hz])) (fun z hz => hm z (by simp [hz]))
    have h2 := mul_sm (hl x (by simp)) (hm y (by simp))
    simp only [rowSum, List.length_cons]
    omega
def flowsR (R : List (List Int)) (w : List Int) : Bool := R.all (fun r => rowSum r w == 0) && !w.all (· == 0)

theorem suppR_pos (w : List Int) : (0 < (suppR w w.length).length) ↔ w.all (· == 0) = false := by
  unfold suppR
  rw [List.length_map]
  constructor
  · intro h
    obtain ⟨j, hj⟩ := List.exists_mem_of_length_pos h
    rw [List.mem_filter] at hj
    simp only [List.mem_range, Bool.not_eq_true', decide_eq_false_iff_not] at hj
    rw [List.all_eq_false]
    refine ⟨w.getD j 0, ?_, by simpa using hj.2⟩
    rw [List.getD_eq_getElem?_getD, List.getElem?_eq_getElem hj.1]
    exact List.getElem_mem _
  · intro h
    rw [List.all_eq_false] at h
    obtain ⟨x, hx, hne⟩ := h
    obtain ⟨j, hj, hjl⟩ := mem_at hx
    refine List.length_pos_of_mem (a := j) ?_
    rw [List.mem_filter]
    simp only [List.mem_range, Bool.not_eq_true', decide_eq_false_iff_not]
    refine ⟨hjl, ?_⟩
    rw [List.getD_eq_getElem?_getD, hj]
    simpa using hne

set_option maxHeartbeats 8000000 in
theorem flows (k : Nat) (R : List (List Int)) (w : List Int) (hk : k ≤ 10) (hR : R.length ≤ 1000) (hl : w.length = k) (hRk : ∀ r ∈ R, r.length = k) (hRs : ∀ r ∈ R, ∀ x ∈ r, sm x) (hw : ∀ x ∈ w, sm x) :
    PSpec Try.prog 49 [tabV k R, sli w] (.bool (flowsR R w)) := by
  have hfe : ∀ b, Tr.get (α := Blk) .e b = none := fun b => by simp [Tr.get]
  have hfl : noRefs (R.flatMap pad) = true := noRefs_flat fun r => noRefs_ints _
  refine PSpec.of_flat 64 ok49 rfl (by simp only [noRefs, noRef, hfl, noRefs_ints, Bool.and_true]) rfl ?_
  simp (config := { maxSteps := 1000000 }) (disch := omega) only [s49, hfe, wordsN, Int.reduceGT, words, Nat.reduceAdd, Nat.reduceEqDiff, Nat.reduceBEq, ↓reduceIte, reduceCtorEq, SX.exit.injEq, if_true, if_false, Int.reduceAdd, Int.reduceSub, Int.reduceMul, Int.reduceLT, Int.reduceLE, Int.reduceEq, Int.reduceNe, Int.reduceNeg, Int.reduceToNat, Nat.reduceMul, Nat.reduceLT, Nat.reduceSub, Nat.reduceLeDiff]
  refine wS_loop (fun i : Nat => [(1, sli w), (11, .fsl (R.flatMap pad) R.length 10), (12, .int .i64 R.length), (13, .int .i64 i)]) (fun i h n => i ≤ R.length ∧ Fresh n h ∧ n ≤ 1000 + i * 10000 ∧ ∀ j r, j < i → R[j]? = some r → rowSum r w = 0) (fun i => R.length - i) 0 (by repeat (first | exact Sub.nil | refine Sub.cons (by first | rfl | (rw [Int.natCast_add]; rfl)) ?_)) ⟨Nat.zero_le _, (Fresh.e (n := 65)).le (by omega) |>.set (by omega) (by omega), by omega, fun j r hj => absurd hj (Nat.not_lt_zero _)⟩ ?_
  rintro i h n ⟨hi, hf, hn, hb⟩
  have hf0 : ∀ b, n ≤ b → h.get b = none := hf
  by_cases hlt : i < R.length
  · obtain ⟨r, hr⟩ := get_ex hlt
    have hlt' : (i : Int) < (R.length : Int) := by omega
    have hrm := List.mem_of_getElem? hr
    have hrk := hRk r hrm
    have hd := drop_flat' (f := pad) (k := 10) (fun y hy => pad_len (by rw [hRk y hy]; omega)) hr
    have hpl : (pad r).length = 10 := pad_len (by omega)
    have ht10 : (pad r ++ (R.drop (i + 1)).flatMap pad).take 10 = pad r := by rw [← hpl, List.take_left']; rfl
    have hl10 : (10 ≤ (pad r ++ (R.drop (i + 1)).flatMap pad).length) = True := by simp [hpl]
    have hone : (pad r).all AV.one = true := by
      rw [List.all_eq_true]; intro y hy
      simp only [pad, ints, List.mem_map] at hy
      obtain ⟨z, _, rfl⟩ := hy; rfl
    have hput : putR [.int .i64 0, .int .i64 0, .int .i64 0, .int .i64 0, .int .i64 0, .int .i64 0, .int .i64 0, .int .i64 0, .int .i64 0, .int .i64 0] 0 (pad r) = pad r := by
      rcases hp : pad r with _ | ⟨a, _ | ⟨b, l⟩⟩
      · rw [hp] at hpl; cases hpl
      · rw [hp] at hpl; cases hpl
      · rw [hp] at hpl
        rw [putR_many, hpl]; simp
    simp (config := { maxSteps := 1000000 }) (disch := omega) only [hlt', hd, ht10, hl10, hf0, hpl, hone, hput, wordsN, Int.reduceGT, words, Nat.reduceAdd, Nat.reduceEqDiff, Nat.reduceBEq, ↓reduceIte, reduceCtorEq, SX.exit.injEq, if_true, if_false, Int.reduceAdd, Int.reduceSub, Int.reduceMul, Int.reduceLT, Int.reduceLE, Int.reduceEq, Int.reduceNe, Int.reduceNeg, Int.reduceToNat, Nat.reduceMul, Nat.reduceLT, Nat.reduceSub, Nat.reduceLeDiff]
    refine wS_loop (fun j : Nat => [(1, sli w), (11, .fsl (R.flatMap pad) R.length 10), (12, .int .i64 R.length), (13, .int .i64 i), (6, .ptr (n + 1 + 1 + 1) 0 0), (7, .int .i64 (rowSum (r.take j) (w.take j))), (17, sli w), (18, .int .i64 w.length), (19, .int .i64 j)])
      (fun j h2 n2 => j ≤ w.length ∧ h2.get (n + 1 + 1 + 1) = some (.cells 0 (pad r)) ∧ Fresh n2 h2 ∧ n2 ≤ n + 100 + j * 100) (fun j => w.length - j) 0 (by repeat (first | exact Sub.nil | refine Sub.cons (by first | rfl | (rw [Int.natCast_add]; rfl)) ?_)) ⟨Nat.zero_le _, get_same (by omega), (by repeat (first | exact Fresh.le (by assumption) (by omega) | refine Fresh.set ?_ (by omega) (by omega))), by omega⟩ ?_
    rintro j h2 n2 ⟨hj, hg, hf2, hnb⟩
    by_cases hjl : j < w.length
    · obtain ⟨x, hx⟩ := get_ex (l := r) (i := j) (by omega)
      obtain ⟨y, hy⟩ := get_ex hjl
      have hjl' : (j : Int) < (w.length : Int) := by omega
      have hj10 : (j : Int) < 10 := by omega
      have hpx : (pad r)[j]? = some (.int .i64 x) := by
        simp only [pad, ints, List.map_append]
        rw [List.getElem?_append_left (by simp; omega), List.getElem?_map, hx]; rfl
      have hxb := mul_sm (hRs r hrm x (List.mem_of_getElem? hx)) (hw y (List.mem_of_getElem? hy))
      have hdb := rowSum_bound (l := r.take j) (m := w.take j) (fun z hz => hRs r hrm z (List.mem_of_mem_take hz)) (fun z hz => hw z (List.mem_of_mem_take hz))
      have htl : (r.take j).length = j := by simp; omega
      rw [htl] at hdb
      have hstep := rowSum_take hx hy
      simp (config := { maxSteps := 1000000 }) (disch := omega) only [hjl', hj10, hpx, hg, head_ints hy, wordsN, Int.reduceGT, words, Nat.reduceAdd, Nat.reduceEqDiff, Nat.reduceBEq, ↓reduceIte, reduceCtorEq, SX.exit.injEq, if_true, if_false, Int.reduceAdd, Int.reduceSub, Int.reduceMul, Int.reduceLT, Int.reduceLE, Int.reduceEq, Int.reduceNe, Int.reduceNeg, Int.reduceToNat, Nat.reduceMul, Nat.reduceLT, Nat.reduceSub, Nat.reduceLeDiff]
      refine ⟨j + 1, by omega, ?_, by omega, (by repeat (first | exact Fresh.le (by assumption) (by omega) | refine Fresh.set ?_ (by omega) (by omega))), by omega⟩
      rw [hstep]
      repeat (first | exact Sub.nil | refine Sub.cons (by first | rfl | (rw [Int.natCast_add]; rfl)) ?_)
    · have hjl' : ¬ (j : Int) < (w.length : Int) := by omega
      have e : j = w.length := by omega
      have h1 : r.take j = r := List.take_of_length_le (by omega)
      have h2' : w.take j = w := List.take_of_length_le (by omega)
      rw [h1, h2']
      by_cases h0 : rowSum r w = 0
      · simp (config := { maxSteps := 1000000 }) (disch := omega) only [hjl', h0, wordsN, Int.reduceGT, words, Nat.reduceAdd, Nat.reduceEqDiff, Nat.reduceBEq, ↓reduceIte, reduceCtorEq, SX.exit.injEq, if_true, if_false, Int.reduceAdd, Int.reduceSub, Int.reduceMul, Int.reduceLT, Int.reduceLE, Int.reduceEq, Int.reduceNe, Int.reduceNeg, Int.reduceToNat, Nat.reduceMul, Nat.reduceLT, Nat.reduceSub, Nat.reduceLeDiff]
        refine ⟨i + 1, by omega, by repeat (first | exact Sub.nil | refine Sub.cons (by first | rfl | (rw [Int.natCast_add]; rfl)) ?_), by omega, hf2.le (by omega), by omega, fun j' r' hj' hr' => ?_⟩
        by_cases e' : j' = i
        · subst e'; rw [hr] at hr'; cases hr'; exact h0
        · exact hb j' r' (by omega) hr'
      · simp (config := { maxSteps := 1000000 }) (disch := omega) only [hjl', h0, wordsN, Int.reduceGT, words, Nat.reduceAdd, Nat.reduceEqDiff, Nat.reduceBEq, ↓reduceIte, reduceCtorEq, SX.exit.injEq, if_true, if_false, Int.reduceAdd, Int.reduceSub, Int.reduceMul, Int.reduceLT, Int.reduceLE, Int.reduceEq, Int.reduceNe, Int.reduceNeg, Int.reduceToNat, Nat.reduceMul, Nat.reduceLT, Nat.reduceSub, Nat.reduceLeDiff]
        refine ⟨by simp, _, rfl, ?_⟩
        have : R.all (fun r => rowSum r w == 0) = false := by
          rw [List.all_eq_false]; exact ⟨r, hrm, by simp [h0]⟩
        simp [resOf, lk_cons, flowsR, this]
  · have hlt' : ¬ (i : Int) < (R.length : Int) := by omega
    simp (config := { maxSteps := 1000000 }) (disch := omega) only [hlt', wordsN, Int.reduceGT, words, Nat.reduceAdd, Nat.reduceEqDiff, Nat.reduceBEq, ↓reduceIte, reduceCtorEq, SX.exit.injEq, if_true, if_false, Int.reduceAdd, Int.reduceSub, Int.reduceMul, Int.reduceLT, Int.reduceLE, Int.reduceEq, Int.reduceNe, Int.reduceNeg, Int.reduceToNat, Nat.reduceMul, Nat.reduceLT, Nat.reduceSub, Nat.reduceLeDiff]
    refine cp (support w (by omega)) ?_
    have hall : R.all (fun r => rowSum r w == 0) = true := by
      rw [List.all_eq_true]
      intro r hr
      obtain ⟨j, hj, hjl⟩ := mem_at hr
      simp [hb j r (by omega) hj]
    have hsp := suppR_pos w
    simp (config := { maxSteps := 1000000 }) (disch := omega) only [wordsN, Int.reduceGT, words, Nat.reduceAdd, Nat.reduceEqDiff, Nat.reduceBEq, ↓reduceIte, reduceCtorEq, SX.exit.injEq, if_true, if_false, Int.reduceAdd, Int.reduceSub, Int.reduceMul, Int.reduceLT, Int.reduceLE, Int.reduceEq, Int.reduceNe, Int.reduceNeg, Int.reduceToNat, Nat.reduceMul, Nat.reduceLT, Nat.reduceSub, Nat.reduceLeDiff]
    refine ⟨by simp, _, rfl, ?_⟩
    simp only [resOf, lk_cons, flowsR, hall, Bool.true_and]
    cases hz : w.all (· == 0) with
    | true =>
      have : ¬ 0 < (suppR w w.length).length := fun hc => by rw [hsp, hz] at hc; cases hc
      simp
      exact List.length_eq_zero_iff.1 (by omega)
    | false =>
      have := hsp.2 hz
      simp
      exact this
end Go.AM.SN
