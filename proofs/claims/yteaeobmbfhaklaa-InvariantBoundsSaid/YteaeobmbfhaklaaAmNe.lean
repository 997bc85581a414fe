/- Contracts for nets: newTable. Conditions: none of ours. -/
import Derived.Test.YteaeobmbfhaklaaAmNd
namespace Go.AM.SN
open Go.Proofs
set_option maxRecDepth 100000
set_option linter.unusedSimpArgs false
set_option linter.unusedVariables false

/-- Rows of ten cells in one row of cells. -/
def flat10 (rows : Nat) (f : Nat → Nat → Int) : List AV := ints ((List.range (rows * 10)).map fun c => f (c / 10) (c % 10))
theorem flat10_len (rows : Nat) (f : Nat → Nat → Int) : (flat10 rows f).length = rows * 10 := by simp [flat10, ints]
theorem flat10_set {rows i p : Nat} (f : Nat → Nat → Int) (hi : i < rows) (hp : p < 10) (v : Int) : (flat10 rows f).set (i * 10 + p) (.int .i64 v) = flat10 rows (fun i' p' => if i' = i ∧ p' = p then v else f i' p') := by
  refine List.ext_getElem? fun j => ?_
  simp only [flat10, ints, List.getElem?_set, List.length_map, List.length_range, List.getElem?_map]
  by_cases hj : i * 10 + p = j
  · subst hj
    have h1 : (i * 10 + p) / 10 = i := by omega
    have h2 : (i * 10 + p) % 10 = p := by omega
    have h3 : i * 10 + p < rows * 10 := by omega
    simp [h3, List.getElem?_range h3, h1, h2]
  · rw [if_neg hj]
    by_cases hjr : j < rows * 10
    · have : ¬ (j / 10 = i ∧ j % 10 = p) := by omega
      simp [List.getElem?_range hjr, this]
    · simp [List.getElem?_eq_none (show (List.range (rows * 10)).length ≤ j by simp; omega)]
theorem flat10_congr {rows : Nat} {f g : Nat → Nat → Int} (h : ∀ i p, i < rows → p < 10 → f i p = g i p) : flat10 rows f = flat10 rows g := by
  unfold flat10
  congr 1
  refine List.map_congr_left fun c hc => h _ _ ?_ (by omega)
  simp only [List.mem_range] at hc
  omega
theorem flat10_succ (n : Nat) (f : Nat → Nat → Int) : flat10 (n + 1) f = ints ((List.range 10).map (f 0)) ++ flat10 n (fun i p => f (i + 1) p) := by
  unfold flat10
  rw [show (n + 1) * 10 = 10 + n * 10 by omega, List.range_add, List.map_append, ints_append, List.map_map]
  congr 2
  refine List.map_congr_left fun c _ => ?_
  simp only [Function.comp]
  rw [show (10 + c) / 10 = c / 10 + 1 by omega, show (10 + c) % 10 = c % 10 by omega]
theorem pad_range {r : List Int} (h : r.length ≤ 10) : pad r = ints ((List.range 10).map fun p => r.getD p 0) := by
  unfold pad
  congr 1
  refine List.ext_getElem? fun j => ?_
  by_cases hj : j < r.length
  · obtain ⟨y, hy⟩ := get_ex hj
    rw [List.getElem?_append_left hj, hy, List.getElem?_map, List.getElem?_range (by omega)]
    simp [List.getD_eq_getElem?_getD, hy]
  · rw [List.getElem?_append_right (by omega), List.getElem?_map]
    by_cases hj2 : j < 10
    · rw [List.getElem?_range hj2, List.getElem?_replicate]
      simp [List.getD_eq_getElem?_getD, List.getElem?_eq_none (show r.length ≤ j by omega)]
      omega
    · rw [List.getElem?_replicate, List.getElem?_eq_none (show (List.range 10).length ≤ j by simp; omega)]
      simp; omega
/-- A table, flat. -/
theorem flat10_tab {R : List (List Int)} (hR : ∀ r ∈ R, r.length ≤ 10) : R.flatMap pad = flat10 R.length (fun i p => (R.getD i []).getD p 0) := by
  induction R with
  | nil => rfl
  | cons r R ih =>
    rw [List.flatMap_cons, List.length_cons, flat10_succ, ih fun q hq => hR q (by simp [hq]), pad_range (hR r (by simp))]
    rfl
end Go.AM.SN
