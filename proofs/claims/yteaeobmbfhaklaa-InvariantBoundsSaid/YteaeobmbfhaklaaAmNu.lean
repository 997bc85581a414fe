/- Contracts for nets: lists, weights. Conditions: none of ours. -/
import Derived.Test.YteaeobmbfhaklaaAmNx
import Derived.Test.YteaeobmbfhaklaaAmQw
namespace Go.AM.SN
open Go.Proofs
set_option maxRecDepth 100000
set_option linter.unusedSimpArgs false
set_option linter.unusedVariables false

/-! ### data -/
def ints (l : List Int) : List AV := l.map (.int .i64)
/-- A slice of ints that is only read. -/
abbrev sli (l : List Int) : AV := .fsl (ints l) l.length 1
theorem noRefs_ints (l : List Int) : noRefs (ints l) = true := by
  induction l with
  | nil => rfl
  | cons x l ih => simp only [ints, List.map_cons, noRefs, noRef, Bool.true_and]; exact ih
theorem head_ints {l : List Int} {i : Nat} {x : Int} (h : l[i]? = some x) : ((ints l).drop i).head? = some (.int .i64 x) := by
  rw [List.head?_drop]; simp [ints, h]
theorem get_ex {α : Type} {l : List α} {i : Nat} (h : i < l.length) : ∃ x, l[i]? = some x := ⟨l[i], List.getElem?_eq_getElem h⟩
theorem mem_at {α : Type} {l : List α} {x : α} (h : x ∈ l) : ∃ j, l[j]? = some x ∧ j < l.length := by
  obtain ⟨j, hj⟩ := List.mem_iff_getElem?.1 h
  exact ⟨j, hj, (List.getElem?_eq_some_iff.1 hj).1⟩

theorem noRefs_append {a b : List AV} : noRefs (a ++ b) = (noRefs a && noRefs b) := by
  induction a with
  | nil => simp [noRefs]
  | cons x a ih => simp [noRefs, ih, Bool.and_assoc]
theorem noRefs_flat {α : Type} {f : α → List AV} {l : List α} (h : ∀ x, noRefs (f x) = true) : noRefs (l.flatMap f) = true := by
  induction l with
  | nil => rfl
  | cons x l ih => simp [List.flatMap_cons, noRefs_append, h, ih]
theorem noRefs_map {α : Type} {f : α → AV} {l : List α} (h : ∀ x, noRef (f x) = true) : noRefs (l.map f) = true := by
  induction l with
  | nil => rfl
  | cons x l ih => simp [noRefs, h, ih]
theorem drop_flat {α : Type} {f : α → List AV} {k : Nat} (hf : ∀ x, (f x).length = k) : ∀ {l : List α} {i : Nat} {x : α}, l[i]? = some x → (l.flatMap f).drop (i * k) = f x ++ (l.drop (i + 1)).flatMap f
  | [], i, x, h => by simp at h
  | a :: l, 0, x, h => by simp at h; subst h; simp
  | a :: l, i + 1, x, h => by
    simp at h
    have := drop_flat hf h
    simp only [List.flatMap_cons, List.drop_succ_cons]
    rw [← this, show (i + 1) * k = (f a).length + i * k by rw [hf, Nat.succ_mul, Nat.add_comm], List.drop_append, List.drop_eq_nil_of_le (by omega), Nat.add_sub_cancel_left, List.nil_append]

/-- A list of lists of ints. -/
abbrev lsts (ls : List (List Int)) : AV := .fsl (ls.map sli) ls.length 1
theorem head_lsts {ls : List (List Int)} {i : Nat} {x : List Int} (h : ls[i]? = some x) : ((ls.map sli).drop i).head? = some (sli x) := by
  rw [List.head?_drop]; simp [h]
theorem noRef_sli (l : List Int) : noRef (sli l) = true := by simp only [noRef]; exact noRefs_ints l
theorem noRefs_lsts (ls : List (List Int)) : noRefs (ls.map sli) = true := noRefs_map noRef_sli

/-- Arcs: place and weight. -/
def arcC (a : Int × Int) : List AV := [.int .i64 a.1, .int .i64 a.2]
abbrev arcs (l : List (Int × Int)) : AV := .fsl (l.flatMap arcC) l.length 2
theorem noRef_arcs (l : List (Int × Int)) : noRef (arcs l) = true := by simp only [noRef]; exact noRefs_flat fun x => rfl
theorem drop_arcs {l : List (Int × Int)} {i : Nat} {a : Int × Int} (h : l[i]? = some a) : (l.flatMap arcC).drop (i * 2) = .int .i64 a.1 :: .int .i64 a.2 :: (l.drop (i + 1)).flatMap arcC := drop_flat (f := arcC) (k := 2) (fun _ => rfl) h
structure Tn where
  ev : Int
  inn : List (Int × Int)
  out : List (Int × Int)
def tnC (t : Tn) : List AV := [.int .i64 t.ev, arcs t.inn, arcs t.out]
abbrev tns (l : List Tn) : AV := .fsl (l.flatMap tnC) l.length 3
theorem noRef_tns (l : List Tn) : noRef (tns l) = true := by
  simp only [noRef]; exact noRefs_flat fun t => by simp only [tnC, noRefs, noRef_arcs, Bool.and_true]; rfl
theorem drop_tns {l : List Tn} {i : Nat} {t : Tn} (h : l[i]? = some t) : (l.flatMap tnC).drop (i * 3) = .int .i64 t.ev :: arcs t.inn :: arcs t.out :: (l.drop (i + 1)).flatMap tnC := drop_flat (f := tnC) (k := 3) (fun _ => rfl) h
structure Nt where
  ini : List Int
  tr : List Tn
abbrev netV (x : Nt) : AV := .agg [sli x.ini, tns x.tr]
theorem noRef_net (x : Nt) : noRef (netV x) = true := by rw [netV, noRef, noRefs, noRefs, noRef_sli, noRef_tns]; rfl

/-! ### zero, same, sameLists -/
theorem zero (l : List Int) (hl : l.length ≤ 1099511627776) : PSpec Try.prog 20 [sli l] (.bool (l.all (· == 0))) := by
  refine PSpec.of_flat 64 ok20 rfl (by simp [noRefs, noRef, noRefs_ints]) rfl ?_
  simp (config := { maxSteps := 1000000 }) (disch := omega) only [s20, words, Nat.reduceAdd, Nat.reduceEqDiff, Nat.reduceBEq, ↓reduceIte, reduceCtorEq, SX.exit.injEq, if_true, if_false, Int.reduceAdd, Int.reduceSub, Int.reduceMul, Int.reduceLT, Int.reduceLE, Int.reduceEq, Int.reduceNe, Int.reduceNeg, Int.reduceToNat, Nat.reduceMul, Nat.reduceLT, Nat.reduceSub, Nat.reduceLeDiff]
  refine wS_loop (fun i : Nat => [(0, sli l), (3, .int .i64 i)]) (fun i h _ => h = .e ∧ i ≤ l.length ∧ ∀ j y, j < i → l[j]? = some y → y = 0) (fun i => l.length - i) 0 (by repeat (first | exact Sub.nil | refine Sub.cons (by first | rfl | (rw [Int.natCast_add]; rfl)) ?_)) ⟨rfl, Nat.zero_le _, fun j y hj => absurd hj (Nat.not_lt_zero _)⟩ ?_
  rintro i h n ⟨rfl, hi, hb⟩
  by_cases hlt : i < l.length
  · obtain ⟨x, hx⟩ := get_ex hlt
    have hlt' : (i : Int) < (l.length : Int) := by omega
    by_cases h0 : x = 0
    · simp (config := { maxSteps := 1000000 }) (disch := omega) only [hlt', head_ints hx, h0, words, Nat.reduceAdd, Nat.reduceEqDiff, Nat.reduceBEq, ↓reduceIte, reduceCtorEq, SX.exit.injEq, if_true, if_false, Int.reduceAdd, Int.reduceSub, Int.reduceMul, Int.reduceLT, Int.reduceLE, Int.reduceEq, Int.reduceNe, Int.reduceNeg, Int.reduceToNat, Nat.reduceMul, Nat.reduceLT, Nat.reduceSub, Nat.reduceLeDiff]
      refine ⟨i + 1, by omega, by repeat (first | exact Sub.nil | refine Sub.cons (by first | rfl | (rw [Int.natCast_add]; rfl)) ?_), by omega, fun j y hj hy => ?_⟩
      by_cases e : j = i
      · subst e; rw [hx] at hy; cases hy; exact h0
      · exact hb j y (by omega) hy
    · simp (config := { maxSteps := 1000000 }) (disch := omega) only [hlt', head_ints hx, h0, words, Nat.reduceAdd, Nat.reduceEqDiff, Nat.reduceBEq, ↓reduceIte, reduceCtorEq, SX.exit.injEq, if_true, if_false, Int.reduceAdd, Int.reduceSub, Int.reduceMul, Int.reduceLT, Int.reduceLE, Int.reduceEq, Int.reduceNe, Int.reduceNeg, Int.reduceToNat, Nat.reduceMul, Nat.reduceLT, Nat.reduceSub, Nat.reduceLeDiff]
      refine ⟨by simp, _, rfl, ?_⟩
      have : l.all (· == 0) = false := by
        rw [List.all_eq_false]; exact ⟨x, List.mem_of_getElem? hx, by simp [h0]⟩
      simp [resOf, lk_cons, this]
  · have hlt' : ¬ (i : Int) < (l.length : Int) := by omega
    simp (config := { maxSteps := 1000000 }) (disch := omega) only [hlt', words, Nat.reduceAdd, Nat.reduceEqDiff, Nat.reduceBEq, ↓reduceIte, reduceCtorEq, SX.exit.injEq, if_true, if_false, Int.reduceAdd, Int.reduceSub, Int.reduceMul, Int.reduceLT, Int.reduceLE, Int.reduceEq, Int.reduceNe, Int.reduceNeg, Int.reduceToNat, Nat.reduceMul, Nat.reduceLT, Nat.reduceSub, Nat.reduceLeDiff]
    refine ⟨by simp, _, rfl, ?_⟩
    have : l.all (· == 0) = true := by
      rw [List.all_eq_true]
      intro x hx
      obtain ⟨j, hj, hjl⟩ := mem_at hx
      simp [hb j x (by omega) hj]
    simp [resOf, lk_cons, this]

theorem same (a b : List Int) (hl : a.length ≤ 1099511627776) : PSpec Try.prog 29 [sli a, sli b] (.bool (decide (a = b))) := by
  refine PSpec.of_flat 64 ok29 rfl (by simp [noRefs, noRef, noRefs_ints]) rfl ?_
  by_cases hab : a.length = b.length
  · have hab' : (a.length : Int) = (b.length : Int) := by omega
    simp (config := { maxSteps := 1000000 }) (disch := omega) only [s29, hab', words, Nat.reduceAdd, Nat.reduceEqDiff, Nat.reduceBEq, ↓reduceIte, reduceCtorEq, SX.exit.injEq, if_true, if_false, Int.reduceAdd, Int.reduceSub, Int.reduceMul, Int.reduceLT, Int.reduceLE, Int.reduceEq, Int.reduceNe, Int.reduceNeg, Int.reduceToNat, Nat.reduceMul, Nat.reduceLT, Nat.reduceSub, Nat.reduceLeDiff]
    refine wS_loop (fun i : Nat => [(0, sli a), (1, sli b), (5, .int .i64 i)]) (fun i h _ => h = .e ∧ i ≤ a.length ∧ ∀ j, j < i → a[j]? = b[j]?) (fun i => a.length - i) 0 (by repeat (first | exact Sub.nil | refine Sub.cons (by first | rfl | (rw [Int.natCast_add]; rfl)) ?_)) ⟨rfl, Nat.zero_le _, fun j hj => absurd hj (Nat.not_lt_zero _)⟩ ?_
    rintro i h n ⟨rfl, hi, hb⟩
    by_cases hlt : i < a.length
    · obtain ⟨x, hx⟩ := get_ex hlt
      obtain ⟨y, hy⟩ := get_ex (l := b) (i := i) (by omega)
      have hlt' : (i : Int) < (a.length : Int) := by omega
      have hlt2 : (i : Int) < (b.length : Int) := by omega
      by_cases h0 : x = y
      · simp (config := { maxSteps := 1000000 }) (disch := omega) only [hlt', hlt2, hab, head_ints hx, head_ints hy, h0, words, Nat.reduceAdd, Nat.reduceEqDiff, Nat.reduceBEq, ↓reduceIte, reduceCtorEq, SX.exit.injEq, if_true, if_false, Int.reduceAdd, Int.reduceSub, Int.reduceMul, Int.reduceLT, Int.reduceLE, Int.reduceEq, Int.reduceNe, Int.reduceNeg, Int.reduceToNat, Nat.reduceMul, Nat.reduceLT, Nat.reduceSub, Nat.reduceLeDiff]
        refine ⟨i + 1, by omega, by repeat (first | exact Sub.nil | refine Sub.cons (by first | rfl | (rw [Int.natCast_add]; rfl)) ?_), by omega, fun j hj => ?_⟩
        by_cases e : j = i
        · subst e; rw [hx, hy, h0]
        · exact hb j (by omega)
      · simp (config := { maxSteps := 1000000 }) (disch := omega) only [hlt', hlt2, hab, head_ints hx, head_ints hy, h0, words, Nat.reduceAdd, Nat.reduceEqDiff, Nat.reduceBEq, ↓reduceIte, reduceCtorEq, SX.exit.injEq, if_true, if_false, Int.reduceAdd, Int.reduceSub, Int.reduceMul, Int.reduceLT, Int.reduceLE, Int.reduceEq, Int.reduceNe, Int.reduceNeg, Int.reduceToNat, Nat.reduceMul, Nat.reduceLT, Nat.reduceSub, Nat.reduceLeDiff]
        refine ⟨by simp, _, rfl, ?_⟩
        have : a ≠ b := fun e => by subst e; rw [hx] at hy; cases hy; exact h0 rfl
        simp [resOf, lk_cons, this]
    · have hlt' : ¬ (i : Int) < (a.length : Int) := by omega
      have : a = b := List.ext_getElem? fun j => by
        by_cases hj : j < i
        · exact hb j hj
        · rw [List.getElem?_eq_none (by omega), List.getElem?_eq_none (by omega)]
      simp (config := { maxSteps := 1000000 }) (disch := omega) only [hlt', words, Nat.reduceAdd, Nat.reduceEqDiff, Nat.reduceBEq, ↓reduceIte, reduceCtorEq, SX.exit.injEq, if_true, if_false, Int.reduceAdd, Int.reduceSub, Int.reduceMul, Int.reduceLT, Int.reduceLE, Int.reduceEq, Int.reduceNe, Int.reduceNeg, Int.reduceToNat, Nat.reduceMul, Nat.reduceLT, Nat.reduceSub, Nat.reduceLeDiff]
      exact ⟨by simp, _, rfl, by simp [resOf, lk_cons, this]⟩
  · have hab' : ¬ (a.length : Int) = (b.length : Int) := by omega
    simp (config := { maxSteps := 1000000 }) (disch := omega) only [s29, hab', words, Nat.reduceAdd, Nat.reduceEqDiff, Nat.reduceBEq, ↓reduceIte, reduceCtorEq, SX.exit.injEq, if_true, if_false, Int.reduceAdd, Int.reduceSub, Int.reduceMul, Int.reduceLT, Int.reduceLE, Int.reduceEq, Int.reduceNe, Int.reduceNeg, Int.reduceToNat, Nat.reduceMul, Nat.reduceLT, Nat.reduceSub, Nat.reduceLeDiff]
    have : a ≠ b := fun e => hab (by rw [e])
    exact ⟨by simp, _, rfl, by simp [resOf, lk_cons, this]⟩
end Go.AM.SN
