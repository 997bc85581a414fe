/- A part of the proof of InvariantCombines: lemmas on the way (AmMh, AmMj, AmMk, AmMl, AmMm, AmPa, AmPb, AmTc, AmTd, AmTe, AmPh, AmPo, AmPf, AmPw). Conditions: none of ours. -/
import Derived.Test.YteaeobmbfhaklaaProg
import Derived.KernelRfl
import Derived.Test.YteaeobmbfhaklaaAmZ8
namespace Go.AM.SN
open Go.Proofs Go.AM.SK
set_option maxRecDepth 100000
set_option linter.unusedSimpArgs false
set_option linter.unusedVariables false
abbrev Flow := Nat × (Nat → Int)
def flowC (F : List Flow) : List AV := F.flatMap fun f => .int .u16 f.1 :: rowF 10 f.2
def supOf (set : List Nat) : Nat := set.foldl (fun a c => a ||| 1 <<< c) 0
def scat (set : List Nat) (l : List Int) : Nat → Int := (set.zip l).foldl (fun f p => fun c => if c = p.1 then p.2 else f c) fun _ => 0
def visitR (R : List (List Int)) (F : List Flow) (set : List Nat) : List Flow :=
  if (F.any fun f => decide (f.1 &&& supOf set = f.1)) = true then F else
  match kerR R set with
  | none => F
  | some l => if (l.any fun x => decide (x < 0)) = true then F else F ++ [(supOf set, scat set l)]
theorem noRefs_flowC (F : List Flow) : noRefs (flowC F) = true := by
  induction F with
  | nil => rfl
  | cons f F ih =>
    unfold flowC at ih ⊢
    rw [List.flatMap_cons, noRefs_append, ih]
    simp only [noRefs, noRef, noRefs_rowF]; rfl
theorem flowC_len (F : List Flow) : (flowC F).length = F.length * 11 := by
  induction F with
  | nil => rfl
  | cons f F ih =>
    unfold flowC at ih ⊢
    rw [List.flatMap_cons, List.length_append, ih, List.length_cons, rowF_len, List.length_cons]; omega
theorem supOf_take {set : List Nat} {i c : Nat} (h : set[i]? = some c) : supOf (set.take (i + 1)) = supOf (set.take i) ||| 1 <<< c := by
  unfold supOf
  rw [List.take_add_one, List.foldl_append, h]; rfl
theorem supOf_lt {set : List Nat} (h : ∀ c ∈ set, c < 16) : supOf set < 65536 := by
  unfold supOf
  have : ∀ (l : List Nat) (a : Nat), (∀ c ∈ l, c < 16) → a < 65536 → l.foldl (fun a c => a ||| 1 <<< c) a < 65536 := by
    intro l
    induction l with
    | nil => intro a _ ha; exact ha
    | cons c l ih =>
      intro a hl ha
      rw [List.foldl_cons]
      have := shl_lt (hl c (by simp))
      exact ih _ (fun c hc => hl c (by simp [hc])) (Nat.or_lt_two_pow (n := 16) ha this)
  exact this set 0 h (by decide)
theorem neg63 (x : Int) : PSpec Try.prog 63 [.int .i64 x] (.bool (decide (x < 0))) := by
  refine PSpec.of_flat 64 SK.ok63 rfl rfl rfl ?_
  simp (maxSteps := 1000000) (disch := first | omega | (simp only [lenW] <;> omega)) only [SK.s63, wordsN, Int.reduceGT, wordsR, ne_eq, words, Nat.reduceAdd, Nat.reduceEqDiff, Nat.reduceBEq, ↓reduceIte, reduceCtorEq, SX.exit.injEq, if_true, if_false, Int.reduceAdd, Int.reduceSub, Int.reduceMul, Int.reduceLT, Int.reduceLE, Int.reduceEq, Int.reduceNe, Int.reduceNeg, Int.reduceToNat, Nat.reduceMul, Nat.reduceLT, Nat.reduceSub, Nat.reduceLeDiff]
  exact ⟨.inr trivial, _, rfl, rfl⟩
theorem index75 (l : List Int) (hl : l.length ≤ 1000) : PSpec Try.prog 75 [sli l, .fn 63 [] []] (.int .i64 (firstAt (fun x => decide (x < 0)) l)) := by
  refine PSpec.of_flat 64 SK.ok75 rfl (by simp [noRefs, noRef, noRefs_ints]) rfl ?_
  simp (maxSteps := 1000000) (disch := first | omega | (simp only [lenW] <;> omega)) only [SK.s75, wordsN, Int.reduceGT, wordsR, ne_eq, words, Nat.reduceAdd, Nat.reduceEqDiff, Nat.reduceBEq, ↓reduceIte, reduceCtorEq, SX.exit.injEq, if_true, if_false, Int.reduceAdd, Int.reduceSub, Int.reduceMul, Int.reduceLT, Int.reduceLE, Int.reduceEq, Int.reduceNe, Int.reduceNeg, Int.reduceToNat, Nat.reduceMul, Nat.reduceLT, Nat.reduceSub, Nat.reduceLeDiff]
  refine wS_loopR 100 (fun i : Nat => [(0, sli l), (1, .fn 63 [] []), (7, .int .i64 l.length), (8, .int .i64 i)]) (fun _ => []) (fun i => i ≤ l.length ∧ ∀ j y, j < i → l[j]? = some y → (decide (y < 0)) = false) (fun i => l.length - i) 0 ⟨[], rfl, (by repeat (first | exact RO.zero | exact RO.e | refine RO.set rfl ?_)), (by repeat' (first | exact RB.nil | (refine RnL.same ?_; first | rfl | (simp only [noRef, noRefs, noRefs_append, Bool.and_self, Bool.and_true, Bool.true_and, noRefs_flat10, noRefs_ints, noRefs_lsts, noRefs_pad, noRefs_tnC, noRefs_arcC, noRefs_rowF, noRefs_flowC]; done)) | exact RnM.keyM rfl | exact RnL.nil | refine RnL.cons ?_ ?_ | (refine Rn.same ?_; first | rfl | (simp only [noRef, noRefs, noRefs_append, Bool.and_self, Bool.and_true, Bool.true_and, noRefs_flat10, noRefs_ints, noRefs_lsts, noRefs_pad, noRefs_tnC, noRefs_arcC, noRefs_rowF, noRefs_flowC]; done)) | exact Rn.x1 rfl rfl | exact Rn.x2 rfl rfl | exact Rn.x3 rfl rfl | exact Rn.x4 rfl rfl | exact Rn.x5 rfl | exact Rn.x6 rfl | exact Rn.x7 rfl | refine RB.newnil rfl rfl ?_ | refine RB.cells rfl rfl rfl ?_ ?_ | refine RB.map rfl rfl rfl ?_ ?_ | refine RB.cellsB rfl rfl ?_ ?_ | refine RB.mapB rfl rfl ?_ ?_)), (by repeat (first | exact RT.nil | (refine RT.cons ?_ ?_; · (first | exact Rn.any | exact Rn.x1 rfl rfl | exact Rn.x2 rfl rfl | exact Rn.x3 rfl rfl | exact Rn.x4 rfl rfl | exact Rn.x5 rfl | exact Rn.x6 rfl | exact Rn.x7 rfl | (refine Rn.slot ?_ ?_; (first | rfl | (rw [Int.natCast_add]; rfl)); (first | rfl | (simp only [noRef, noRefs, noRefs_append, Bool.and_self, Bool.and_true, Bool.true_and, noRefs_flat10, noRefs_ints, noRefs_lsts, noRefs_pad, noRefs_tnC, noRefs_arcC, noRefs_rowF, noRefs_flowC]; done))) | (refine Rn.fn ?_ ?_ <;> (repeat' (first | exact RnL.nil | refine RnL.cons ?_ ?_ | exact Rn.same rfl | exact Rn.x6 rfl | exact Rn.x2 rfl rfl | exact Rn.x5 rfl | exact Rn.x1 rfl rfl)))))))⟩ ⟨Nat.zero_le _, fun j y hj => absurd hj (Nat.not_lt_zero _)⟩ ?_
  rintro i ⟨hi, hb⟩
  by_cases hlt : i < l.length
  · obtain ⟨x, hx⟩ := get_ex hlt
    simp (maxSteps := 1000000) (disch := first | omega | (simp only [lenW] <;> omega)) only [hlt, head_ints hx, wordsN, Int.reduceGT, wordsR, ne_eq, words, Nat.reduceAdd, Nat.reduceEqDiff, Nat.reduceBEq, ↓reduceIte, reduceCtorEq, SX.exit.injEq, if_true, if_false, Int.reduceAdd, Int.reduceSub, Int.reduceMul, Int.reduceLT, Int.reduceLE, Int.reduceEq, Int.reduceNe, Int.reduceNeg, Int.reduceToNat, Nat.reduceMul, Nat.reduceLT, Nat.reduceSub, Nat.reduceLeDiff]
    refine cp (neg63 x) ?_
    cases hp : decide (x < 0) with
    | true =>
      simp (maxSteps := 1000000) (disch := first | omega | (simp only [lenW] <;> omega)) only [wordsN, Int.reduceGT, wordsR, ne_eq, words, Nat.reduceAdd, Nat.reduceEqDiff, Nat.reduceBEq, ↓reduceIte, reduceCtorEq, SX.exit.injEq, if_true, if_false, Int.reduceAdd, Int.reduceSub, Int.reduceMul, Int.reduceLT, Int.reduceLE, Int.reduceEq, Int.reduceNe, Int.reduceNeg, Int.reduceToNat, Nat.reduceMul, Nat.reduceLT, Nat.reduceSub, Nat.reduceLeDiff]
      exact ⟨.inr trivial, _, rfl, by rw [firstAt_found (p := fun x => decide (x < 0)) hx hp hb]; rfl⟩
    | false =>
      simp (maxSteps := 1000000) (disch := first | omega | (simp only [lenW] <;> omega)) only [wordsN, Int.reduceGT, wordsR, ne_eq, words, Nat.reduceAdd, Nat.reduceEqDiff, Nat.reduceBEq, ↓reduceIte, reduceCtorEq, SX.exit.injEq, if_true, if_false, Int.reduceAdd, Int.reduceSub, Int.reduceMul, Int.reduceLT, Int.reduceLE, Int.reduceEq, Int.reduceNe, Int.reduceNeg, Int.reduceToNat, Nat.reduceMul, Nat.reduceLT, Nat.reduceSub, Nat.reduceLeDiff]
      refine ⟨i + 1, by omega, ⟨by omega, fun j y hj hy => ?_⟩, ⟨[], rfl, (by repeat (first | exact RO.zero | exact RO.e | refine RO.set rfl ?_)), (by repeat' (first | exact RB.nil | (refine RnL.same ?_; first | rfl | (simp only [noRef, noRefs, noRefs_append, Bool.and_self, Bool.and_true, Bool.true_and, noRefs_flat10, noRefs_ints, noRefs_lsts, noRefs_pad, noRefs_tnC, noRefs_arcC, noRefs_rowF, noRefs_flowC]; done)) | exact RnM.keyM rfl | exact RnL.nil | refine RnL.cons ?_ ?_ | (refine Rn.same ?_; first | rfl | (simp only [noRef, noRefs, noRefs_append, Bool.and_self, Bool.and_true, Bool.true_and, noRefs_flat10, noRefs_ints, noRefs_lsts, noRefs_pad, noRefs_tnC, noRefs_arcC, noRefs_rowF, noRefs_flowC]; done)) | exact Rn.x1 rfl rfl | exact Rn.x2 rfl rfl | exact Rn.x3 rfl rfl | exact Rn.x4 rfl rfl | exact Rn.x5 rfl | exact Rn.x6 rfl | exact Rn.x7 rfl | refine RB.newnil rfl rfl ?_ | refine RB.cells rfl rfl rfl ?_ ?_ | refine RB.map rfl rfl rfl ?_ ?_ | refine RB.cellsB rfl rfl ?_ ?_ | refine RB.mapB rfl rfl ?_ ?_)), (by repeat (first | exact RT.nil | (refine RT.cons ?_ ?_; · (first | exact Rn.any | exact Rn.x1 rfl rfl | exact Rn.x2 rfl rfl | exact Rn.x3 rfl rfl | exact Rn.x4 rfl rfl | exact Rn.x5 rfl | exact Rn.x6 rfl | exact Rn.x7 rfl | (refine Rn.slot ?_ ?_; (first | rfl | (rw [Int.natCast_add]; rfl)); (first | rfl | (simp only [noRef, noRefs, noRefs_append, Bool.and_self, Bool.and_true, Bool.true_and, noRefs_flat10, noRefs_ints, noRefs_lsts, noRefs_pad, noRefs_tnC, noRefs_arcC, noRefs_rowF, noRefs_flowC]; done))) | (refine Rn.fn ?_ ?_ <;> (repeat' (first | exact RnL.nil | refine RnL.cons ?_ ?_ | exact Rn.same rfl | exact Rn.x6 rfl | exact Rn.x2 rfl rfl | exact Rn.x5 rfl | exact Rn.x1 rfl rfl)))))))⟩⟩
      by_cases e : j = i
      · subst e; rw [hx] at hy; cases hy; exact of_decide_eq_false hp
      · exact of_decide_eq_false (hb j y (by omega) hy)
  · simp (maxSteps := 1000000) (disch := first | omega | (simp only [lenW] <;> omega)) only [hlt, wordsN, Int.reduceGT, wordsR, ne_eq, words, Nat.reduceAdd, Nat.reduceEqDiff, Nat.reduceBEq, ↓reduceIte, reduceCtorEq, SX.exit.injEq, if_true, if_false, Int.reduceAdd, Int.reduceSub, Int.reduceMul, Int.reduceLT, Int.reduceLE, Int.reduceEq, Int.reduceNe, Int.reduceNeg, Int.reduceToNat, Nat.reduceMul, Nat.reduceLT, Nat.reduceSub, Nat.reduceLeDiff]
    exact ⟨.inr trivial, _, rfl, by rw [firstAt_none fun j y hy => hb j y (by have := (List.getElem?_eq_some_iff.1 hy).1; omega) hy]; rfl⟩
theorem contains62 (l : List Int) (hl : l.length ≤ 1000) : PSpec Try.prog 62 [sli l, .fn 63 [] []] (.bool (l.any fun x => decide (x < 0))) := by
  refine PSpec.of_flat 64 SK.ok62 rfl (by simp [noRefs, noRef, noRefs_ints]) rfl ?_
  simp (maxSteps := 1000000) (disch := first | omega | (simp only [lenW] <;> omega)) only [SK.s62, wordsN, Int.reduceGT, wordsR, ne_eq, words, Nat.reduceAdd, Nat.reduceEqDiff, Nat.reduceBEq, ↓reduceIte, reduceCtorEq, SX.exit.injEq, if_true, if_false, Int.reduceAdd, Int.reduceSub, Int.reduceMul, Int.reduceLT, Int.reduceLE, Int.reduceEq, Int.reduceNe, Int.reduceNeg, Int.reduceToNat, Nat.reduceMul, Nat.reduceLT, Nat.reduceSub, Nat.reduceLeDiff]
  refine cp (index75 l hl) ?_
  simp (maxSteps := 1000000) (disch := first | omega | (simp only [lenW] <;> omega)) only [firstAt_ge, wordsN, Int.reduceGT, wordsR, ne_eq, words, Nat.reduceAdd, Nat.reduceEqDiff, Nat.reduceBEq, ↓reduceIte, reduceCtorEq, SX.exit.injEq, if_true, if_false, Int.reduceAdd, Int.reduceSub, Int.reduceMul, Int.reduceLT, Int.reduceLE, Int.reduceEq, Int.reduceNe, Int.reduceNeg, Int.reduceToNat, Nat.reduceMul, Nat.reduceLT, Nat.reduceSub, Nat.reduceLeDiff]
  exact ⟨.inr trivial, _, rfl, rfl⟩
theorem ker_len {R : List (List Int)} {cols : List Nat} {l : List Int} (h : kerR R cols = some l) : l.length = cols.length := by
  unfold kerR at h
  cases hs : krun R cols cols.length with
  | none => rw [hs] at h; cases h
  | some s =>
    rw [hs] at h
    have h : kfin cols.length s = some l := h
    unfold kfin at h
    split at h
    · cases h
    · split at h
      · cases h
      · cases h; simp
def vH (K : Nat) (R : List (List Int)) (F : List Flow) (g : Nat) : HL :=
  [(20, .cells 0 [.sl 23 g 0 F.length 11]), (21, .cells 0 [.map 22 0]), (22, .map 0 (keyM .u16 (.bool true) (F.map (·.1)))), (23, .cells g (flowC F)), (24, .cells 0 [.int .i64 K, .fsl (R.flatMap pad) R.length 10])]
def vS (K : Nat) (R : List (List Int)) (F : List Flow) (g : Nat) (set : List Nat) : HL :=
  [(20, .cells 0 [.sl 23 g 0 F.length 11]), (21, .cells 0 [.map 22 0]), (22, .map 0 (keyM .u16 (.bool true) (F.map (·.1)))), (23, .cells g (flowC F)), (24, .cells 0 [.int .i64 K, .fsl (R.flatMap pad) R.length 10]), (150, .cells 0 (ints (colI set)))]
def vW (K : Nat) (R : List (List Int)) (F : List Flow) (g : Nat) (set : List Nat) (f : Nat → Int) : HL :=
  [(20, .cells 0 [.sl 23 g 0 F.length 11]), (21, .cells 0 [.map 22 0]), (22, .map 0 (keyM .u16 (.bool true) (F.map (·.1)))), (23, .cells g (flowC F)), (24, .cells 0 [.int .i64 K, .fsl (R.flatMap pad) R.length 10]), (150, .cells 0 (ints (colI set))), (210, .cells 0 (.int .u16 (supOf set : Nat) :: rowF 10 f))]
theorem scat_take {set : List Nat} {l : List Int} {i c : Nat} {x : Int} (h : set[i]? = some c) (hx : l[i]? = some x) : scat (set.take (i + 1)) (l.take (i + 1)) = fun j => if j = c then x else scat (set.take i) (l.take i) j := by
  unfold scat
  have e : ∀ n, (set.take n).zip (l.take n) = (set.zip l).take n := fun n => by rw [List.zip_eq_zipWith, List.zip_eq_zipWith, List.take_zipWith]
  have hz : (set.zip l)[i]? = some (c, x) := by rw [List.zip_eq_zipWith, List.getElem?_zipWith, h, hx]
  rw [e, e, List.take_add_one, List.foldl_append, hz]
  rfl
set_option maxHeartbeats 8000000 in
theorem visit (K : Nat) (R : List (List Int)) (F : List Flow) (g : Nat) (set : List Nat) (hK : K ≤ 10) (hR : R.length ≤ 100) (hRk : ∀ r ∈ R, r.length = K) (hc : ∀ c ∈ set, c < K) (hn : set.length ≤ 10) (hb : KBd R set)
    (hF : F.length ≤ 1000) (hFs : ∀ f ∈ F, f.1 < 65536) :
    HSpec Try.prog 60 [.sl 150 0 0 set.length 1, .ptr 21 0 0, .ptr 24 0 0, .ptr 20 0 0] (hp (vS K R F g set)) (.tup [])
      (hp (vS K R (visitR R F set) (g + ((visitR R F set).length - F.length)) set)) := by
  refine HSpec.of_rec (m := 200) 300 SM.ok60 rfl rfl rfl ?_
  generalize hL : vS K R (visitR R F set) (g + ((visitR R F set).length - F.length)) set = L1
  have hcil := colI_len set
  have hc16 : ∀ c ∈ set, c < 16 := fun c h => by have := hc c h; omega
  have hs16 : ∀ i, supOf (set.take i) < 65536 := fun i => supOf_lt fun c h => hc16 c (List.mem_of_mem_take h)
  simp (maxSteps := 1000000) (disch := first | omega | (simp only [lenW] <;> omega)) only [SM.s60, vS, wordsN, Int.reduceGT, wordsR, ne_eq, words, Nat.reduceAdd, Nat.reduceEqDiff, Nat.reduceBEq, ↓reduceIte, reduceCtorEq, SX.exit.injEq, if_true, if_false, Int.reduceAdd, Int.reduceSub, Int.reduceMul, Int.reduceLT, Int.reduceLE, Int.reduceEq, Int.reduceNe, Int.reduceNeg, Int.reduceToNat, Nat.reduceMul, Nat.reduceLT, Nat.reduceSub, Nat.reduceLeDiff]
  refine wS_loopX 400 (fun i : Nat => [(0, .sl 150 0 0 set.length 1), (1, .ptr 21 0 0), (2, .ptr 24 0 0), (3, .ptr 20 0 0), (5, .int .u16 (supOf (set.take i) : Nat)), (14, .sl 150 0 0 set.length 1), (15, .int .i64 set.length), (16, .int .i64 i)])
    (fun _ => vS K R F g set) (fun i => i ≤ set.length) (fun i => set.length - i) 0 0 500
    (fun _ : Unit => [(0, .sl 150 0 0 set.length 1), (1, .ptr 21 0 0), (2, .ptr 24 0 0), (3, .ptr 20 0 0), (5, .int .u16 (supOf set : Nat))]) (fun _ => vS K R F g set) (fun _ => True) ⟨[(20, .blk 20 0), (21, .blk 21 0), (22, .blk 22 0), (23, .blk 23 0), (24, .blk 24 0), (150, .blk 150 0)], rfl, (by repeat (first | exact RO.zero | exact RO.e | refine RO.set rfl ?_)), (by repeat' (first | exact RB.nil | (refine RnL.same ?_; first | rfl | (simp only [noRef, noRefs, noRefs_append, Bool.and_self, Bool.and_true, Bool.true_and, noRefs_flat10, noRefs_ints, noRefs_lsts, noRefs_pad, noRefs_tnC, noRefs_arcC, noRefs_rowF, noRefs_flowC]; done)) | exact RnM.keyM rfl | exact RnL.nil | refine RnL.cons ?_ ?_ | (refine Rn.same ?_; first | rfl | (simp only [noRef, noRefs, noRefs_append, Bool.and_self, Bool.and_true, Bool.true_and, noRefs_flat10, noRefs_ints, noRefs_lsts, noRefs_pad, noRefs_tnC, noRefs_arcC, noRefs_rowF, noRefs_flowC]; done)) | exact Rn.x1 rfl rfl | exact Rn.x2 rfl rfl | exact Rn.x3 rfl rfl | exact Rn.x4 rfl rfl | exact Rn.x5 rfl | exact Rn.x6 rfl | exact Rn.x7 rfl | refine RB.newnil rfl rfl ?_ | refine RB.cells rfl rfl rfl ?_ ?_ | refine RB.map rfl rfl rfl ?_ ?_ | refine RB.cellsB rfl rfl ?_ ?_ | refine RB.mapB rfl rfl ?_ ?_)), (by repeat (first | exact RT.nil | (refine RT.cons ?_ ?_; · (first | exact Rn.any | exact Rn.x1 rfl rfl | exact Rn.x2 rfl rfl | exact Rn.x3 rfl rfl | exact Rn.x4 rfl rfl | exact Rn.x5 rfl | exact Rn.x6 rfl | exact Rn.x7 rfl | (refine Rn.slot ?_ ?_; (first | rfl | (rw [Int.natCast_add]; rfl)); (first | rfl | (simp only [noRef, noRefs, noRefs_append, Bool.and_self, Bool.and_true, Bool.true_and, noRefs_flat10, noRefs_ints, noRefs_lsts, noRefs_pad, noRefs_tnC, noRefs_arcC, noRefs_rowF, noRefs_flowC]; done))) | (refine Rn.fn ?_ ?_ <;> (repeat' (first | exact RnL.nil | refine RnL.cons ?_ ?_ | exact Rn.same rfl | exact Rn.x6 rfl | exact Rn.x2 rfl rfl | exact Rn.x5 rfl | exact Rn.x1 rfl rfl)))))))⟩ (Nat.zero_le _) ?_ ?_
  · intro i hi
    by_cases hlt : i < set.length
    · obtain ⟨c, hcc⟩ := get_ex hlt
      have hcl := hc16 c (List.mem_of_getElem? hcc)
      have hgi : (ints (colI set))[i]? = some (.int .i64 c) := by simp [ints, colI_get hcc]
      simp (maxSteps := 1000000) (disch := first | omega | (simp only [lenW] <;> omega)) only [hlt, hgi, vS, shl16 hcl, or16 (hs16 i) (shl_lt hcl), wordsN, Int.reduceGT, wordsR, ne_eq, words, Nat.reduceAdd, Nat.reduceEqDiff, Nat.reduceBEq, ↓reduceIte, reduceCtorEq, SX.exit.injEq, if_true, if_false, Int.reduceAdd, Int.reduceSub, Int.reduceMul, Int.reduceLT, Int.reduceLE, Int.reduceEq, Int.reduceNe, Int.reduceNeg, Int.reduceToNat, Nat.reduceMul, Nat.reduceLT, Nat.reduceSub, Nat.reduceLeDiff]
      refine ⟨i + 1, by omega, by omega, ?_⟩
      rw [supOf_take hcc]
      exact ⟨[(20, .blk 20 0), (21, .blk 21 0), (22, .blk 22 0), (23, .blk 23 0), (24, .blk 24 0), (150, .blk 150 0)], rfl, (by repeat (first | exact RO.zero | exact RO.e | refine RO.set rfl ?_)), (by repeat' (first | exact RB.nil | (refine RnL.same ?_; first | rfl | (simp only [noRef, noRefs, noRefs_append, Bool.and_self, Bool.and_true, Bool.true_and, noRefs_flat10, noRefs_ints, noRefs_lsts, noRefs_pad, noRefs_tnC, noRefs_arcC, noRefs_rowF, noRefs_flowC]; done)) | exact RnM.keyM rfl | exact RnL.nil | refine RnL.cons ?_ ?_ | (refine Rn.same ?_; first | rfl | (simp only [noRef, noRefs, noRefs_append, Bool.and_self, Bool.and_true, Bool.true_and, noRefs_flat10, noRefs_ints, noRefs_lsts, noRefs_pad, noRefs_tnC, noRefs_arcC, noRefs_rowF, noRefs_flowC]; done)) | exact Rn.x1 rfl rfl | exact Rn.x2 rfl rfl | exact Rn.x3 rfl rfl | exact Rn.x4 rfl rfl | exact Rn.x5 rfl | exact Rn.x6 rfl | exact Rn.x7 rfl | refine RB.newnil rfl rfl ?_ | refine RB.cells rfl rfl rfl ?_ ?_ | refine RB.map rfl rfl rfl ?_ ?_ | refine RB.cellsB rfl rfl ?_ ?_ | refine RB.mapB rfl rfl ?_ ?_)), (by repeat (first | exact RT.nil | (refine RT.cons ?_ ?_; · (first | exact Rn.any | exact Rn.x1 rfl rfl | exact Rn.x2 rfl rfl | exact Rn.x3 rfl rfl | exact Rn.x4 rfl rfl | exact Rn.x5 rfl | exact Rn.x6 rfl | exact Rn.x7 rfl | (refine Rn.slot ?_ ?_; (first | rfl | (rw [Int.natCast_add]; rfl)); (first | rfl | (simp only [noRef, noRefs, noRefs_append, Bool.and_self, Bool.and_true, Bool.true_and, noRefs_flat10, noRefs_ints, noRefs_lsts, noRefs_pad, noRefs_tnC, noRefs_arcC, noRefs_rowF, noRefs_flowC]; done))) | (refine Rn.fn ?_ ?_ <;> (repeat' (first | exact RnL.nil | refine RnL.cons ?_ ?_ | exact Rn.same rfl | exact Rn.x6 rfl | exact Rn.x2 rfl rfl | exact Rn.x5 rfl | exact Rn.x1 rfl rfl)))))))⟩
    · have e : i = set.length := by omega
      subst e
      rw [List.take_length]
      simp (maxSteps := 1000000) (disch := first | omega | (simp only [lenW] <;> omega)) only [hlt, vS, wordsN, Int.reduceGT, wordsR, ne_eq, words, Nat.reduceAdd, Nat.reduceEqDiff, Nat.reduceBEq, ↓reduceIte, reduceCtorEq, SX.exit.injEq, if_true, if_false, Int.reduceAdd, Int.reduceSub, Int.reduceMul, Int.reduceLT, Int.reduceLE, Int.reduceEq, Int.reduceNe, Int.reduceNeg, Int.reduceToNat, Nat.reduceMul, Nat.reduceLT, Nat.reduceSub, Nat.reduceLeDiff]
      exact ⟨(), ⟨[(20, .blk 20 0), (21, .blk 21 0), (22, .blk 22 0), (23, .blk 23 0), (24, .blk 24 0), (150, .blk 150 0)], rfl, (by repeat (first | exact RO.zero | exact RO.e | refine RO.set rfl ?_)), (by repeat' (first | exact RB.nil | (refine RnL.same ?_; first | rfl | (simp only [noRef, noRefs, noRefs_append, Bool.and_self, Bool.and_true, Bool.true_and, noRefs_flat10, noRefs_ints, noRefs_lsts, noRefs_pad, noRefs_tnC, noRefs_arcC, noRefs_rowF, noRefs_flowC]; done)) | exact RnM.keyM rfl | exact RnL.nil | refine RnL.cons ?_ ?_ | (refine Rn.same ?_; first | rfl | (simp only [noRef, noRefs, noRefs_append, Bool.and_self, Bool.and_true, Bool.true_and, noRefs_flat10, noRefs_ints, noRefs_lsts, noRefs_pad, noRefs_tnC, noRefs_arcC, noRefs_rowF, noRefs_flowC]; done)) | exact Rn.x1 rfl rfl | exact Rn.x2 rfl rfl | exact Rn.x3 rfl rfl | exact Rn.x4 rfl rfl | exact Rn.x5 rfl | exact Rn.x6 rfl | exact Rn.x7 rfl | refine RB.newnil rfl rfl ?_ | refine RB.cells rfl rfl rfl ?_ ?_ | refine RB.map rfl rfl rfl ?_ ?_ | refine RB.cellsB rfl rfl ?_ ?_ | refine RB.mapB rfl rfl ?_ ?_)), (by repeat (first | exact RT.nil | (refine RT.cons ?_ ?_; · (first | exact Rn.any | exact Rn.x1 rfl rfl | exact Rn.x2 rfl rfl | exact Rn.x3 rfl rfl | exact Rn.x4 rfl rfl | exact Rn.x5 rfl | exact Rn.x6 rfl | exact Rn.x7 rfl | (refine Rn.slot ?_ ?_; (first | rfl | (rw [Int.natCast_add]; rfl)); (first | rfl | (simp only [noRef, noRefs, noRefs_append, Bool.and_self, Bool.and_true, Bool.true_and, noRefs_flat10, noRefs_ints, noRefs_lsts, noRefs_pad, noRefs_tnC, noRefs_arcC, noRefs_rowF, noRefs_flowC]; done))) | (refine Rn.fn ?_ ?_ <;> (repeat' (first | exact RnL.nil | refine RnL.cons ?_ ?_ | exact Rn.same rfl | exact Rn.x6 rfl | exact Rn.x2 rfl rfl | exact Rn.x5 rfl | exact Rn.x1 rfl rfl)))))))⟩⟩
  rintro _ -
  have hS := hs16 set.length
  rw [List.take_length] at hS
  simp (maxSteps := 1000000) (disch := first | omega | (simp only [lenW] <;> omega)) only [vS, wordsN, Int.reduceGT, wordsR, ne_eq, words, Nat.reduceAdd, Nat.reduceEqDiff, Nat.reduceBEq, ↓reduceIte, reduceCtorEq, SX.exit.injEq, if_true, if_false, Int.reduceAdd, Int.reduceSub, Int.reduceMul, Int.reduceLT, Int.reduceLE, Int.reduceEq, Int.reduceNe, Int.reduceNeg, Int.reduceToNat, Nat.reduceMul, Nat.reduceLT, Nat.reduceSub, Nat.reduceLeDiff]
  refine wS_msearch (b := 21) (g := 0) (off := 0) (cs := [.map 22 0]) (mb := 22) (mg := 0) (es := keyM .u16 (.bool true) (F.map (·.1))) 610 700 600 [(0, .sl 150 0 0 set.length 1), (1, .ptr 21 0 0), (2, .ptr 24 0 0), (3, .ptr 20 0 0), (5, .int .u16 (supOf set : Nat))]
    [(0, .sl 150 0 0 set.length 1), (1, .ptr 21 0 0), (2, .ptr 24 0 0), (3, .ptr 20 0 0), (5, .int .u16 (supOf set : Nat))] (vS K R F g set) (fun k _ => ∀ x : Nat, k = .int .u16 x → ¬ (x &&& supOf set = x))
    rfl rfl rfl rfl rfl (by decide) (by decide) (by repeat (first | exact Sub.nil | refine Sub.cons (by first | rfl | (rw [Int.natCast_add]; rfl)) ?_)) rfl (by decide) rfl ?_ ?_ ?_
  · intro i k v hi
    obtain ⟨x, hx, rfl, rfl⟩ := keyM_get hi
    have hxm := List.mem_of_getElem? hx
    have hx16 : x < 65536 := by
      obtain ⟨f, hf, rfl⟩ := List.mem_map.1 hxm
      exact hFs f hf
    by_cases he : x &&& supOf set = x
    · have hv : visitR R F set = F := by
        obtain ⟨f, hf, rfl⟩ := List.mem_map.1 hxm
        unfold visitR
        rw [if_pos (List.any_eq_true.2 ⟨f, hf, decide_eq_true he⟩)]
      rw [hv, Nat.sub_self] at hL
      simp (maxSteps := 1000000) (disch := first | omega | (simp only [lenW] <;> omega)) only [vS, and16 hx16 hS, msQ_normal, msQ_exit, msQ_ret, he, wordsN, Int.reduceGT, wordsR, ne_eq, words, Nat.reduceAdd, Nat.reduceEqDiff, Nat.reduceBEq, ↓reduceIte, reduceCtorEq, SX.exit.injEq, if_true, if_false, Int.reduceAdd, Int.reduceSub, Int.reduceMul, Int.reduceLT, Int.reduceLE, Int.reduceEq, Int.reduceNe, Int.reduceNeg, Int.reduceToNat, Nat.reduceMul, Nat.reduceLT, Nat.reduceSub, Nat.reduceLeDiff]
      refine ⟨.inr trivial, _, rfl, rfl, ?_⟩
      rw [← hL]
      exact ⟨[(20, .blk 20 0), (21, .blk 21 0), (22, .blk 22 0), (23, .blk 23 0), (24, .blk 24 0), (150, .blk 150 0)], rfl, (by repeat (first | exact RO.zero | exact RO.e | refine RO.set rfl ?_)), (by repeat' (first | exact RB.nil | (refine RnL.same ?_; first | rfl | (simp only [noRef, noRefs, noRefs_append, Bool.and_self, Bool.and_true, Bool.true_and, noRefs_flat10, noRefs_ints, noRefs_lsts, noRefs_pad, noRefs_tnC, noRefs_arcC, noRefs_rowF, noRefs_flowC]; done)) | exact RnM.keyM rfl | exact RnL.nil | refine RnL.cons ?_ ?_ | (refine Rn.same ?_; first | rfl | (simp only [noRef, noRefs, noRefs_append, Bool.and_self, Bool.and_true, Bool.true_and, noRefs_flat10, noRefs_ints, noRefs_lsts, noRefs_pad, noRefs_tnC, noRefs_arcC, noRefs_rowF, noRefs_flowC]; done)) | exact Rn.x1 rfl rfl | exact Rn.x2 rfl rfl | exact Rn.x3 rfl rfl | exact Rn.x4 rfl rfl | exact Rn.x5 rfl | exact Rn.x6 rfl | exact Rn.x7 rfl | refine RB.newnil rfl rfl ?_ | refine RB.cells rfl rfl rfl ?_ ?_ | refine RB.map rfl rfl rfl ?_ ?_ | refine RB.cellsB rfl rfl ?_ ?_ | refine RB.mapB rfl rfl ?_ ?_)), (by repeat (first | exact RT.nil | (refine RT.cons ?_ ?_; · (first | exact Rn.any | exact Rn.x1 rfl rfl | exact Rn.x2 rfl rfl | exact Rn.x3 rfl rfl | exact Rn.x4 rfl rfl | exact Rn.x5 rfl | exact Rn.x6 rfl | exact Rn.x7 rfl | (refine Rn.slot ?_ ?_; (first | rfl | (rw [Int.natCast_add]; rfl)); (first | rfl | (simp only [noRef, noRefs, noRefs_append, Bool.and_self, Bool.and_true, Bool.true_and, noRefs_flat10, noRefs_ints, noRefs_lsts, noRefs_pad, noRefs_tnC, noRefs_arcC, noRefs_rowF, noRefs_flowC]; done))) | (refine Rn.fn ?_ ?_ <;> (repeat' (first | exact RnL.nil | refine RnL.cons ?_ ?_ | exact Rn.same rfl | exact Rn.x6 rfl | exact Rn.x2 rfl rfl | exact Rn.x5 rfl | exact Rn.x1 rfl rfl)))))))⟩
    · simp (maxSteps := 1000000) (disch := first | omega | (simp only [lenW] <;> omega)) only [vS, and16 hx16 hS, msQ_normal, msQ_exit, msQ_ret, he, wordsN, Int.reduceGT, wordsR, ne_eq, words, Nat.reduceAdd, Nat.reduceEqDiff, Nat.reduceBEq, ↓reduceIte, reduceCtorEq, SX.exit.injEq, if_true, if_false, Int.reduceAdd, Int.reduceSub, Int.reduceMul, Int.reduceLT, Int.reduceLE, Int.reduceEq, Int.reduceNe, Int.reduceNeg, Int.reduceToNat, Nat.reduceMul, Nat.reduceLT, Nat.reduceSub, Nat.reduceLeDiff]
      refine ⟨fun y hy hy2 => ?_, by repeat (first | exact Sub.nil | refine Sub.cons (by first | rfl | (rw [Int.natCast_add]; rfl)) ?_)⟩
      injection hy with _ hy
      have : x = y := by omega
      subst this
      exact he hy2
  · exact ⟨[(20, .blk 20 0), (21, .blk 21 0), (22, .blk 22 0), (23, .blk 23 0), (24, .blk 24 0), (150, .blk 150 0)], rfl, (by repeat (first | exact RO.zero | exact RO.e | refine RO.set rfl ?_)), (by repeat' (first | exact RB.nil | (refine RnL.same ?_; first | rfl | (simp only [noRef, noRefs, noRefs_append, Bool.and_self, Bool.and_true, Bool.true_and, noRefs_flat10, noRefs_ints, noRefs_lsts, noRefs_pad, noRefs_tnC, noRefs_arcC, noRefs_rowF, noRefs_flowC]; done)) | exact RnM.keyM rfl | exact RnL.nil | refine RnL.cons ?_ ?_ | (refine Rn.same ?_; first | rfl | (simp only [noRef, noRefs, noRefs_append, Bool.and_self, Bool.and_true, Bool.true_and, noRefs_flat10, noRefs_ints, noRefs_lsts, noRefs_pad, noRefs_tnC, noRefs_arcC, noRefs_rowF, noRefs_flowC]; done)) | exact Rn.x1 rfl rfl | exact Rn.x2 rfl rfl | exact Rn.x3 rfl rfl | exact Rn.x4 rfl rfl | exact Rn.x5 rfl | exact Rn.x6 rfl | exact Rn.x7 rfl | refine RB.newnil rfl rfl ?_ | refine RB.cells rfl rfl rfl ?_ ?_ | refine RB.map rfl rfl rfl ?_ ?_ | refine RB.cellsB rfl rfl ?_ ?_ | refine RB.mapB rfl rfl ?_ ?_)), (by repeat (first | exact RT.nil | (refine RT.cons ?_ ?_; · (first | exact Rn.any | exact Rn.x1 rfl rfl | exact Rn.x2 rfl rfl | exact Rn.x3 rfl rfl | exact Rn.x4 rfl rfl | exact Rn.x5 rfl | exact Rn.x6 rfl | exact Rn.x7 rfl | (refine Rn.slot ?_ ?_; (first | rfl | (rw [Int.natCast_add]; rfl)); (first | rfl | (simp only [noRef, noRefs, noRefs_append, Bool.and_self, Bool.and_true, Bool.true_and, noRefs_flat10, noRefs_ints, noRefs_lsts, noRefs_pad, noRefs_tnC, noRefs_arcC, noRefs_rowF, noRefs_flowC]; done))) | (refine Rn.fn ?_ ?_ <;> (repeat' (first | exact RnL.nil | refine RnL.cons ?_ ?_ | exact Rn.same rfl | exact Rn.x6 rfl | exact Rn.x2 rfl rfl | exact Rn.x5 rfl | exact Rn.x1 rfl rfl)))))))⟩
  · intro hnone
    have hany : (F.any fun f => decide (f.1 &&& supOf set = f.1)) = false := by
      rw [List.any_eq_false]
      intro f hf hd
      obtain ⟨j, hj, hjl⟩ := mem_at (List.mem_map.2 ⟨f, hf, rfl⟩ : f.1 ∈ F.map (·.1))
      exact hnone j (.int .u16 (f.1 : Nat)) (.bool true) (by simp only [keyM, List.getElem?_map, hj]; rfl) f.1 rfl (of_decide_eq_true hd)
    simp (maxSteps := 1000000) (disch := first | omega | (simp only [lenW] <;> omega)) only [vS, wordsN, Int.reduceGT, wordsR, ne_eq, words, Nat.reduceAdd, Nat.reduceEqDiff, Nat.reduceBEq, ↓reduceIte, reduceCtorEq, SX.exit.injEq, if_true, if_false, Int.reduceAdd, Int.reduceSub, Int.reduceMul, Int.reduceLT, Int.reduceLE, Int.reduceEq, Int.reduceNe, Int.reduceNeg, Int.reduceToNat, Nat.reduceMul, Nat.reduceLT, Nat.reduceSub, Nat.reduceLeDiff]
    have hkf := kernelF R K set hK hR hRk hc hn hb
    rw [show sli (colI set) = .fsl (ints (colI set)) set.length 1 by rw [← hcil]] at hkf
    refine ch (HSpec.of_F (bs := [tabV K R, .fsl (ints (colI set)) set.length 1]) ?_ hkf) ?_
    · refine ⟨FrzTo.same _, FrzTo.sl (cs := ints (colI set)) rfl ?_ ?_, trivial⟩
      · simp [ints, hcil]
      · rw [List.drop_zero, List.take_of_length_le (by simp [ints, hcil])]; exact FrzL.same _
    cases hk : kerR R set with
    | none =>
      have hv : visitR R F set = F := by
        unfold visitR
        rw [hany, hk]; rfl
      rw [hv, Nat.sub_self] at hL
      unfold kerV
      simp (maxSteps := 1000000) (disch := first | omega | (simp only [lenW] <;> omega)) only [vS, wordsN, Int.reduceGT, wordsR, ne_eq, words, Nat.reduceAdd, Nat.reduceEqDiff, Nat.reduceBEq, ↓reduceIte, reduceCtorEq, SX.exit.injEq, if_true, if_false, Int.reduceAdd, Int.reduceSub, Int.reduceMul, Int.reduceLT, Int.reduceLE, Int.reduceEq, Int.reduceNe, Int.reduceNeg, Int.reduceToNat, Nat.reduceMul, Nat.reduceLT, Nat.reduceSub, Nat.reduceLeDiff]
      refine ⟨.inr trivial, _, rfl, rfl, ?_⟩
      rw [← hL]
      exact ⟨[(20, .blk 20 0), (21, .blk 21 0), (22, .blk 22 0), (23, .blk 23 0), (24, .blk 24 0), (150, .blk 150 0)], rfl, (by repeat (first | exact RO.zero | exact RO.e | refine RO.set rfl ?_)), (by repeat' (first | exact RB.nil | (refine RnL.same ?_; first | rfl | (simp only [noRef, noRefs, noRefs_append, Bool.and_self, Bool.and_true, Bool.true_and, noRefs_flat10, noRefs_ints, noRefs_lsts, noRefs_pad, noRefs_tnC, noRefs_arcC, noRefs_rowF, noRefs_flowC]; done)) | exact RnM.keyM rfl | exact RnL.nil | refine RnL.cons ?_ ?_ | (refine Rn.same ?_; first | rfl | (simp only [noRef, noRefs, noRefs_append, Bool.and_self, Bool.and_true, Bool.true_and, noRefs_flat10, noRefs_ints, noRefs_lsts, noRefs_pad, noRefs_tnC, noRefs_arcC, noRefs_rowF, noRefs_flowC]; done)) | exact Rn.x1 rfl rfl | exact Rn.x2 rfl rfl | exact Rn.x3 rfl rfl | exact Rn.x4 rfl rfl | exact Rn.x5 rfl | exact Rn.x6 rfl | exact Rn.x7 rfl | refine RB.newnil rfl rfl ?_ | refine RB.cells rfl rfl rfl ?_ ?_ | refine RB.map rfl rfl rfl ?_ ?_ | refine RB.cellsB rfl rfl ?_ ?_ | refine RB.mapB rfl rfl ?_ ?_)), (by repeat (first | exact RT.nil | (refine RT.cons ?_ ?_; · (first | exact Rn.any | exact Rn.x1 rfl rfl | exact Rn.x2 rfl rfl | exact Rn.x3 rfl rfl | exact Rn.x4 rfl rfl | exact Rn.x5 rfl | exact Rn.x6 rfl | exact Rn.x7 rfl | (refine Rn.slot ?_ ?_; (first | rfl | (rw [Int.natCast_add]; rfl)); (first | rfl | (simp only [noRef, noRefs, noRefs_append, Bool.and_self, Bool.and_true, Bool.true_and, noRefs_flat10, noRefs_ints, noRefs_lsts, noRefs_pad, noRefs_tnC, noRefs_arcC, noRefs_rowF, noRefs_flowC]; done))) | (refine Rn.fn ?_ ?_ <;> (repeat' (first | exact RnL.nil | refine RnL.cons ?_ ?_ | exact Rn.same rfl | exact Rn.x6 rfl | exact Rn.x2 rfl rfl | exact Rn.x5 rfl | exact Rn.x1 rfl rfl)))))))⟩
    | some l =>
      have hll := ker_len hk
      unfold kerV
      simp (maxSteps := 1000000) (disch := first | omega | (simp only [lenW] <;> omega)) only [vS, wordsN, Int.reduceGT, wordsR, ne_eq, words, Nat.reduceAdd, Nat.reduceEqDiff, Nat.reduceBEq, ↓reduceIte, reduceCtorEq, SX.exit.injEq, if_true, if_false, Int.reduceAdd, Int.reduceSub, Int.reduceMul, Int.reduceLT, Int.reduceLE, Int.reduceEq, Int.reduceNe, Int.reduceNeg, Int.reduceToNat, Nat.reduceMul, Nat.reduceLT, Nat.reduceSub, Nat.reduceLeDiff]
      refine call_borrow rfl (contains62 l (by omega)) rfl ?_
      cases hng : l.any fun x => decide (x < 0) with
      | true =>
        have hv : visitR R F set = F := by
          unfold visitR
          rw [hany, hk]; simp only [Bool.false_eq_true, if_false, hng, if_true]
        rw [hv, Nat.sub_self] at hL
        simp (maxSteps := 1000000) (disch := first | omega | (simp only [lenW] <;> omega)) only [vS, wordsN, Int.reduceGT, wordsR, ne_eq, words, Nat.reduceAdd, Nat.reduceEqDiff, Nat.reduceBEq, ↓reduceIte, reduceCtorEq, SX.exit.injEq, if_true, if_false, Int.reduceAdd, Int.reduceSub, Int.reduceMul, Int.reduceLT, Int.reduceLE, Int.reduceEq, Int.reduceNe, Int.reduceNeg, Int.reduceToNat, Nat.reduceMul, Nat.reduceLT, Nat.reduceSub, Nat.reduceLeDiff]
        refine ⟨.inr trivial, _, rfl, rfl, ?_⟩
        rw [← hL]
        exact ⟨[(20, .blk 20 0), (21, .blk 21 0), (22, .blk 22 0), (23, .blk 23 0), (24, .blk 24 0), (150, .blk 150 0)], rfl, (by repeat (first | exact RO.zero | exact RO.e | refine RO.set rfl ?_)), (by repeat' (first | exact RB.nil | (refine RnL.same ?_; first | rfl | (simp only [noRef, noRefs, noRefs_append, Bool.and_self, Bool.and_true, Bool.true_and, noRefs_flat10, noRefs_ints, noRefs_lsts, noRefs_pad, noRefs_tnC, noRefs_arcC, noRefs_rowF, noRefs_flowC]; done)) | exact RnM.keyM rfl | exact RnL.nil | refine RnL.cons ?_ ?_ | (refine Rn.same ?_; first | rfl | (simp only [noRef, noRefs, noRefs_append, Bool.and_self, Bool.and_true, Bool.true_and, noRefs_flat10, noRefs_ints, noRefs_lsts, noRefs_pad, noRefs_tnC, noRefs_arcC, noRefs_rowF, noRefs_flowC]; done)) | exact Rn.x1 rfl rfl | exact Rn.x2 rfl rfl | exact Rn.x3 rfl rfl | exact Rn.x4 rfl rfl | exact Rn.x5 rfl | exact Rn.x6 rfl | exact Rn.x7 rfl | refine RB.newnil rfl rfl ?_ | refine RB.cells rfl rfl rfl ?_ ?_ | refine RB.map rfl rfl rfl ?_ ?_ | refine RB.cellsB rfl rfl ?_ ?_ | refine RB.mapB rfl rfl ?_ ?_)), (by repeat (first | exact RT.nil | (refine RT.cons ?_ ?_; · (first | exact Rn.any | exact Rn.x1 rfl rfl | exact Rn.x2 rfl rfl | exact Rn.x3 rfl rfl | exact Rn.x4 rfl rfl | exact Rn.x5 rfl | exact Rn.x6 rfl | exact Rn.x7 rfl | (refine Rn.slot ?_ ?_; (first | rfl | (rw [Int.natCast_add]; rfl)); (first | rfl | (simp only [noRef, noRefs, noRefs_append, Bool.and_self, Bool.and_true, Bool.true_and, noRefs_flat10, noRefs_ints, noRefs_lsts, noRefs_pad, noRefs_tnC, noRefs_arcC, noRefs_rowF, noRefs_flowC]; done))) | (refine Rn.fn ?_ ?_ <;> (repeat' (first | exact RnL.nil | refine RnL.cons ?_ ?_ | exact Rn.same rfl | exact Rn.x6 rfl | exact Rn.x2 rfl rfl | exact Rn.x5 rfl | exact Rn.x1 rfl rfl)))))))⟩
      | false =>
        have hv : visitR R F set = F ++ [(supOf set, scat set l)] := by
          unfold visitR
          rw [hany, hk]; simp only [Bool.false_eq_true, if_false, hng]
        rw [hv, List.length_append, List.length_singleton, Nat.add_sub_cancel_left] at hL
        simp (maxSteps := 1000000) (disch := first | omega | (simp only [lenW] <;> omega)) only [vS, wordsN, Int.reduceGT, wordsR, ne_eq, words, Nat.reduceAdd, Nat.reduceEqDiff, Nat.reduceBEq, ↓reduceIte, reduceCtorEq, SX.exit.injEq, if_true, if_false, Int.reduceAdd, Int.reduceSub, Int.reduceMul, Int.reduceLT, Int.reduceLE, Int.reduceEq, Int.reduceNe, Int.reduceNeg, Int.reduceToNat, Nat.reduceMul, Nat.reduceLT, Nat.reduceSub, Nat.reduceLeDiff]
        refine wS_loopX 800 (fun i : Nat => [(1, .ptr 21 0 0), (3, .ptr 20 0 0), (5, .int .u16 (supOf set : Nat)), (9, sli l), (11, .ptr 210 0 0), (50, .sl 150 0 0 set.length 1), (51, .int .i64 set.length), (52, .int .i64 i)])
          (fun i => vW K R F g set (scat (set.take i) (l.take i))) (fun i => i ≤ set.length) (fun i => set.length - i) 0 4 900
          (fun _ : Unit => [(1, .ptr 21 0 0), (3, .ptr 20 0 0), (5, .int .u16 (supOf set : Nat)), (11, .ptr 210 0 0)]) (fun _ => vW K R F g set (scat set l)) (fun _ => True) ⟨[(20, .blk 20 0), (21, .blk 21 0), (22, .blk 22 0), (23, .blk 23 0), (24, .blk 24 0), (150, .blk 150 0), (210, .blk 716 0)], rfl, (by repeat (first | exact RO.zero | exact RO.e | refine RO.set rfl ?_)), (by repeat' (first | exact RB.nil | (refine RnL.same ?_; first | rfl | (simp only [noRef, noRefs, noRefs_append, Bool.and_self, Bool.and_true, Bool.true_and, noRefs_flat10, noRefs_ints, noRefs_lsts, noRefs_pad, noRefs_tnC, noRefs_arcC, noRefs_rowF, noRefs_flowC]; done)) | exact RnM.keyM rfl | exact RnL.nil | refine RnL.cons ?_ ?_ | (refine Rn.same ?_; first | rfl | (simp only [noRef, noRefs, noRefs_append, Bool.and_self, Bool.and_true, Bool.true_and, noRefs_flat10, noRefs_ints, noRefs_lsts, noRefs_pad, noRefs_tnC, noRefs_arcC, noRefs_rowF, noRefs_flowC]; done)) | exact Rn.x1 rfl rfl | exact Rn.x2 rfl rfl | exact Rn.x3 rfl rfl | exact Rn.x4 rfl rfl | exact Rn.x5 rfl | exact Rn.x6 rfl | exact Rn.x7 rfl | refine RB.newnil rfl rfl ?_ | refine RB.cells rfl rfl rfl ?_ ?_ | refine RB.map rfl rfl rfl ?_ ?_ | refine RB.cellsB rfl rfl ?_ ?_ | refine RB.mapB rfl rfl ?_ ?_)), (by repeat (first | exact RT.nil | (refine RT.cons ?_ ?_; · (first | exact Rn.any | exact Rn.x1 rfl rfl | exact Rn.x2 rfl rfl | exact Rn.x3 rfl rfl | exact Rn.x4 rfl rfl | exact Rn.x5 rfl | exact Rn.x6 rfl | exact Rn.x7 rfl | (refine Rn.slot ?_ ?_; (first | rfl | (rw [Int.natCast_add]; rfl)); (first | rfl | (simp only [noRef, noRefs, noRefs_append, Bool.and_self, Bool.and_true, Bool.true_and, noRefs_flat10, noRefs_ints, noRefs_lsts, noRefs_pad, noRefs_tnC, noRefs_arcC, noRefs_rowF, noRefs_flowC]; done))) | (refine Rn.fn ?_ ?_ <;> (repeat' (first | exact RnL.nil | refine RnL.cons ?_ ?_ | exact Rn.same rfl | exact Rn.x6 rfl | exact Rn.x2 rfl rfl | exact Rn.x5 rfl | exact Rn.x1 rfl rfl)))))))⟩ (Nat.zero_le _) ?_ ?_
        · intro i hi
          by_cases hlt : i < set.length
          · obtain ⟨c, hcc⟩ := get_ex hlt
            obtain ⟨x, hx⟩ := get_ex (show i < l.length by omega)
            have hcl := hc c (List.mem_of_getElem? hcc)
            have hgi : (ints (colI set))[i]? = some (.int .i64 c) := by simp [ints, colI_get hcc]
            have hi2 : i < l.length := by omega
            have hc10 : (c : Int) < 10 := by omega
            have hst := scat_take hcc hx
            generalize scat (set.take i) (l.take i) = f at hst
            have hset : ∀ a v, (a :: rowF 10 f).set (1 + c) (.int .i64 v) = a :: rowF 10 (fun j => if j = c then v else f j) := fun a v => by
              rw [Nat.add_comm 1 c, List.set_cons_succ, rowF_set]
            have hle : 1 + c + 1 ≤ 10 + 1 := by omega
            simp (maxSteps := 1000000) (disch := first | omega | (simp only [lenW] <;> omega)) only [hlt, hgi, vW, head_ints hx, hc10, hi2, hset, rowF_len, hle, wordsN, Int.reduceGT, wordsR, ne_eq, words, Nat.reduceAdd, Nat.reduceEqDiff, Nat.reduceBEq, ↓reduceIte, reduceCtorEq, SX.exit.injEq, if_true, if_false, Int.reduceAdd, Int.reduceSub, Int.reduceMul, Int.reduceLT, Int.reduceLE, Int.reduceEq, Int.reduceNe, Int.reduceNeg, Int.reduceToNat, Nat.reduceMul, Nat.reduceLT, Nat.reduceSub, Nat.reduceLeDiff]
            refine ⟨i + 1, by omega, by omega, ?_⟩
            rw [hst]
            exact ⟨[(20, .blk 20 0), (21, .blk 21 0), (22, .blk 22 0), (23, .blk 23 0), (24, .blk 24 0), (150, .blk 150 0), (210, .blk 210 0)], rfl, (by repeat (first | exact RO.zero | exact RO.e | refine RO.set rfl ?_)), (by repeat' (first | exact RB.nil | (refine RnL.same ?_; first | rfl | (simp only [noRef, noRefs, noRefs_append, Bool.and_self, Bool.and_true, Bool.true_and, noRefs_flat10, noRefs_ints, noRefs_lsts, noRefs_pad, noRefs_tnC, noRefs_arcC, noRefs_rowF, noRefs_flowC]; done)) | exact RnM.keyM rfl | exact RnL.nil | refine RnL.cons ?_ ?_ | (refine Rn.same ?_; first | rfl | (simp only [noRef, noRefs, noRefs_append, Bool.and_self, Bool.and_true, Bool.true_and, noRefs_flat10, noRefs_ints, noRefs_lsts, noRefs_pad, noRefs_tnC, noRefs_arcC, noRefs_rowF, noRefs_flowC]; done)) | exact Rn.x1 rfl rfl | exact Rn.x2 rfl rfl | exact Rn.x3 rfl rfl | exact Rn.x4 rfl rfl | exact Rn.x5 rfl | exact Rn.x6 rfl | exact Rn.x7 rfl | refine RB.newnil rfl rfl ?_ | refine RB.cells rfl rfl rfl ?_ ?_ | refine RB.map rfl rfl rfl ?_ ?_ | refine RB.cellsB rfl rfl ?_ ?_ | refine RB.mapB rfl rfl ?_ ?_)), (by repeat (first | exact RT.nil | (refine RT.cons ?_ ?_; · (first | exact Rn.any | exact Rn.x1 rfl rfl | exact Rn.x2 rfl rfl | exact Rn.x3 rfl rfl | exact Rn.x4 rfl rfl | exact Rn.x5 rfl | exact Rn.x6 rfl | exact Rn.x7 rfl | (refine Rn.slot ?_ ?_; (first | rfl | (rw [Int.natCast_add]; rfl)); (first | rfl | (simp only [noRef, noRefs, noRefs_append, Bool.and_self, Bool.and_true, Bool.true_and, noRefs_flat10, noRefs_ints, noRefs_lsts, noRefs_pad, noRefs_tnC, noRefs_arcC, noRefs_rowF, noRefs_flowC]; done))) | (refine Rn.fn ?_ ?_ <;> (repeat' (first | exact RnL.nil | refine RnL.cons ?_ ?_ | exact Rn.same rfl | exact Rn.x6 rfl | exact Rn.x2 rfl rfl | exact Rn.x5 rfl | exact Rn.x1 rfl rfl)))))))⟩
          · have e : i = set.length := by omega
            subst e
            rw [List.take_length, ← hll, List.take_length]
            simp (maxSteps := 1000000) (disch := first | omega | (simp only [lenW] <;> omega)) only [hlt, vW, hll, wordsN, Int.reduceGT, wordsR, ne_eq, words, Nat.reduceAdd, Nat.reduceEqDiff, Nat.reduceBEq, ↓reduceIte, reduceCtorEq, SX.exit.injEq, if_true, if_false, Int.reduceAdd, Int.reduceSub, Int.reduceMul, Int.reduceLT, Int.reduceLE, Int.reduceEq, Int.reduceNe, Int.reduceNeg, Int.reduceToNat, Nat.reduceMul, Nat.reduceLT, Nat.reduceSub, Nat.reduceLeDiff]
            exact ⟨(), ⟨[(20, .blk 20 0), (21, .blk 21 0), (22, .blk 22 0), (23, .blk 23 0), (24, .blk 24 0), (150, .blk 150 0), (210, .blk 210 0)], rfl, (by repeat (first | exact RO.zero | exact RO.e | refine RO.set rfl ?_)), (by repeat' (first | exact RB.nil | (refine RnL.same ?_; first | rfl | (simp only [noRef, noRefs, noRefs_append, Bool.and_self, Bool.and_true, Bool.true_and, noRefs_flat10, noRefs_ints, noRefs_lsts, noRefs_pad, noRefs_tnC, noRefs_arcC, noRefs_rowF, noRefs_flowC]; done)) | exact RnM.keyM rfl | exact RnL.nil | refine RnL.cons ?_ ?_ | (refine Rn.same ?_; first | rfl | (simp only [noRef, noRefs, noRefs_append, Bool.and_self, Bool.and_true, Bool.true_and, noRefs_flat10, noRefs_ints, noRefs_lsts, noRefs_pad, noRefs_tnC, noRefs_arcC, noRefs_rowF, noRefs_flowC]; done)) | exact Rn.x1 rfl rfl | exact Rn.x2 rfl rfl | exact Rn.x3 rfl rfl | exact Rn.x4 rfl rfl | exact Rn.x5 rfl | exact Rn.x6 rfl | exact Rn.x7 rfl | refine RB.newnil rfl rfl ?_ | refine RB.cells rfl rfl rfl ?_ ?_ | refine RB.map rfl rfl rfl ?_ ?_ | refine RB.cellsB rfl rfl ?_ ?_ | refine RB.mapB rfl rfl ?_ ?_)), (by repeat (first | exact RT.nil | (refine RT.cons ?_ ?_; · (first | exact Rn.any | exact Rn.x1 rfl rfl | exact Rn.x2 rfl rfl | exact Rn.x3 rfl rfl | exact Rn.x4 rfl rfl | exact Rn.x5 rfl | exact Rn.x6 rfl | exact Rn.x7 rfl | (refine Rn.slot ?_ ?_; (first | rfl | (rw [Int.natCast_add]; rfl)); (first | rfl | (simp only [noRef, noRefs, noRefs_append, Bool.and_self, Bool.and_true, Bool.true_and, noRefs_flat10, noRefs_ints, noRefs_lsts, noRefs_pad, noRefs_tnC, noRefs_arcC, noRefs_rowF, noRefs_flowC]; done))) | (refine Rn.fn ?_ ?_ <;> (repeat' (first | exact RnL.nil | refine RnL.cons ?_ ?_ | exact Rn.same rfl | exact Rn.x6 rfl | exact Rn.x2 rfl rfl | exact Rn.x5 rfl | exact Rn.x1 rfl rfl)))))))⟩⟩
        rintro _ -
        simp (maxSteps := 1000000) (disch := first | omega | (simp only [lenW] <;> omega)) only [vW, wordsN, Int.reduceGT, wordsR, ne_eq, words, Nat.reduceAdd, Nat.reduceEqDiff, Nat.reduceBEq, ↓reduceIte, reduceCtorEq, SX.exit.injEq, if_true, if_false, Int.reduceAdd, Int.reduceSub, Int.reduceMul, Int.reduceLT, Int.reduceLE, Int.reduceEq, Int.reduceNe, Int.reduceNeg, Int.reduceToNat, Nat.reduceMul, Nat.reduceLT, Nat.reduceSub, Nat.reduceLeDiff]
        have hx : supOf set ∉ F.map (·.1) := by
          intro hm
          obtain ⟨f, hf, he⟩ := List.mem_map.1 hm
          have := List.any_eq_false.1 hany f hf
          rw [he] at this
          simp at this
        refine aMapUpd_new (wU_ins (l := F.map (·.1)) hx (by decide) ?_)
        have ht : (AV.int .u16 (supOf set : Nat) :: rowF 10 (scat set l)).take 11 = AV.int .u16 (supOf set : Nat) :: rowF 10 (scat set l) := List.take_of_length_le (by rw [List.length_cons, rowF_len]; exact Nat.le_refl _)
        have hone : (AV.int .u16 (supOf set : Nat) :: rowF 10 (scat set l)).all AV.one = true := by rw [List.all_cons, one_rowF]; rfl
        have hput : putR [.int .u16 0, .int .i64 0, .int .i64 0, .int .i64 0, .int .i64 0, .int .i64 0, .int .i64 0, .int .i64 0, .int .i64 0, .int .i64 0, .int .i64 0] 0 (AV.int .u16 (supOf set : Nat) :: rowF 10 (scat set l)) = AV.int .u16 (supOf set : Nat) :: rowF 10 (scat set l) := rfl
        have hsrc : srcB (some (.cells g (flowC F))) g 0 F.length 11 = some (flowC F) := srcB_all (flowC_len F)
        have hfl : flowC F ++ (AV.int .u16 (supOf set : Nat) :: rowF 10 (scat set l)) = flowC (F ++ [(supOf set, scat set l)]) := by
          unfold flowC; rw [List.flatMap_append, List.flatMap_singleton]
        have hrl := rowF_len 10 (scat set l)
        simp (maxSteps := 1000000) (disch := first | omega | (simp only [lenW] <;> omega)) only [ht, hone, hrl, hput, hsrc, hfl, wordsN, Int.reduceGT, wordsR, ne_eq, words, Nat.reduceAdd, Nat.reduceEqDiff, Nat.reduceBEq, ↓reduceIte, reduceCtorEq, SX.exit.injEq, if_true, if_false, Int.reduceAdd, Int.reduceSub, Int.reduceMul, Int.reduceLT, Int.reduceLE, Int.reduceEq, Int.reduceNe, Int.reduceNeg, Int.reduceToNat, Nat.reduceMul, Nat.reduceLT, Nat.reduceSub, Nat.reduceLeDiff]
        refine ⟨.inl trivial, _, rfl, rfl, ?_⟩
        rw [← hL]
        simp only [vS, List.length_append, List.length_cons, List.length_nil, List.map_append, List.map_cons, List.map_nil, Nat.zero_add]
        exact ⟨[(20, .blk 20 0), (21, .blk 21 0), (22, .blk 22 0), (23, .blk 23 0), (24, .blk 24 0), (150, .blk 150 0)], rfl, (by repeat (first | exact RO.zero | exact RO.e | refine RO.set rfl ?_)), (by repeat' (first | exact RB.nil | (refine RnL.same ?_; first | rfl | (simp only [noRef, noRefs, noRefs_append, Bool.and_self, Bool.and_true, Bool.true_and, noRefs_flat10, noRefs_ints, noRefs_lsts, noRefs_pad, noRefs_tnC, noRefs_arcC, noRefs_rowF, noRefs_flowC]; done)) | exact RnM.keyM rfl | exact RnL.nil | refine RnL.cons ?_ ?_ | (refine Rn.same ?_; first | rfl | (simp only [noRef, noRefs, noRefs_append, Bool.and_self, Bool.and_true, Bool.true_and, noRefs_flat10, noRefs_ints, noRefs_lsts, noRefs_pad, noRefs_tnC, noRefs_arcC, noRefs_rowF, noRefs_flowC]; done)) | exact Rn.x1 rfl rfl | exact Rn.x2 rfl rfl | exact Rn.x3 rfl rfl | exact Rn.x4 rfl rfl | exact Rn.x5 rfl | exact Rn.x6 rfl | exact Rn.x7 rfl | refine RB.newnil rfl rfl ?_ | refine RB.cells rfl rfl rfl ?_ ?_ | refine RB.map rfl rfl rfl ?_ ?_ | refine RB.cellsB rfl rfl ?_ ?_ | refine RB.mapB rfl rfl ?_ ?_)), (by repeat (first | exact RT.nil | (refine RT.cons ?_ ?_; · (first | exact Rn.any | exact Rn.x1 rfl rfl | exact Rn.x2 rfl rfl | exact Rn.x3 rfl rfl | exact Rn.x4 rfl rfl | exact Rn.x5 rfl | exact Rn.x6 rfl | exact Rn.x7 rfl | (refine Rn.slot ?_ ?_; (first | rfl | (rw [Int.natCast_add]; rfl)); (first | rfl | (simp only [noRef, noRefs, noRefs_append, Bool.and_self, Bool.and_true, Bool.true_and, noRefs_flat10, noRefs_ints, noRefs_lsts, noRefs_pad, noRefs_tnC, noRefs_arcC, noRefs_rowF, noRefs_flowC]; done))) | (refine Rn.fn ?_ ?_ <;> (repeat' (first | exact RnL.nil | refine RnL.cons ?_ ?_ | exact Rn.same rfl | exact Rn.x6 rfl | exact Rn.x2 rfl rfl | exact Rn.x5 rfl | exact Rn.x1 rfl rfl)))))))⟩
end Go.AM.SN
namespace Go.AM.SN
open Go.Proofs Go.AM.SK
set_option maxRecDepth 100000
set_option linter.unusedSimpArgs false
set_option linter.unusedVariables false
def setsF : Nat → Nat → Nat → List (List Nat)
  | 0, _, _ => [[]]
  | _ + 1, 0, _ => []
  | s + 1, c + 1, a => (setsF s c (a + 1)).map (a :: ·) ++ setsF (s + 1) c (a + 1)
def nxt (s : List Nat) (i : Nat) : List Nat := (List.range s.length).map fun p => if p < i then s.getD p 0 else s.getD i 0 + 1 + (p - i)
theorem sets_props : ∀ n, n < 6 → ∀ k, k < 6 → ∀ s ∈ setsF k n 0, s.length = k ∧ (∀ c ∈ s, c < n) ∧ s.Pairwise (· < ·) := by decide +kernel
theorem sets_first : ∀ n, n < 6 → ∀ k, k < 6 → k ≤ n → (setsF k n 0)[0]? = some (List.range k) := by decide +kernel
theorem sets_small : ∀ n, n < 6 → ∀ k, k < 6 → (setsF k n 0).length ≤ 10 := by decide +kernel
def chkNext : Bool := (List.range 6).all fun n => (List.range 6).all fun k => (List.range (setsF k n 0).length).all fun j => (List.range k).all fun i =>
  (((setsF k n 0).getD j []).getD i 0 == n - k + i) || !((List.range k).all fun p => !(decide (i < p)) || ((setsF k n 0).getD j []).getD p 0 == n - k + p) || decide ((setsF k n 0)[j + 1]? = some (nxt ((setsF k n 0).getD j []) i))
theorem chkNext_ok : chkNext = true := by decide +kernel
theorem sets_next (n : Nat) (hn : n < 6) (k : Nat) (hk : k < 6) (j : Nat) (hj : j < (setsF k n 0).length) (i : Nat) (hi : i < k) (h1 : ((setsF k n 0).getD j []).getD i 0 ≠ n - k + i) (h2 : ∀ p, p < k → i < p → ((setsF k n 0).getD j []).getD p 0 = n - k + p) :
    (setsF k n 0)[j + 1]? = some (nxt ((setsF k n 0).getD j []) i) := by
  have h := chkNext_ok
  unfold chkNext at h
  simp only [List.all_eq_true, List.mem_range] at h
  have h := h n hn k hk j hj i hi
  simp only [Bool.or_eq_true, Bool.not_eq_true', decide_eq_true_eq, beq_iff_eq] at h
  rcases h with (h | h) | h
  · exact absurd h h1
  · exfalso
    rw [Bool.eq_false_iff] at h
    apply h
    rw [List.all_eq_true]
    intro p hp
    simp only [Bool.or_eq_true, Bool.not_eq_true', decide_eq_false_iff_not, beq_iff_eq]
    by_cases hip : i < p
    · exact .inr (h2 p (by simpa using hp) hip)
    · exact .inl hip
  · exact h
theorem sets_last : ∀ n, n < 6 → ∀ k, k < 6 → ∀ j, j < (setsF k n 0).length → (∀ p, p < k → ((setsF k n 0).getD j []).getD p 0 = n - k + p) → j + 1 = (setsF k n 0).length := by decide +kernel
theorem visit_len (R : List (List Int)) (F : List Flow) (s : List Nat) : F.length ≤ (visitR R F s).length ∧ (visitR R F s).length ≤ F.length + 1 := by
  unfold visitR
  split
  · omega
  · split
    · omega
    · split
      · omega
      · simp
theorem visit_sup {R : List (List Int)} {F : List Flow} {s : List Nat} (hs : ∀ c ∈ s, c < 16) (hF : ∀ f ∈ F, f.1 < 65536) : ∀ f ∈ visitR R F s, f.1 < 65536 := by
  unfold visitR
  split
  · exact hF
  · split
    · exact hF
    · split
      · exact hF
      · intro f hf
        rcases List.mem_append.1 hf with h | h
        · exact hF f h
        · simp only [List.mem_singleton] at h
          subst h; exact supOf_lt hs
def foldV (R : List (List Int)) (F : List Flow) (S : List (List Nat)) : List Flow := S.foldl (visitR R) F
theorem foldV_len (R : List (List Int)) : ∀ (S : List (List Nat)) (F : List Flow), F.length ≤ (foldV R F S).length ∧ (foldV R F S).length ≤ F.length + S.length
  | [], F => by simp [foldV]
  | s :: S, F => by
    have h1 := visit_len R F s
    have h2 := foldV_len R S (visitR R F s)
    simp only [foldV, List.foldl_cons, List.length_cons] at h2 ⊢
    omega
theorem foldV_sup {R : List (List Int)} : ∀ (S : List (List Nat)) (F : List Flow), (∀ s ∈ S, ∀ c ∈ s, c < 16) → (∀ f ∈ F, f.1 < 65536) → ∀ f ∈ foldV R F S, f.1 < 65536
  | [], F, _, hF => hF
  | s :: S, F, hS, hF => foldV_sup S _ (fun t ht => hS t (by simp [ht])) (visit_sup (hS s (by simp)) hF)
theorem foldV_take (R : List (List Int)) (F : List Flow) (S : List (List Nat)) {j : Nat} {s : List Nat} (h : S[j]? = some s) : foldV R F (S.take (j + 1)) = visitR R (foldV R F (S.take j)) s := by
  unfold foldV
  rw [List.take_add_one, List.foldl_append, h]; rfl
def vC (K : Nat) (R : List (List Int)) (F : List Flow) (g : Nat) (cs : List AV) : HL :=
  [(20, .cells 0 [.sl 23 g 0 F.length 11]), (21, .cells 0 [.map 22 0]), (22, .map 0 (keyM .u16 (.bool true) (F.map (·.1)))), (23, .cells g (flowC F)), (24, .cells 0 [.int .i64 K, .fsl (R.flatMap pad) R.length 10]), (150, .cells 0 cs)]
def vJ (K : Nat) (R : List (List Int)) (F : List Flow) (g : Nat) (S : List (List Nat)) (j : Nat) : HL :=
  vC K R (foldV R F (S.take j)) (g + ((foldV R F (S.take j)).length - F.length)) (ints (colI (S.getD j [])))
theorem ints_rowF {s : List Nat} : ints (colI s) = rowF s.length (fun p => (s.getD p 0 : Nat)) := by
  unfold rowF colI
  congr 1
  refine List.ext_getElem? fun p => ?_
  by_cases hp : p < s.length
  · simp [List.getElem?_range hp, List.getElem?_eq_getElem hp, List.getD_eq_getElem?_getD]
  · simp [List.getElem?_eq_none (show s.length ≤ p by omega), List.getElem?_eq_none (show (List.range s.length).length ≤ p by simp; omega)]
set_option maxHeartbeats 8000000 in
theorem choose (K : Nat) (R : List (List Int)) (F : List Flow) (g k : Nat) (hK : K ≤ 5) (hR : R.length ≤ 100) (hRk : ∀ r ∈ R, r.length = K) (hRb : ∀ r ∈ R, ∀ x ∈ r, -8 ≤ x ∧ x ≤ 8) (hk0 : 0 < k) (hkK : k ≤ K)
    (hF : F.length ≤ 900) (hFs : ∀ f ∈ F, f.1 < 65536) :
    HSpec Try.prog 59 [.int .i64 K, .int .i64 k, .fn 60 [] [.ptr 21 0 0, .ptr 24 0 0, .ptr 20 0 0]] (hp (vH K R F g)) (.tup [])
      (hp (vH K R (foldV R F (setsF k K 0)) (g + ((foldV R F (setsF k K 0)).length - F.length)))) := by
  refine HSpec.of_rec (m := 100) 300 SM.ok59 rfl rfl rfl ?_
  generalize hL : vH K R (foldV R F (setsF k K 0)) (g + ((foldV R F (setsF k K 0)).length - F.length)) = L1
  have hp1 := sets_props K (by omega) k (by omega)
  have hp2 := sets_first K (by omega) k (by omega) hkK
  have hp3 := sets_small K (by omega) k (by omega)
  have hp4 := sets_next K (by omega) k (by omega)
  have hp5 := sets_last K (by omega) k (by omega)
  generalize setsF k K 0 = S at *
  have hk8 : (8 : Int) * (k : Int) ≤ 1099511627776 := by omega
  have hk1 : (k : Int) ≤ 1099511627776 := by omega
  have hkK' : (k : Int) ≤ K := by omega
  simp (maxSteps := 1000000) (disch := first | omega | (simp only [lenW] <;> omega)) only [SM.s59, vH, hk8, hk1, rowF_zero, wordsN, Int.reduceGT, wordsR, ne_eq, words, Nat.reduceAdd, Nat.reduceEqDiff, Nat.reduceBEq, ↓reduceIte, reduceCtorEq, SX.exit.injEq, if_true, if_false, Int.reduceAdd, Int.reduceSub, Int.reduceMul, Int.reduceLT, Int.reduceLE, Int.reduceEq, Int.reduceNe, Int.reduceNeg, Int.reduceToNat, Nat.reduceMul, Nat.reduceLT, Nat.reduceSub, Nat.reduceLeDiff]
  refine wS_loopX 400 (fun i : Nat => [(0, .int .i64 K), (1, .int .i64 k), (2, .fn 60 [] [.ptr 21 0 0, .ptr 24 0 0, .ptr 20 0 0]), (6, .sl 150 0 0 k 1), (13, .int .i64 k), (14, .int .i64 i)])
    (fun i => vC K R F g (rowF k fun p => if p < i then p else 0)) (fun i => i ≤ k) (fun i => k - i) 0 0 500
    (fun _ : Unit => [(0, .int .i64 K), (1, .int .i64 k), (2, .fn 60 [] [.ptr 21 0 0, .ptr 24 0 0, .ptr 20 0 0]), (6, .sl 150 0 0 k 1)]) (fun _ => vC K R F g (ints (colI (List.range k)))) (fun _ => True) ?_ (Nat.zero_le _) ?_ ?_
  · refine ⟨[(20, .blk 20 0), (21, .blk 21 0), (22, .blk 22 0), (23, .blk 23 0), (24, .blk 24 0), (150, .blk 301 0)], rfl, (by repeat (first | exact RO.zero | exact RO.e | refine RO.set rfl ?_)), ?_, (by repeat (first | exact RT.nil | (refine RT.cons ?_ ?_; · (first | exact Rn.any | exact Rn.x1 rfl rfl | exact Rn.x2 rfl rfl | exact Rn.x3 rfl rfl | exact Rn.x4 rfl rfl | exact Rn.x5 rfl | exact Rn.x6 rfl | exact Rn.x7 rfl | (refine Rn.slot ?_ ?_; (first | rfl | (rw [Int.natCast_add]; rfl)); (first | rfl | (simp only [noRef, noRefs, noRefs_append, Bool.and_self, Bool.and_true, Bool.true_and, noRefs_flat10, noRefs_ints, noRefs_lsts, noRefs_pad, noRefs_tnC, noRefs_arcC, noRefs_rowF, noRefs_flowC]; done))) | (refine Rn.fn ?_ ?_ <;> (repeat' (first | exact RnL.nil | refine RnL.cons ?_ ?_ | exact Rn.same rfl | exact Rn.x6 rfl | exact Rn.x2 rfl rfl | exact Rn.x5 rfl | exact Rn.x1 rfl rfl)))))))⟩
    refine RB.cellsB rfl rfl ?_ (RB.cellsB rfl rfl ?_ (RB.mapB rfl rfl ?_ (RB.cellsB rfl rfl ?_ (RB.cellsB rfl rfl ?_ (RB.cells rfl rfl rfl (RnL.eq (rowF_congr fun p _ => ?_) (noRefs_rowF _ _)) RB.nil)))))
    all_goals first | (simp only [Nat.not_lt_zero, if_false]; done) | repeat' (first | exact RB.nil | (refine RnL.same ?_; first | rfl | (simp only [noRef, noRefs, noRefs_append, Bool.and_self, Bool.and_true, Bool.true_and, noRefs_flat10, noRefs_ints, noRefs_lsts, noRefs_pad, noRefs_tnC, noRefs_arcC, noRefs_rowF, noRefs_flowC]; done)) | exact RnM.keyM rfl | exact RnL.nil | refine RnL.cons ?_ ?_ | (refine Rn.same ?_; first | rfl | (simp only [noRef, noRefs, noRefs_append, Bool.and_self, Bool.and_true, Bool.true_and, noRefs_flat10, noRefs_ints, noRefs_lsts, noRefs_pad, noRefs_tnC, noRefs_arcC, noRefs_rowF, noRefs_flowC]; done)) | exact Rn.x1 rfl rfl | exact Rn.x2 rfl rfl | exact Rn.x3 rfl rfl | exact Rn.x4 rfl rfl | exact Rn.x5 rfl | exact Rn.x6 rfl | exact Rn.x7 rfl | refine RB.newnil rfl rfl ?_ | refine RB.cells rfl rfl rfl ?_ ?_ | refine RB.map rfl rfl rfl ?_ ?_ | refine RB.cellsB rfl rfl ?_ ?_ | refine RB.mapB rfl rfl ?_ ?_)
  · intro i hi
    by_cases hlt : i < k
    · have hset : ∀ v, (rowF k fun p => if p < i then (p : Int) else 0).set i (.int .i64 v) = rowF k (fun p => if p = i then v else if p < i then (p : Int) else 0) := fun v => rowF_set _ v
      have hle : i + 1 ≤ k := by omega
      simp (maxSteps := 1000000) (disch := first | omega | (simp only [lenW] <;> omega)) only [hlt, vC, hset, rowF_len, hle, wordsN, Int.reduceGT, wordsR, ne_eq, words, Nat.reduceAdd, Nat.reduceEqDiff, Nat.reduceBEq, ↓reduceIte, reduceCtorEq, SX.exit.injEq, if_true, if_false, Int.reduceAdd, Int.reduceSub, Int.reduceMul, Int.reduceLT, Int.reduceLE, Int.reduceEq, Int.reduceNe, Int.reduceNeg, Int.reduceToNat, Nat.reduceMul, Nat.reduceLT, Nat.reduceSub, Nat.reduceLeDiff]
      refine ⟨i + 1, by omega, by omega, ?_⟩
      have hf : (fun p => if p = i then (i : Int) else if p < i then (p : Int) else 0) = fun p : Nat => if p < i + 1 then (p : Int) else 0 := by
        funext p
        by_cases e : p = i
        · subst e; simp
        · have : (p < i + 1) ↔ (p < i) := by omega
          simp only [e, if_false, this]
      rw [hf]
      exact ⟨[(20, .blk 20 0), (21, .blk 21 0), (22, .blk 22 0), (23, .blk 23 0), (24, .blk 24 0), (150, .blk 150 0)], rfl, (by repeat (first | exact RO.zero | exact RO.e | refine RO.set rfl ?_)), (by repeat' (first | exact RB.nil | (refine RnL.same ?_; first | rfl | (simp only [noRef, noRefs, noRefs_append, Bool.and_self, Bool.and_true, Bool.true_and, noRefs_flat10, noRefs_ints, noRefs_lsts, noRefs_pad, noRefs_tnC, noRefs_arcC, noRefs_rowF, noRefs_flowC]; done)) | exact RnM.keyM rfl | exact RnL.nil | refine RnL.cons ?_ ?_ | (refine Rn.same ?_; first | rfl | (simp only [noRef, noRefs, noRefs_append, Bool.and_self, Bool.and_true, Bool.true_and, noRefs_flat10, noRefs_ints, noRefs_lsts, noRefs_pad, noRefs_tnC, noRefs_arcC, noRefs_rowF, noRefs_flowC]; done)) | exact Rn.x1 rfl rfl | exact Rn.x2 rfl rfl | exact Rn.x3 rfl rfl | exact Rn.x4 rfl rfl | exact Rn.x5 rfl | exact Rn.x6 rfl | exact Rn.x7 rfl | refine RB.newnil rfl rfl ?_ | refine RB.cells rfl rfl rfl ?_ ?_ | refine RB.map rfl rfl rfl ?_ ?_ | refine RB.cellsB rfl rfl ?_ ?_ | refine RB.mapB rfl rfl ?_ ?_)), (by repeat (first | exact RT.nil | (refine RT.cons ?_ ?_; · (first | exact Rn.any | exact Rn.x1 rfl rfl | exact Rn.x2 rfl rfl | exact Rn.x3 rfl rfl | exact Rn.x4 rfl rfl | exact Rn.x5 rfl | exact Rn.x6 rfl | exact Rn.x7 rfl | (refine Rn.slot ?_ ?_; (first | rfl | (rw [Int.natCast_add]; rfl)); (first | rfl | (simp only [noRef, noRefs, noRefs_append, Bool.and_self, Bool.and_true, Bool.true_and, noRefs_flat10, noRefs_ints, noRefs_lsts, noRefs_pad, noRefs_tnC, noRefs_arcC, noRefs_rowF, noRefs_flowC]; done))) | (refine Rn.fn ?_ ?_ <;> (repeat' (first | exact RnL.nil | refine RnL.cons ?_ ?_ | exact Rn.same rfl | exact Rn.x6 rfl | exact Rn.x2 rfl rfl | exact Rn.x5 rfl | exact Rn.x1 rfl rfl)))))))⟩
    · have e : i = k := by omega
      subst e
      simp (maxSteps := 1000000) (disch := first | omega | (simp only [lenW] <;> omega)) only [hlt, vC, wordsN, Int.reduceGT, wordsR, ne_eq, words, Nat.reduceAdd, Nat.reduceEqDiff, Nat.reduceBEq, ↓reduceIte, reduceCtorEq, SX.exit.injEq, if_true, if_false, Int.reduceAdd, Int.reduceSub, Int.reduceMul, Int.reduceLT, Int.reduceLE, Int.reduceEq, Int.reduceNe, Int.reduceNeg, Int.reduceToNat, Nat.reduceMul, Nat.reduceLT, Nat.reduceSub, Nat.reduceLeDiff]
      refine ⟨(), ?_⟩
      rw [ints_rowF, List.length_range, rowF_congr (g := fun p => if p < i then (p : Int) else 0) fun p hp => by simp [hp, List.getD_eq_getElem?_getD, List.getElem?_range hp]]
      exact ⟨[(20, .blk 20 0), (21, .blk 21 0), (22, .blk 22 0), (23, .blk 23 0), (24, .blk 24 0), (150, .blk 150 0)], rfl, (by repeat (first | exact RO.zero | exact RO.e | refine RO.set rfl ?_)), (by repeat' (first | exact RB.nil | (refine RnL.same ?_; first | rfl | (simp only [noRef, noRefs, noRefs_append, Bool.and_self, Bool.and_true, Bool.true_and, noRefs_flat10, noRefs_ints, noRefs_lsts, noRefs_pad, noRefs_tnC, noRefs_arcC, noRefs_rowF, noRefs_flowC]; done)) | exact RnM.keyM rfl | exact RnL.nil | refine RnL.cons ?_ ?_ | (refine Rn.same ?_; first | rfl | (simp only [noRef, noRefs, noRefs_append, Bool.and_self, Bool.and_true, Bool.true_and, noRefs_flat10, noRefs_ints, noRefs_lsts, noRefs_pad, noRefs_tnC, noRefs_arcC, noRefs_rowF, noRefs_flowC]; done)) | exact Rn.x1 rfl rfl | exact Rn.x2 rfl rfl | exact Rn.x3 rfl rfl | exact Rn.x4 rfl rfl | exact Rn.x5 rfl | exact Rn.x6 rfl | exact Rn.x7 rfl | refine RB.newnil rfl rfl ?_ | refine RB.cells rfl rfl rfl ?_ ?_ | refine RB.map rfl rfl rfl ?_ ?_ | refine RB.cellsB rfl rfl ?_ ?_ | refine RB.mapB rfl rfl ?_ ?_)), (by repeat (first | exact RT.nil | (refine RT.cons ?_ ?_; · (first | exact Rn.any | exact Rn.x1 rfl rfl | exact Rn.x2 rfl rfl | exact Rn.x3 rfl rfl | exact Rn.x4 rfl rfl | exact Rn.x5 rfl | exact Rn.x6 rfl | exact Rn.x7 rfl | (refine Rn.slot ?_ ?_; (first | rfl | (rw [Int.natCast_add]; rfl)); (first | rfl | (simp only [noRef, noRefs, noRefs_append, Bool.and_self, Bool.and_true, Bool.true_and, noRefs_flat10, noRefs_ints, noRefs_lsts, noRefs_pad, noRefs_tnC, noRefs_arcC, noRefs_rowF, noRefs_flowC]; done))) | (refine Rn.fn ?_ ?_ <;> (repeat' (first | exact RnL.nil | refine RnL.cons ?_ ?_ | exact Rn.same rfl | exact Rn.x6 rfl | exact Rn.x2 rfl rfl | exact Rn.x5 rfl | exact Rn.x1 rfl rfl)))))))⟩
  rintro _ -
  have hKB : ∀ s : List Nat, s.length = k → KBd R s := fun s hs => KBd_of R s (by omega) fun r hr x hx => by have := hRb r hr x hx; omega
  have hS0 : 0 < S.length := (List.getElem?_eq_some_iff.1 hp2).1
  have hg0 : S.getD 0 [] = List.range k := by rw [List.getD_eq_getElem?_getD, hp2]; rfl
  simp (maxSteps := 1000000) (disch := first | omega | (simp only [lenW] <;> omega)) only [vC, wordsN, Int.reduceGT, wordsR, ne_eq, words, Nat.reduceAdd, Nat.reduceEqDiff, Nat.reduceBEq, ↓reduceIte, reduceCtorEq, SX.exit.injEq, if_true, if_false, Int.reduceAdd, Int.reduceSub, Int.reduceMul, Int.reduceLT, Int.reduceLE, Int.reduceEq, Int.reduceNe, Int.reduceNeg, Int.reduceToNat, Nat.reduceMul, Nat.reduceLT, Nat.reduceSub, Nat.reduceLeDiff]
  refine wS_loopR 600 (fun j : Nat => [(0, .int .i64 K), (1, .int .i64 k), (2, .fn 60 [] [.ptr 21 0 0, .ptr 24 0 0, .ptr 20 0 0]), (6, .sl 150 0 0 k 1)])
    (fun j => vJ K R F g S j) (fun j => j < S.length) (fun j => S.length - j) 0 ?_ hS0 ?_
  · unfold vJ
    rw [hg0, List.take_zero, show foldV R F [] = F from rfl, Nat.sub_self, Nat.add_zero]
    exact ⟨[(20, .blk 20 0), (21, .blk 21 0), (22, .blk 22 0), (23, .blk 23 0), (24, .blk 24 0), (150, .blk 150 0)], rfl, (by repeat (first | exact RO.zero | exact RO.e | refine RO.set rfl ?_)), (by repeat' (first | exact RB.nil | (refine RnL.same ?_; first | rfl | (simp only [noRef, noRefs, noRefs_append, Bool.and_self, Bool.and_true, Bool.true_and, noRefs_flat10, noRefs_ints, noRefs_lsts, noRefs_pad, noRefs_tnC, noRefs_arcC, noRefs_rowF, noRefs_flowC]; done)) | exact RnM.keyM rfl | exact RnL.nil | refine RnL.cons ?_ ?_ | (refine Rn.same ?_; first | rfl | (simp only [noRef, noRefs, noRefs_append, Bool.and_self, Bool.and_true, Bool.true_and, noRefs_flat10, noRefs_ints, noRefs_lsts, noRefs_pad, noRefs_tnC, noRefs_arcC, noRefs_rowF, noRefs_flowC]; done)) | exact Rn.x1 rfl rfl | exact Rn.x2 rfl rfl | exact Rn.x3 rfl rfl | exact Rn.x4 rfl rfl | exact Rn.x5 rfl | exact Rn.x6 rfl | exact Rn.x7 rfl | refine RB.newnil rfl rfl ?_ | refine RB.cells rfl rfl rfl ?_ ?_ | refine RB.map rfl rfl rfl ?_ ?_ | refine RB.cellsB rfl rfl ?_ ?_ | refine RB.mapB rfl rfl ?_ ?_)), (by repeat (first | exact RT.nil | (refine RT.cons ?_ ?_; · (first | exact Rn.any | exact Rn.x1 rfl rfl | exact Rn.x2 rfl rfl | exact Rn.x3 rfl rfl | exact Rn.x4 rfl rfl | exact Rn.x5 rfl | exact Rn.x6 rfl | exact Rn.x7 rfl | (refine Rn.slot ?_ ?_; (first | rfl | (rw [Int.natCast_add]; rfl)); (first | rfl | (simp only [noRef, noRefs, noRefs_append, Bool.and_self, Bool.and_true, Bool.true_and, noRefs_flat10, noRefs_ints, noRefs_lsts, noRefs_pad, noRefs_tnC, noRefs_arcC, noRefs_rowF, noRefs_flowC]; done))) | (refine Rn.fn ?_ ?_ <;> (repeat' (first | exact RnL.nil | refine RnL.cons ?_ ?_ | exact Rn.same rfl | exact Rn.x6 rfl | exact Rn.x2 rfl rfl | exact Rn.x5 rfl | exact Rn.x1 rfl rfl)))))))⟩
  intro j hj
  have hJ : vJ K R F g S (j + 1) = vC K R (foldV R F (S.take (j + 1))) (g + ((foldV R F (S.take (j + 1))).length - F.length)) (ints (colI (S.getD (j + 1) []))) := rfl
  rw [show vJ K R F g S j = vC K R (foldV R F (S.take j)) (g + ((foldV R F (S.take j)).length - F.length)) (ints (colI (S.getD j []))) from rfl]
  have hsj : S[j]? = some (S.getD j []) := by rw [List.getD_eq_getElem?_getD, List.getElem?_eq_getElem hj]; rfl
  have hnx := hp4 j hj
  have hls := hp5 j hj
  obtain ⟨hl1, hl2⟩ := foldV_len R (S.take j) F
  have hft := foldV_take R F S hsj
  generalize S.getD j [] = s at *
  obtain ⟨hsl, hsc, hsp⟩ := hp1 s (List.mem_of_getElem? hsj)
  have hS16 : ∀ s ∈ S.take j, ∀ c ∈ s, c < 16 := fun t ht c hc => by have := (hp1 t (List.mem_of_mem_take ht)).2.1 c hc; omega
  have hsup := foldV_sup (R := R) (S.take j) F hS16 hFs
  have hlj : (S.take j).length ≤ 10 := by rw [List.length_take]; omega
  obtain ⟨v1, v2⟩ := visit_len R (foldV R F (S.take j)) s
  rw [← hft] at v1 v2
  generalize hFj : foldV R F (S.take j) = Fj at *
  have hvis := visit K R Fj (g + (Fj.length - F.length)) s (by omega) hR hRk hsc (by omega) (hKB s hsl) (by omega) hsup
  rw [hsl, ← hft] at hvis
  rw [show g + (Fj.length - F.length) + ((foldV R F (S.take (j + 1))).length - Fj.length) = g + ((foldV R F (S.take (j + 1))).length - F.length) by omega] at hvis
  simp (maxSteps := 1000000) (disch := first | omega | (simp only [lenW] <;> omega)) only [vC, hkK', wordsN, Int.reduceGT, wordsR, ne_eq, words, Nat.reduceAdd, Nat.reduceEqDiff, Nat.reduceBEq, ↓reduceIte, reduceCtorEq, SX.exit.injEq, if_true, if_false, Int.reduceAdd, Int.reduceSub, Int.reduceMul, Int.reduceLT, Int.reduceLE, Int.reduceEq, Int.reduceNe, Int.reduceNeg, Int.reduceToNat, Nat.reduceMul, Nat.reduceLT, Nat.reduceSub, Nat.reduceLeDiff]
  refine call_heap hvis ?_
  generalize hgG : g + ((foldV R F (S.take (j + 1))).length - F.length) = g' at *
  generalize hFG : foldV R F (S.take (j + 1)) = F' at *
  have hci : ints (colI s) = rowF k (fun p => (s.getD p 0 : Nat)) := by rw [ints_rowF, hsl]
  simp (maxSteps := 1000000) (disch := first | omega | (simp only [lenW] <;> omega)) only [vS, hci, wordsN, Int.reduceGT, wordsR, ne_eq, words, Nat.reduceAdd, Nat.reduceEqDiff, Nat.reduceBEq, ↓reduceIte, reduceCtorEq, SX.exit.injEq, if_true, if_false, Int.reduceAdd, Int.reduceSub, Int.reduceMul, Int.reduceLT, Int.reduceLE, Int.reduceEq, Int.reduceNe, Int.reduceNeg, Int.reduceToNat, Nat.reduceMul, Nat.reduceLT, Nat.reduceSub, Nat.reduceLeDiff]
  refine wS_loopX 700 (fun a : Nat => [(0, .int .i64 K), (1, .int .i64 k), (2, .fn 60 [] [.ptr 21 0 0, .ptr 24 0 0, .ptr 20 0 0]), (6, .sl 150 0 0 k 1), (8, .int .i64 ((a : Int) - 1))])
    (fun _ => vC K R F' g' (rowF k fun p => (s.getD p 0 : Nat))) (fun a => a ≤ k ∧ ∀ p, p < k → a ≤ p → s.getD p 0 = K - k + p) (fun a => a) k 4 800
    (fun i : Int => [(0, .int .i64 K), (1, .int .i64 k), (2, .fn 60 [] [.ptr 21 0 0, .ptr 24 0 0, .ptr 20 0 0]), (6, .sl 150 0 0 k 1), (8, .int .i64 i)])
    (fun _ => vC K R F' g' (rowF k fun p => (s.getD p 0 : Nat))) (fun i => (i = -1 ∧ ∀ p, p < k → s.getD p 0 = K - k + p) ∨ ∃ b : Nat, i = b ∧ b < k ∧ s.getD b 0 ≠ K - k + b ∧ ∀ p, p < k → b < p → s.getD p 0 = K - k + p)
    ⟨[(20, .blk 20 0), (21, .blk 21 0), (22, .blk 22 0), (23, .blk 23 0), (24, .blk 24 0), (150, .blk 150 0)], rfl, (by repeat (first | exact RO.zero | exact RO.e | refine RO.set rfl ?_)), (by repeat' (first | exact RB.nil | (refine RnL.same ?_; first | rfl | (simp only [noRef, noRefs, noRefs_append, Bool.and_self, Bool.and_true, Bool.true_and, noRefs_flat10, noRefs_ints, noRefs_lsts, noRefs_pad, noRefs_tnC, noRefs_arcC, noRefs_rowF, noRefs_flowC]; done)) | exact RnM.keyM rfl | exact RnL.nil | refine RnL.cons ?_ ?_ | (refine Rn.same ?_; first | rfl | (simp only [noRef, noRefs, noRefs_append, Bool.and_self, Bool.and_true, Bool.true_and, noRefs_flat10, noRefs_ints, noRefs_lsts, noRefs_pad, noRefs_tnC, noRefs_arcC, noRefs_rowF, noRefs_flowC]; done)) | exact Rn.x1 rfl rfl | exact Rn.x2 rfl rfl | exact Rn.x3 rfl rfl | exact Rn.x4 rfl rfl | exact Rn.x5 rfl | exact Rn.x6 rfl | exact Rn.x7 rfl | refine RB.newnil rfl rfl ?_ | refine RB.cells rfl rfl rfl ?_ ?_ | refine RB.map rfl rfl rfl ?_ ?_ | refine RB.cellsB rfl rfl ?_ ?_ | refine RB.mapB rfl rfl ?_ ?_)), (by repeat (first | exact RT.nil | (refine RT.cons ?_ ?_; · (first | exact Rn.any | exact Rn.x1 rfl rfl | exact Rn.x2 rfl rfl | exact Rn.x3 rfl rfl | exact Rn.x4 rfl rfl | exact Rn.x5 rfl | exact Rn.x6 rfl | exact Rn.x7 rfl | (refine Rn.slot ?_ ?_; (first | rfl | (rw [Int.natCast_add]; rfl)); (first | rfl | (simp only [noRef, noRefs, noRefs_append, Bool.and_self, Bool.and_true, Bool.true_and, noRefs_flat10, noRefs_ints, noRefs_lsts, noRefs_pad, noRefs_tnC, noRefs_arcC, noRefs_rowF, noRefs_flowC]; done))) | (refine Rn.fn ?_ ?_ <;> (repeat' (first | exact RnL.nil | refine RnL.cons ?_ ?_ | exact Rn.same rfl | exact Rn.x6 rfl | exact Rn.x2 rfl rfl | exact Rn.x5 rfl | exact Rn.x1 rfl rfl)))))))⟩ ⟨Nat.le_refl _, fun p h1 h2 => absurd h1 (by omega)⟩ ?_ ?_
  · rintro a ⟨ha, hall⟩
    cases a with
    | zero =>
      simp (maxSteps := 1000000) (disch := first | omega | (simp only [lenW] <;> omega)) only [vC, wordsN, Int.reduceGT, wordsR, ne_eq, words, Nat.reduceAdd, Nat.reduceEqDiff, Nat.reduceBEq, ↓reduceIte, reduceCtorEq, SX.exit.injEq, if_true, if_false, Int.reduceAdd, Int.reduceSub, Int.reduceMul, Int.reduceLT, Int.reduceLE, Int.reduceEq, Int.reduceNe, Int.reduceNeg, Int.reduceToNat, Nat.reduceMul, Nat.reduceLT, Nat.reduceSub, Nat.reduceLeDiff]
      refine ⟨-1, .inl ⟨rfl, fun p hp => hall p hp (Nat.zero_le _)⟩, ?_⟩
      exact ⟨[(20, .blk 20 0), (21, .blk 21 0), (22, .blk 22 0), (23, .blk 23 0), (24, .blk 24 0), (150, .blk 150 0)], rfl, (by repeat (first | exact RO.zero | exact RO.e | refine RO.set rfl ?_)), (by repeat' (first | exact RB.nil | (refine RnL.same ?_; first | rfl | (simp only [noRef, noRefs, noRefs_append, Bool.and_self, Bool.and_true, Bool.true_and, noRefs_flat10, noRefs_ints, noRefs_lsts, noRefs_pad, noRefs_tnC, noRefs_arcC, noRefs_rowF, noRefs_flowC]; done)) | exact RnM.keyM rfl | exact RnL.nil | refine RnL.cons ?_ ?_ | (refine Rn.same ?_; first | rfl | (simp only [noRef, noRefs, noRefs_append, Bool.and_self, Bool.and_true, Bool.true_and, noRefs_flat10, noRefs_ints, noRefs_lsts, noRefs_pad, noRefs_tnC, noRefs_arcC, noRefs_rowF, noRefs_flowC]; done)) | exact Rn.x1 rfl rfl | exact Rn.x2 rfl rfl | exact Rn.x3 rfl rfl | exact Rn.x4 rfl rfl | exact Rn.x5 rfl | exact Rn.x6 rfl | exact Rn.x7 rfl | refine RB.newnil rfl rfl ?_ | refine RB.cells rfl rfl rfl ?_ ?_ | refine RB.map rfl rfl rfl ?_ ?_ | refine RB.cellsB rfl rfl ?_ ?_ | refine RB.mapB rfl rfl ?_ ?_)), (by repeat (first | exact RT.nil | (refine RT.cons ?_ ?_; · (first | exact Rn.any | exact Rn.x1 rfl rfl | exact Rn.x2 rfl rfl | exact Rn.x3 rfl rfl | exact Rn.x4 rfl rfl | exact Rn.x5 rfl | exact Rn.x6 rfl | exact Rn.x7 rfl | (refine Rn.slot ?_ ?_; (first | rfl | (rw [Int.natCast_add]; rfl)); (first | rfl | (simp only [noRef, noRefs, noRefs_append, Bool.and_self, Bool.and_true, Bool.true_and, noRefs_flat10, noRefs_ints, noRefs_lsts, noRefs_pad, noRefs_tnC, noRefs_arcC, noRefs_rowF, noRefs_flowC]; done))) | (refine Rn.fn ?_ ?_ <;> (repeat' (first | exact RnL.nil | refine RnL.cons ?_ ?_ | exact Rn.same rfl | exact Rn.x6 rfl | exact Rn.x2 rfl rfl | exact Rn.x5 rfl | exact Rn.x1 rfl rfl)))))))⟩
    | succ b =>
      have hbk : b < k := by omega
      have hgb := rowF_get (n := k) (fun p => ((s.getD p 0 : Nat) : Int)) hbk
      by_cases hq : s.getD b 0 = K - k + b
      · have hq' : (((s.getD b 0 : Nat) : Int) = (K : Int) - k + b) = True := eq_true (by omega)
        simp (maxSteps := 1000000) (disch := first | omega | (simp only [lenW] <;> omega)) only [vC, Int.add_sub_cancel, hbk, hgb, hq', wordsN, Int.reduceGT, wordsR, ne_eq, words, Nat.reduceAdd, Nat.reduceEqDiff, Nat.reduceBEq, ↓reduceIte, reduceCtorEq, SX.exit.injEq, if_true, if_false, Int.reduceAdd, Int.reduceSub, Int.reduceMul, Int.reduceLT, Int.reduceLE, Int.reduceEq, Int.reduceNe, Int.reduceNeg, Int.reduceToNat, Nat.reduceMul, Nat.reduceLT, Nat.reduceSub, Nat.reduceLeDiff]
        refine ⟨b, by omega, ⟨by omega, fun p hp hbp => ?_⟩, ?_⟩
        · by_cases e : p = b
          · subst e; exact hq
          · exact hall p hp (by omega)
        · exact ⟨[(20, .blk 20 0), (21, .blk 21 0), (22, .blk 22 0), (23, .blk 23 0), (24, .blk 24 0), (150, .blk 150 0)], rfl, (by repeat (first | exact RO.zero | exact RO.e | refine RO.set rfl ?_)), (by repeat' (first | exact RB.nil | (refine RnL.same ?_; first | rfl | (simp only [noRef, noRefs, noRefs_append, Bool.and_self, Bool.and_true, Bool.true_and, noRefs_flat10, noRefs_ints, noRefs_lsts, noRefs_pad, noRefs_tnC, noRefs_arcC, noRefs_rowF, noRefs_flowC]; done)) | exact RnM.keyM rfl | exact RnL.nil | refine RnL.cons ?_ ?_ | (refine Rn.same ?_; first | rfl | (simp only [noRef, noRefs, noRefs_append, Bool.and_self, Bool.and_true, Bool.true_and, noRefs_flat10, noRefs_ints, noRefs_lsts, noRefs_pad, noRefs_tnC, noRefs_arcC, noRefs_rowF, noRefs_flowC]; done)) | exact Rn.x1 rfl rfl | exact Rn.x2 rfl rfl | exact Rn.x3 rfl rfl | exact Rn.x4 rfl rfl | exact Rn.x5 rfl | exact Rn.x6 rfl | exact Rn.x7 rfl | refine RB.newnil rfl rfl ?_ | refine RB.cells rfl rfl rfl ?_ ?_ | refine RB.map rfl rfl rfl ?_ ?_ | refine RB.cellsB rfl rfl ?_ ?_ | refine RB.mapB rfl rfl ?_ ?_)), (by repeat (first | exact RT.nil | (refine RT.cons ?_ ?_; · (first | exact Rn.any | exact Rn.x1 rfl rfl | exact Rn.x2 rfl rfl | exact Rn.x3 rfl rfl | exact Rn.x4 rfl rfl | exact Rn.x5 rfl | exact Rn.x6 rfl | exact Rn.x7 rfl | (refine Rn.slot ?_ ?_; (first | rfl | (rw [Int.natCast_add]; rfl)); (first | rfl | (simp only [noRef, noRefs, noRefs_append, Bool.and_self, Bool.and_true, Bool.true_and, noRefs_flat10, noRefs_ints, noRefs_lsts, noRefs_pad, noRefs_tnC, noRefs_arcC, noRefs_rowF, noRefs_flowC]; done))) | (refine Rn.fn ?_ ?_ <;> (repeat' (first | exact RnL.nil | refine RnL.cons ?_ ?_ | exact Rn.same rfl | exact Rn.x6 rfl | exact Rn.x2 rfl rfl | exact Rn.x5 rfl | exact Rn.x1 rfl rfl)))))))⟩
      · have hq' : (((s.getD b 0 : Nat) : Int) = (K : Int) - k + b) = False := eq_false (by omega)
        simp (maxSteps := 1000000) (disch := first | omega | (simp only [lenW] <;> omega)) only [vC, Int.add_sub_cancel, hbk, hgb, hq', wordsN, Int.reduceGT, wordsR, ne_eq, words, Nat.reduceAdd, Nat.reduceEqDiff, Nat.reduceBEq, ↓reduceIte, reduceCtorEq, SX.exit.injEq, if_true, if_false, Int.reduceAdd, Int.reduceSub, Int.reduceMul, Int.reduceLT, Int.reduceLE, Int.reduceEq, Int.reduceNe, Int.reduceNeg, Int.reduceToNat, Nat.reduceMul, Nat.reduceLT, Nat.reduceSub, Nat.reduceLeDiff]
        refine ⟨b, .inr ⟨b, rfl, hbk, hq, fun p hp hbp => hall p hp (by omega)⟩, ?_⟩
        exact ⟨[(20, .blk 20 0), (21, .blk 21 0), (22, .blk 22 0), (23, .blk 23 0), (24, .blk 24 0), (150, .blk 150 0)], rfl, (by repeat (first | exact RO.zero | exact RO.e | refine RO.set rfl ?_)), (by repeat' (first | exact RB.nil | (refine RnL.same ?_; first | rfl | (simp only [noRef, noRefs, noRefs_append, Bool.and_self, Bool.and_true, Bool.true_and, noRefs_flat10, noRefs_ints, noRefs_lsts, noRefs_pad, noRefs_tnC, noRefs_arcC, noRefs_rowF, noRefs_flowC]; done)) | exact RnM.keyM rfl | exact RnL.nil | refine RnL.cons ?_ ?_ | (refine Rn.same ?_; first | rfl | (simp only [noRef, noRefs, noRefs_append, Bool.and_self, Bool.and_true, Bool.true_and, noRefs_flat10, noRefs_ints, noRefs_lsts, noRefs_pad, noRefs_tnC, noRefs_arcC, noRefs_rowF, noRefs_flowC]; done)) | exact Rn.x1 rfl rfl | exact Rn.x2 rfl rfl | exact Rn.x3 rfl rfl | exact Rn.x4 rfl rfl | exact Rn.x5 rfl | exact Rn.x6 rfl | exact Rn.x7 rfl | refine RB.newnil rfl rfl ?_ | refine RB.cells rfl rfl rfl ?_ ?_ | refine RB.map rfl rfl rfl ?_ ?_ | refine RB.cellsB rfl rfl ?_ ?_ | refine RB.mapB rfl rfl ?_ ?_)), (by repeat (first | exact RT.nil | (refine RT.cons ?_ ?_; · (first | exact Rn.any | exact Rn.x1 rfl rfl | exact Rn.x2 rfl rfl | exact Rn.x3 rfl rfl | exact Rn.x4 rfl rfl | exact Rn.x5 rfl | exact Rn.x6 rfl | exact Rn.x7 rfl | (refine Rn.slot ?_ ?_; (first | rfl | (rw [Int.natCast_add]; rfl)); (first | rfl | (simp only [noRef, noRefs, noRefs_append, Bool.and_self, Bool.and_true, Bool.true_and, noRefs_flat10, noRefs_ints, noRefs_lsts, noRefs_pad, noRefs_tnC, noRefs_arcC, noRefs_rowF, noRefs_flowC]; done))) | (refine Rn.fn ?_ ?_ <;> (repeat' (first | exact RnL.nil | refine RnL.cons ?_ ?_ | exact Rn.same rfl | exact Rn.x6 rfl | exact Rn.x2 rfl rfl | exact Rn.x5 rfl | exact Rn.x1 rfl rfl)))))))⟩
  rintro i (⟨rfl, hall⟩ | ⟨b, rfl, hbk, hq, hall⟩)
  · have hje := hls hall
    have hfS : F' = foldV R F S := by rw [← hFG, hje, List.take_length]
    simp (maxSteps := 1000000) (disch := first | omega | (simp only [lenW] <;> omega)) only [vC, wordsN, Int.reduceGT, wordsR, ne_eq, words, Nat.reduceAdd, Nat.reduceEqDiff, Nat.reduceBEq, ↓reduceIte, reduceCtorEq, SX.exit.injEq, if_true, if_false, Int.reduceAdd, Int.reduceSub, Int.reduceMul, Int.reduceLT, Int.reduceLE, Int.reduceEq, Int.reduceNe, Int.reduceNeg, Int.reduceToNat, Nat.reduceMul, Nat.reduceLT, Nat.reduceSub, Nat.reduceLeDiff]
    refine ⟨.inr trivial, _, rfl, rfl, ?_⟩
    rw [← hL, ← hfS, show g + (F'.length - F.length) = g' by rw [← hgG]]
    unfold vH
    exact ⟨[(20, .blk 20 0), (21, .blk 21 0), (22, .blk 22 0), (23, .blk 23 0), (24, .blk 24 0)], rfl, (by repeat (first | exact RO.zero | exact RO.e | refine RO.set rfl ?_)), (by repeat' (first | exact RB.nil | (refine RnL.same ?_; first | rfl | (simp only [noRef, noRefs, noRefs_append, Bool.and_self, Bool.and_true, Bool.true_and, noRefs_flat10, noRefs_ints, noRefs_lsts, noRefs_pad, noRefs_tnC, noRefs_arcC, noRefs_rowF, noRefs_flowC]; done)) | exact RnM.keyM rfl | exact RnL.nil | refine RnL.cons ?_ ?_ | (refine Rn.same ?_; first | rfl | (simp only [noRef, noRefs, noRefs_append, Bool.and_self, Bool.and_true, Bool.true_and, noRefs_flat10, noRefs_ints, noRefs_lsts, noRefs_pad, noRefs_tnC, noRefs_arcC, noRefs_rowF, noRefs_flowC]; done)) | exact Rn.x1 rfl rfl | exact Rn.x2 rfl rfl | exact Rn.x3 rfl rfl | exact Rn.x4 rfl rfl | exact Rn.x5 rfl | exact Rn.x6 rfl | exact Rn.x7 rfl | refine RB.newnil rfl rfl ?_ | refine RB.cells rfl rfl rfl ?_ ?_ | refine RB.map rfl rfl rfl ?_ ?_ | refine RB.cellsB rfl rfl ?_ ?_ | refine RB.mapB rfl rfl ?_ ?_)), (by repeat (first | exact RT.nil | (refine RT.cons ?_ ?_; · (first | exact Rn.any | exact Rn.x1 rfl rfl | exact Rn.x2 rfl rfl | exact Rn.x3 rfl rfl | exact Rn.x4 rfl rfl | exact Rn.x5 rfl | exact Rn.x6 rfl | exact Rn.x7 rfl | (refine Rn.slot ?_ ?_; (first | rfl | (rw [Int.natCast_add]; rfl)); (first | rfl | (simp only [noRef, noRefs, noRefs_append, Bool.and_self, Bool.and_true, Bool.true_and, noRefs_flat10, noRefs_ints, noRefs_lsts, noRefs_pad, noRefs_tnC, noRefs_arcC, noRefs_rowF, noRefs_flowC]; done))) | (refine Rn.fn ?_ ?_ <;> (repeat' (first | exact RnL.nil | refine RnL.cons ?_ ?_ | exact Rn.same rfl | exact Rn.x6 rfl | exact Rn.x2 rfl rfl | exact Rn.x5 rfl | exact Rn.x1 rfl rfl)))))))⟩
  have hb0 : ¬ ((b : Nat) : Int) < 0 := by omega
  have hgb := rowF_get (n := k) (fun p => ((s.getD p 0 : Nat) : Int)) hbk
  have hset : ∀ v, (rowF k fun p => ((s.getD p 0 : Nat) : Int)).set b (.int .i64 v) = rowF k (fun p => if p = b then v else ((s.getD p 0 : Nat) : Int)) := fun v => rowF_set _ v
  have hle : b + 1 ≤ k := by omega
  have hsb : s.getD b 0 < 6 := by
    rw [List.getD_eq_getElem?_getD]
    cases hx : s[b]? with
    | none => simp
    | some x => have := hsc x (List.mem_of_getElem? hx); simp; omega
  simp (maxSteps := 1000000) (disch := first | omega | (simp only [lenW] <;> omega)) only [vC, hb0, hgb, hbk, hset, rowF_len, hle, wordsN, Int.reduceGT, wordsR, ne_eq, words, Nat.reduceAdd, Nat.reduceEqDiff, Nat.reduceBEq, ↓reduceIte, reduceCtorEq, SX.exit.injEq, if_true, if_false, Int.reduceAdd, Int.reduceSub, Int.reduceMul, Int.reduceLT, Int.reduceLE, Int.reduceEq, Int.reduceNe, Int.reduceNeg, Int.reduceToNat, Nat.reduceMul, Nat.reduceLT, Nat.reduceSub, Nat.reduceLeDiff]
  have hnb := hnx b hbk hq fun p hp hb => hall p hp hb
  generalize hs0 : s.getD b 0 = s0 at *
  refine wS_loopR 900 (fun d : Nat => [(0, .int .i64 K), (1, .int .i64 k), (2, .fn 60 [] [.ptr 21 0 0, .ptr 24 0 0, .ptr 20 0 0]), (6, .sl 150 0 0 k 1), (9, .int .i64 ((d : Int) + 1))])
    (fun d => vC K R F' g' (rowF k fun p => if p < b then ((s.getD p 0 : Nat) : Int) else if p < d + 1 then (s0 : Int) + 1 + ((p : Int) - b) else ((s.getD p 0 : Nat) : Int))) (fun d => b ≤ d ∧ d + 1 ≤ k) (fun d => k - d) b ?_ ⟨Nat.le_refl _, by omega⟩ ?_
  · refine ⟨[(20, .blk 20 0), (21, .blk 21 0), (22, .blk 22 0), (23, .blk 23 0), (24, .blk 24 0), (150, .blk 150 0)], rfl, (by repeat (first | exact RO.zero | exact RO.e | refine RO.set rfl ?_)), ?_, (by repeat (first | exact RT.nil | (refine RT.cons ?_ ?_; · (first | exact Rn.any | exact Rn.x1 rfl rfl | exact Rn.x2 rfl rfl | exact Rn.x3 rfl rfl | exact Rn.x4 rfl rfl | exact Rn.x5 rfl | exact Rn.x6 rfl | exact Rn.x7 rfl | (refine Rn.slot ?_ ?_; (first | rfl | (rw [Int.natCast_add]; rfl)); (first | rfl | (simp only [noRef, noRefs, noRefs_append, Bool.and_self, Bool.and_true, Bool.true_and, noRefs_flat10, noRefs_ints, noRefs_lsts, noRefs_pad, noRefs_tnC, noRefs_arcC, noRefs_rowF, noRefs_flowC]; done))) | (refine Rn.fn ?_ ?_ <;> (repeat' (first | exact RnL.nil | refine RnL.cons ?_ ?_ | exact Rn.same rfl | exact Rn.x6 rfl | exact Rn.x2 rfl rfl | exact Rn.x5 rfl | exact Rn.x1 rfl rfl)))))))⟩
    refine RB.cellsB rfl rfl ?_ (RB.cellsB rfl rfl ?_ (RB.mapB rfl rfl ?_ (RB.cellsB rfl rfl ?_ (RB.cellsB rfl rfl ?_ (RB.cells rfl rfl rfl (RnL.eq (rowF_congr fun p _ => ?_) (noRefs_rowF _ _)) RB.nil)))))
    rotate_right 1
    · by_cases e : p = b
      · subst e; simp
      · have : (p < b + 1) ↔ (p < b) := by omega
        simp only [this, e, if_false]
        split <;> rfl
    all_goals repeat' (first | exact RB.nil | (refine RnL.same ?_; first | rfl | (simp only [noRef, noRefs, noRefs_append, Bool.and_self, Bool.and_true, Bool.true_and, noRefs_flat10, noRefs_ints, noRefs_lsts, noRefs_pad, noRefs_tnC, noRefs_arcC, noRefs_rowF, noRefs_flowC]; done)) | exact RnM.keyM rfl | exact RnL.nil | refine RnL.cons ?_ ?_ | (refine Rn.same ?_; first | rfl | (simp only [noRef, noRefs, noRefs_append, Bool.and_self, Bool.and_true, Bool.true_and, noRefs_flat10, noRefs_ints, noRefs_lsts, noRefs_pad, noRefs_tnC, noRefs_arcC, noRefs_rowF, noRefs_flowC]; done)) | exact Rn.x1 rfl rfl | exact Rn.x2 rfl rfl | exact Rn.x3 rfl rfl | exact Rn.x4 rfl rfl | exact Rn.x5 rfl | exact Rn.x6 rfl | exact Rn.x7 rfl | refine RB.newnil rfl rfl ?_ | refine RB.cells rfl rfl rfl ?_ ?_ | refine RB.map rfl rfl rfl ?_ ?_ | refine RB.cellsB rfl rfl ?_ ?_ | refine RB.mapB rfl rfl ?_ ?_)
  rintro d ⟨hbd, hdk⟩
  by_cases hlt : d + 1 < k
  · have hlt' : (d : Int) + 1 < k := by omega
    have hdk2 : d < k := by omega
    have hle2 : d + 1 + 1 ≤ k := by omega
    have hd0 : ¬ d < b := by omega
    have hgd := rowF_get (n := k) (fun p => if p < b then ((s.getD p 0 : Nat) : Int) else if p < d + 1 then (s0 : Int) + 1 + ((p : Int) - b) else ((s.getD p 0 : Nat) : Int)) hdk2
    rw [if_neg hd0, if_pos (Nat.lt_succ_self d)] at hgd
    have hset2 : ∀ v, (rowF k fun p => if p < b then ((s.getD p 0 : Nat) : Int) else if p < d + 1 then (s0 : Int) + 1 + ((p : Int) - b) else ((s.getD p 0 : Nat) : Int)).set (d + 1) (.int .i64 v) =
      rowF k (fun p => if p = d + 1 then v else if p < b then ((s.getD p 0 : Nat) : Int) else if p < d + 1 then (s0 : Int) + 1 + ((p : Int) - b) else ((s.getD p 0 : Nat) : Int)) := fun v => rowF_set _ v
    have htn : ((d : Int) + 1).toNat = d + 1 := by omega
    simp (maxSteps := 1000000) (disch := first | omega | (simp only [lenW] <;> omega)) only [vC, hlt', Int.add_sub_cancel, hdk2, hgd, htn, hset2, rowF_len, hle2, wordsN, Int.reduceGT, wordsR, ne_eq, words, Nat.reduceAdd, Nat.reduceEqDiff, Nat.reduceBEq, ↓reduceIte, reduceCtorEq, SX.exit.injEq, if_true, if_false, Int.reduceAdd, Int.reduceSub, Int.reduceMul, Int.reduceLT, Int.reduceLE, Int.reduceEq, Int.reduceNe, Int.reduceNeg, Int.reduceToNat, Nat.reduceMul, Nat.reduceLT, Nat.reduceSub, Nat.reduceLeDiff]
    refine ⟨d + 1, by omega, ⟨by omega, by omega⟩, ?_⟩
    refine ⟨[(20, .blk 20 0), (21, .blk 21 0), (22, .blk 22 0), (23, .blk 23 0), (24, .blk 24 0), (150, .blk 150 0)], rfl, (by repeat (first | exact RO.zero | exact RO.e | refine RO.set rfl ?_)), ?_, (by repeat (first | exact RT.nil | (refine RT.cons ?_ ?_; · (first | exact Rn.any | exact Rn.x1 rfl rfl | exact Rn.x2 rfl rfl | exact Rn.x3 rfl rfl | exact Rn.x4 rfl rfl | exact Rn.x5 rfl | exact Rn.x6 rfl | exact Rn.x7 rfl | (refine Rn.slot ?_ ?_; (first | rfl | (rw [Int.natCast_add]; rfl)); (first | rfl | (simp only [noRef, noRefs, noRefs_append, Bool.and_self, Bool.and_true, Bool.true_and, noRefs_flat10, noRefs_ints, noRefs_lsts, noRefs_pad, noRefs_tnC, noRefs_arcC, noRefs_rowF, noRefs_flowC]; done))) | (refine Rn.fn ?_ ?_ <;> (repeat' (first | exact RnL.nil | refine RnL.cons ?_ ?_ | exact Rn.same rfl | exact Rn.x6 rfl | exact Rn.x2 rfl rfl | exact Rn.x5 rfl | exact Rn.x1 rfl rfl)))))))⟩
    refine RB.cellsB rfl rfl ?_ (RB.cellsB rfl rfl ?_ (RB.mapB rfl rfl ?_ (RB.cellsB rfl rfl ?_ (RB.cellsB rfl rfl ?_ (RB.cells rfl rfl rfl (RnL.eq (rowF_congr fun p hp => ?_) (noRefs_rowF _ _)) RB.nil)))))
    rotate_right 1
    · by_cases e : p = d + 1
      · subst e
        rw [if_neg (by omega), if_pos (by omega), if_pos rfl]; omega
      · have : (p < d + 1 + 1) ↔ (p < d + 1) := by omega
        simp only [this, e, if_false]
    all_goals repeat' (first | exact RB.nil | (refine RnL.same ?_; first | rfl | (simp only [noRef, noRefs, noRefs_append, Bool.and_self, Bool.and_true, Bool.true_and, noRefs_flat10, noRefs_ints, noRefs_lsts, noRefs_pad, noRefs_tnC, noRefs_arcC, noRefs_rowF, noRefs_flowC]; done)) | exact RnM.keyM rfl | exact RnL.nil | refine RnL.cons ?_ ?_ | (refine Rn.same ?_; first | rfl | (simp only [noRef, noRefs, noRefs_append, Bool.and_self, Bool.and_true, Bool.true_and, noRefs_flat10, noRefs_ints, noRefs_lsts, noRefs_pad, noRefs_tnC, noRefs_arcC, noRefs_rowF, noRefs_flowC]; done)) | exact Rn.x1 rfl rfl | exact Rn.x2 rfl rfl | exact Rn.x3 rfl rfl | exact Rn.x4 rfl rfl | exact Rn.x5 rfl | exact Rn.x6 rfl | exact Rn.x7 rfl | refine RB.newnil rfl rfl ?_ | refine RB.cells rfl rfl rfl ?_ ?_ | refine RB.map rfl rfl rfl ?_ ?_ | refine RB.cellsB rfl rfl ?_ ?_ | refine RB.mapB rfl rfl ?_ ?_)
  · have e : d + 1 = k := by omega
    have hlt' : ¬ (d : Int) + 1 < k := by omega
    simp (maxSteps := 1000000) (disch := first | omega | (simp only [lenW] <;> omega)) only [vC, hlt', wordsN, Int.reduceGT, wordsR, ne_eq, words, Nat.reduceAdd, Nat.reduceEqDiff, Nat.reduceBEq, ↓reduceIte, reduceCtorEq, SX.exit.injEq, if_true, if_false, Int.reduceAdd, Int.reduceSub, Int.reduceMul, Int.reduceLT, Int.reduceLE, Int.reduceEq, Int.reduceNe, Int.reduceNeg, Int.reduceToNat, Nat.reduceMul, Nat.reduceLT, Nat.reduceSub, Nat.reduceLeDiff]
    have hj1 : j + 1 < S.length := (List.getElem?_eq_some_iff.1 hnb).1
    refine ⟨j + 1, by omega, hj1, ?_⟩
    rw [hJ, show S.getD (j + 1) [] = nxt s b by rw [List.getD_eq_getElem?_getD, hnb]; rfl, ints_rowF, show (nxt s b).length = k by simp [nxt, hsl]]
    unfold vC
    refine ⟨[(20, .blk 20 0), (21, .blk 21 0), (22, .blk 22 0), (23, .blk 23 0), (24, .blk 24 0), (150, .blk 150 0)], rfl, (by repeat (first | exact RO.zero | exact RO.e | refine RO.set rfl ?_)), ?_, (by repeat (first | exact RT.nil | (refine RT.cons ?_ ?_; · (first | exact Rn.any | exact Rn.x1 rfl rfl | exact Rn.x2 rfl rfl | exact Rn.x3 rfl rfl | exact Rn.x4 rfl rfl | exact Rn.x5 rfl | exact Rn.x6 rfl | exact Rn.x7 rfl | (refine Rn.slot ?_ ?_; (first | rfl | (rw [Int.natCast_add]; rfl)); (first | rfl | (simp only [noRef, noRefs, noRefs_append, Bool.and_self, Bool.and_true, Bool.true_and, noRefs_flat10, noRefs_ints, noRefs_lsts, noRefs_pad, noRefs_tnC, noRefs_arcC, noRefs_rowF, noRefs_flowC]; done))) | (refine Rn.fn ?_ ?_ <;> (repeat' (first | exact RnL.nil | refine RnL.cons ?_ ?_ | exact Rn.same rfl | exact Rn.x6 rfl | exact Rn.x2 rfl rfl | exact Rn.x5 rfl | exact Rn.x1 rfl rfl)))))))⟩
    refine RB.cellsB rfl rfl ?_ (RB.cellsB rfl rfl ?_ (RB.mapB rfl rfl ?_ (RB.cellsB rfl rfl ?_ (RB.cellsB rfl rfl ?_ (RB.cells rfl rfl rfl (RnL.eq (rowF_congr fun p hp => ?_) (noRefs_rowF _ _)) RB.nil)))))
    rotate_right 1
    · have hpr : (List.range s.length)[p]? = some p := List.getElem?_range (by omega)
      have hv : (nxt s b).getD p 0 = if p < b then s.getD p 0 else s.getD b 0 + 1 + (p - b) := by
        unfold nxt
        rw [List.getD_eq_getElem?_getD, List.getElem?_map, hpr]; rfl
      rw [hv, hs0]
      by_cases h1 : p < b
      · rw [if_pos h1, if_pos h1]
      · rw [if_neg h1, if_neg h1, if_pos (by omega)]; omega
    all_goals repeat' (first | exact RB.nil | (refine RnL.same ?_; first | rfl | (simp only [noRef, noRefs, noRefs_append, Bool.and_self, Bool.and_true, Bool.true_and, noRefs_flat10, noRefs_ints, noRefs_lsts, noRefs_pad, noRefs_tnC, noRefs_arcC, noRefs_rowF, noRefs_flowC]; done)) | exact RnM.keyM rfl | exact RnL.nil | refine RnL.cons ?_ ?_ | (refine Rn.same ?_; first | rfl | (simp only [noRef, noRefs, noRefs_append, Bool.and_self, Bool.and_true, Bool.true_and, noRefs_flat10, noRefs_ints, noRefs_lsts, noRefs_pad, noRefs_tnC, noRefs_arcC, noRefs_rowF, noRefs_flowC]; done)) | exact Rn.x1 rfl rfl | exact Rn.x2 rfl rfl | exact Rn.x3 rfl rfl | exact Rn.x4 rfl rfl | exact Rn.x5 rfl | exact Rn.x6 rfl | exact Rn.x7 rfl | refine RB.newnil rfl rfl ?_ | refine RB.cells rfl rfl rfl ?_ ?_ | refine RB.map rfl rfl rfl ?_ ?_ | refine RB.cellsB rfl rfl ?_ ?_ | refine RB.mapB rfl rfl ?_ ?_)
end Go.AM.SN
namespace Go.AM.SN
open Go.Proofs Go.AM.SK
set_option maxRecDepth 100000
set_option linter.unusedSimpArgs false
set_option linter.unusedVariables false
def minF (R : List (List Int)) (K : Nat) : Nat → List Flow
  | 0 => []
  | m + 1 => foldV R (minF R K m) (setsF (m + 1) K 0)
theorem minF_len (R : List (List Int)) {K : Nat} (hK : K < 6) : ∀ m, m < 6 → (minF R K m).length ≤ 10 * m
  | 0, _ => by simp [minF]
  | m + 1, hm => by
    have h1 := minF_len R hK m (by omega)
    have h2 := (foldV_len R (setsF (m + 1) K 0) (minF R K m)).2
    have h3 := sets_small K hK (m + 1) hm
    unfold minF; omega
theorem minF_sup (R : List (List Int)) {K : Nat} (hK : K < 6) : ∀ m, m < 6 → ∀ f ∈ minF R K m, f.1 < 65536
  | 0, _ => by simp [minF]
  | m + 1, hm => foldV_sup _ _ (fun s hs c hc => by have := (sets_props K hK (m + 1) hm s hs).2.1 c hc; omega) (minF_sup R hK m (by omega))
abbrev flowsV (F : List Flow) : AV := .fsl (flowC F) F.length 11
theorem noRef_flows (F : List Flow) : noRef (flowsV F) = true := by simp only [noRef]; exact noRefs_flowC F
set_option maxHeartbeats 8000000 in
theorem minimalP (K : Nat) (R : List (List Int)) (hK : K ≤ 5) (hR : R.length ≤ 100) (hRk : ∀ r ∈ R, r.length = K) (hRb : ∀ r ∈ R, ∀ x ∈ r, -8 ≤ x ∧ x ≤ 8) :
    PSpec Try.prog 41 [tabV K R] (flowsV (minF R K K)) := by
  refine PSpec.of_rn 64 SM.ok41 rfl (by (try simp only [noRefs, noRef_net, noRef_sli, noRef_lsts, noRef_arcs, noRef_tns, noRef_tab]) <;> rfl) (noRef_flows _) ?_
  simp (maxSteps := 1000000) (disch := first | omega | (simp only [lenW] <;> omega)) only [SM.s41, aMakeMap_new, wordsM, wordsN, Int.reduceGT, wordsR, ne_eq, words, Nat.reduceAdd, Nat.reduceEqDiff, Nat.reduceBEq, ↓reduceIte, reduceCtorEq, SX.exit.injEq, if_true, if_false, Int.reduceAdd, Int.reduceSub, Int.reduceMul, Int.reduceLT, Int.reduceLE, Int.reduceEq, Int.reduceNe, Int.reduceNeg, Int.reduceToNat, Nat.reduceMul, Nat.reduceLT, Nat.reduceSub, Nat.reduceLeDiff]
  refine wS_loopR 100 (fun a : Nat => [(1, .ptr 24 0 0), (3, .ptr 20 0 0), (4, .ptr 21 0 0), (5, .int .i64 ((a : Int) + 1))])
    (fun a => vH K R (minF R K a) 0) (fun a => a ≤ K) (fun a => K - a) 0 ?_ (Nat.zero_le _) ?_
  · exact ⟨[(20, .blk 66 0), (21, .blk 68 0), (22, .blk 67 0), (23, .nil), (24, .blk 64 0)], rfl, (by repeat (first | exact RO.zero | exact RO.e | refine RO.set rfl ?_)), (by repeat' (first | exact RB.nil | (refine RnL.same ?_; first | rfl | (simp only [noRef, noRefs, noRefs_append, Bool.and_self, Bool.and_true, Bool.true_and, noRefs_flat10, noRefs_ints, noRefs_lsts, noRefs_pad, noRefs_tnC, noRefs_arcC, noRefs_rowF, noRefs_flowC]; done)) | exact RnM.keyM rfl | exact RnL.nil | refine RnL.cons ?_ ?_ | (refine Rn.same ?_; first | rfl | (simp only [noRef, noRefs, noRefs_append, Bool.and_self, Bool.and_true, Bool.true_and, noRefs_flat10, noRefs_ints, noRefs_lsts, noRefs_pad, noRefs_tnC, noRefs_arcC, noRefs_rowF, noRefs_flowC]; done)) | exact Rn.x1 rfl rfl | exact Rn.x2 rfl rfl | exact Rn.x3 rfl rfl | exact Rn.x4 rfl rfl | exact Rn.x5 rfl | exact Rn.x6 rfl | exact Rn.x7 rfl | refine RB.newnil rfl rfl ?_ | refine RB.cells rfl rfl rfl ?_ ?_ | refine RB.map rfl rfl rfl ?_ ?_ | refine RB.cellsB rfl rfl ?_ ?_ | refine RB.mapB rfl rfl ?_ ?_)), (by repeat (first | exact RT.nil | (refine RT.cons ?_ ?_; · (first | exact Rn.any | exact Rn.x1 rfl rfl | exact Rn.x2 rfl rfl | exact Rn.x3 rfl rfl | exact Rn.x4 rfl rfl | exact Rn.x5 rfl | exact Rn.x6 rfl | exact Rn.x7 rfl | (refine Rn.slot ?_ ?_; (first | rfl | (rw [Int.natCast_add]; rfl)); (first | rfl | (simp only [noRef, noRefs, noRefs_append, Bool.and_self, Bool.and_true, Bool.true_and, noRefs_flat10, noRefs_ints, noRefs_lsts, noRefs_pad, noRefs_tnC, noRefs_arcC, noRefs_rowF, noRefs_flowC]; done))) | (refine Rn.fn ?_ ?_ <;> (repeat' (first | exact RnL.nil | refine RnL.cons ?_ ?_ | exact Rn.same rfl | exact Rn.x6 rfl | exact Rn.x2 rfl rfl | exact Rn.x5 rfl | exact Rn.x1 rfl rfl)))))))⟩
  intro a ha
  have hl := minF_len R (K := K) (by omega) a (by omega)
  have hs := minF_sup R (K := K) (by omega) a (by omega)
  by_cases hlt : a + 1 ≤ K
  · have hlt' : (a : Int) + 1 ≤ K := by omega
    have hch := choose K R (minF R K a) 0 (a + 1) hK hR hRk hRb (by omega) hlt (by omega) hs
    generalize hg : 0 + ((foldV R (minF R K a) (setsF (a + 1) K 0)).length - (minF R K a).length) = gg at hch
    have hF : minF R K (a + 1) = foldV R (minF R K a) (setsF (a + 1) K 0) := rfl
    rw [← hF] at hch
    simp (maxSteps := 1000000) (disch := first | omega | (simp only [lenW] <;> omega)) only [vH, hlt', wordsN, Int.reduceGT, wordsR, ne_eq, words, Nat.reduceAdd, Nat.reduceEqDiff, Nat.reduceBEq, ↓reduceIte, reduceCtorEq, SX.exit.injEq, if_true, if_false, Int.reduceAdd, Int.reduceSub, Int.reduceMul, Int.reduceLT, Int.reduceLE, Int.reduceEq, Int.reduceNe, Int.reduceNeg, Int.reduceToNat, Nat.reduceMul, Nat.reduceLT, Nat.reduceSub, Nat.reduceLeDiff]
    refine ch hch ?_
    generalize hF' : minF R K (a + 1) = F' at *
    simp (maxSteps := 1000000) (disch := first | omega | (simp only [lenW] <;> omega)) only [vH, wordsN, Int.reduceGT, wordsR, ne_eq, words, Nat.reduceAdd, Nat.reduceEqDiff, Nat.reduceBEq, ↓reduceIte, reduceCtorEq, SX.exit.injEq, if_true, if_false, Int.reduceAdd, Int.reduceSub, Int.reduceMul, Int.reduceLT, Int.reduceLE, Int.reduceEq, Int.reduceNe, Int.reduceNeg, Int.reduceToNat, Nat.reduceMul, Nat.reduceLT, Nat.reduceSub, Nat.reduceLeDiff]
    refine ⟨a + 1, by omega, hlt, ?_⟩
    rw [hF']
    exact ⟨[(20, .blk 20 0), (21, .blk 21 0), (22, .blk 22 0), (23, .blk 23 gg), (24, .blk 24 0)], rfl, (by repeat (first | exact RO.zero | exact RO.e | refine RO.set rfl ?_)), (by repeat' (first | exact RB.nil | (refine RnL.same ?_; first | rfl | (simp only [noRef, noRefs, noRefs_append, Bool.and_self, Bool.and_true, Bool.true_and, noRefs_flat10, noRefs_ints, noRefs_lsts, noRefs_pad, noRefs_tnC, noRefs_arcC, noRefs_rowF, noRefs_flowC]; done)) | exact RnM.keyM rfl | exact RnL.nil | refine RnL.cons ?_ ?_ | (refine Rn.same ?_; first | rfl | (simp only [noRef, noRefs, noRefs_append, Bool.and_self, Bool.and_true, Bool.true_and, noRefs_flat10, noRefs_ints, noRefs_lsts, noRefs_pad, noRefs_tnC, noRefs_arcC, noRefs_rowF, noRefs_flowC]; done)) | exact Rn.x1 rfl rfl | exact Rn.x2 rfl rfl | exact Rn.x3 rfl rfl | exact Rn.x4 rfl rfl | exact Rn.x5 rfl | exact Rn.x6 rfl | exact Rn.x7 rfl | refine RB.newnil rfl rfl ?_ | refine RB.cells rfl rfl rfl ?_ ?_ | refine RB.map rfl rfl rfl ?_ ?_ | refine RB.cellsB rfl rfl ?_ ?_ | refine RB.mapB rfl rfl ?_ ?_)), (by repeat (first | exact RT.nil | (refine RT.cons ?_ ?_; · (first | exact Rn.any | exact Rn.x1 rfl rfl | exact Rn.x2 rfl rfl | exact Rn.x3 rfl rfl | exact Rn.x4 rfl rfl | exact Rn.x5 rfl | exact Rn.x6 rfl | exact Rn.x7 rfl | (refine Rn.slot ?_ ?_; (first | rfl | (rw [Int.natCast_add]; rfl)); (first | rfl | (simp only [noRef, noRefs, noRefs_append, Bool.and_self, Bool.and_true, Bool.true_and, noRefs_flat10, noRefs_ints, noRefs_lsts, noRefs_pad, noRefs_tnC, noRefs_arcC, noRefs_rowF, noRefs_flowC]; done))) | (refine Rn.fn ?_ ?_ <;> (repeat' (first | exact RnL.nil | refine RnL.cons ?_ ?_ | exact Rn.same rfl | exact Rn.x6 rfl | exact Rn.x2 rfl rfl | exact Rn.x5 rfl | exact Rn.x1 rfl rfl)))))))⟩
  · have e : a = K := by omega
    have hlt' : ¬ (a : Int) + 1 ≤ K := by omega
    subst e
    simp (maxSteps := 1000000) (disch := first | omega | (simp only [lenW] <;> omega)) only [vH, hlt', wordsN, Int.reduceGT, wordsR, ne_eq, words, Nat.reduceAdd, Nat.reduceEqDiff, Nat.reduceBEq, ↓reduceIte, reduceCtorEq, SX.exit.injEq, if_true, if_false, Int.reduceAdd, Int.reduceSub, Int.reduceMul, Int.reduceLT, Int.reduceLE, Int.reduceEq, Int.reduceNe, Int.reduceNeg, Int.reduceToNat, Nat.reduceMul, Nat.reduceLT, Nat.reduceSub, Nat.reduceLeDiff]
    exact ⟨.inr trivial, _, rfl, Rn.fz0 rfl (flowC_len _) (RnL.same (noRefs_flowC _))⟩
end Go.AM.SN
namespace Go.AM.SN
open Go.Proofs Go.AM.SK
set_option maxRecDepth 100000
set_option linter.unusedSimpArgs false
set_option linter.unusedVariables false
def listR (K : Nat) (F : List Flow) : List (List Int) := F.map fun f => (List.range K).map f.2
theorem flow_len (f : Flow) : (AV.int .u16 (f.1 : Nat) :: rowF 10 f.2).length = 11 := by rw [List.length_cons, rowF_len]
theorem flowC_at {F : List Flow} {a : Nat} {f : Flow} (h : F[a]? = some f) : (flowC F).drop (a * 11) = (AV.int .u16 (f.1 : Nat) :: rowF 10 f.2) ++ flowC (F.drop (a + 1)) :=
  drop_flat' (f := fun f : Flow => AV.int .u16 (f.1 : Nat) :: rowF 10 f.2) (k := 11) (fun y _ => flow_len y) h
theorem put11 {f : Flow} : putR [.int .u16 0, .int .i64 0, .int .i64 0, .int .i64 0, .int .i64 0, .int .i64 0, .int .i64 0, .int .i64 0, .int .i64 0, .int .i64 0, .int .i64 0] 0 (AV.int .u16 (f.1 : Nat) :: rowF 10 f.2) = AV.int .u16 (f.1 : Nat) :: rowF 10 f.2 := rfl
set_option maxHeartbeats 8000000 in
theorem listedP (K : Nat) (R : List (List Int)) (hK : K ≤ 5) (hR : R.length ≤ 100) (hRk : ∀ r ∈ R, r.length = K) (hRb : ∀ r ∈ R, ∀ x ∈ r, -8 ≤ x ∧ x ≤ 8) (hW : ∀ f ∈ minF R K K, ∀ i, i < K → f.2 i ≤ 65536) :
    PSpec Try.prog 40 [tabV K R] (.tup [lsts (listR K (minF R K K)), .int .i64 0]) := by
  refine PSpec.of_rn 64 SM.ok40 rfl (by (try simp only [noRefs, noRef_net, noRef_sli, noRef_lsts, noRef_arcs, noRef_tns, noRef_tab]) <;> rfl) (by simp only [noRef, noRefs, noRefs_lsts]; rfl) ?_
  have hm := minimalP K R hK hR hRk hRb
  have hl := minF_len R (K := K) (by omega) K (by omega)
  generalize minF R K K = F at *
  have hF1 : ¬ (128 : Int) < F.length := by omega
  simp (maxSteps := 1000000) (disch := first | omega | (simp only [lenW] <;> omega)) only [SM.s40, wordsN, Int.reduceGT, wordsR, ne_eq, words, Nat.reduceAdd, Nat.reduceEqDiff, Nat.reduceBEq, ↓reduceIte, reduceCtorEq, SX.exit.injEq, if_true, if_false, Int.reduceAdd, Int.reduceSub, Int.reduceMul, Int.reduceLT, Int.reduceLE, Int.reduceEq, Int.reduceNe, Int.reduceNeg, Int.reduceToNat, Nat.reduceMul, Nat.reduceLT, Nat.reduceSub, Nat.reduceLeDiff]
  refine cp hm ?_
  simp (maxSteps := 1000000) (disch := first | omega | (simp only [lenW] <;> omega)) only [hF1, wordsN, Int.reduceGT, wordsR, ne_eq, words, Nat.reduceAdd, Nat.reduceEqDiff, Nat.reduceBEq, ↓reduceIte, reduceCtorEq, SX.exit.injEq, if_true, if_false, Int.reduceAdd, Int.reduceSub, Int.reduceMul, Int.reduceLT, Int.reduceLE, Int.reduceEq, Int.reduceNe, Int.reduceNeg, Int.reduceToNat, Nat.reduceMul, Nat.reduceLT, Nat.reduceSub, Nat.reduceLeDiff]
  refine wS_loopR 100 (fun a : Nat => [(1, .ptr 51 0 0), (5, .sl 50 0 0 a 1), (15, flowsV F), (16, .int .i64 F.length), (17, .int .i64 a)])
    (fun a => [(50, .cells 0 ((listR K (F.take a)).map sli)), (51, .cells 0 [.int .i64 K, .fsl (R.flatMap pad) R.length 10])]) (fun a => a ≤ F.length) (fun a => F.length - a) 0 ?_ (Nat.zero_le _) ?_
  · simp only [List.take_zero, listR, List.map_nil]
    exact ⟨[(50, .nil), (51, .blk 64 0)], rfl, (by repeat (first | exact RO.zero | exact RO.e | refine RO.set rfl ?_)), (by repeat' (first | exact RB.nil | (refine RnL.same ?_; first | rfl | (simp only [noRef, noRefs, noRefs_append, Bool.and_self, Bool.and_true, Bool.true_and, noRefs_flat10, noRefs_ints, noRefs_lsts, noRefs_pad, noRefs_tnC, noRefs_arcC, noRefs_rowF, noRefs_flowC]; done)) | exact RnM.keyM rfl | exact RnL.nil | refine RnL.cons ?_ ?_ | (refine Rn.same ?_; first | rfl | (simp only [noRef, noRefs, noRefs_append, Bool.and_self, Bool.and_true, Bool.true_and, noRefs_flat10, noRefs_ints, noRefs_lsts, noRefs_pad, noRefs_tnC, noRefs_arcC, noRefs_rowF, noRefs_flowC]; done)) | exact Rn.x1 rfl rfl | exact Rn.x2 rfl rfl | exact Rn.x3 rfl rfl | exact Rn.x4 rfl rfl | exact Rn.x5 rfl | exact Rn.x6 rfl | exact Rn.x7 rfl | refine RB.newnil rfl rfl ?_ | refine RB.cells rfl rfl rfl ?_ ?_ | refine RB.map rfl rfl rfl ?_ ?_ | refine RB.cellsB rfl rfl ?_ ?_ | refine RB.mapB rfl rfl ?_ ?_)), (by repeat (first | exact RT.nil | (refine RT.cons ?_ ?_; · (first | exact Rn.any | exact Rn.x1 rfl rfl | exact Rn.x2 rfl rfl | exact Rn.x3 rfl rfl | exact Rn.x4 rfl rfl | exact Rn.x5 rfl | exact Rn.x6 rfl | exact Rn.x7 rfl | (refine Rn.slot ?_ ?_; (first | rfl | (rw [Int.natCast_add]; rfl)); (first | rfl | (simp only [noRef, noRefs, noRefs_append, Bool.and_self, Bool.and_true, Bool.true_and, noRefs_flat10, noRefs_ints, noRefs_lsts, noRefs_pad, noRefs_tnC, noRefs_arcC, noRefs_rowF, noRefs_flowC]; done))) | (refine Rn.fn ?_ ?_ <;> (repeat' (first | exact RnL.nil | refine RnL.cons ?_ ?_ | exact Rn.same rfl | exact Rn.x6 rfl | exact Rn.x2 rfl rfl | exact Rn.x5 rfl | exact Rn.x1 rfl rfl)))))))⟩
  intro a ha
  by_cases hlt : a < F.length
  · obtain ⟨f, hf⟩ := get_ex hlt
    have hfm := List.mem_of_getElem? hf
    have hd := flowC_at hf
    have ht11 : ((AV.int .u16 (f.1 : Nat) :: rowF 10 f.2) ++ flowC (F.drop (a + 1))).take 11 = AV.int .u16 (f.1 : Nat) :: rowF 10 f.2 := by rw [← flow_len f, List.take_left']; rfl
    have hl11 : (11 ≤ ((AV.int .u16 (f.1 : Nat) :: rowF 10 f.2) ++ flowC (F.drop (a + 1))).length) = True := by simp only [List.length_append, flow_len]; exact eq_true (by omega)
    have hone : (AV.int .u16 (f.1 : Nat) :: rowF 10 f.2).all AV.one = true := by rw [List.all_cons, one_rowF]; rfl
    have hfl := flow_len f
    have hp := put11 (f := f)
    have hk8 : (8 : Int) * (K : Int) ≤ 1099511627776 := by omega
    have hk1 : (K : Int) ≤ 1099511627776 := by omega
    generalize hfc : (AV.int .u16 (f.1 : Nat) :: rowF 10 f.2) = fc at *
    have hfr : noRefs fc = true := by rw [← hfc]; simp only [noRefs, noRef, noRefs_rowF]; rfl
    have hget : ∀ i, i < K → fc[1 + i]? = some (.int .i64 (f.2 i)) := fun i hi => by rw [← hfc, Nat.add_comm 1 i, List.getElem?_cons_succ]; exact rowF_get _ (by omega)
    have hw := hW f hfm
    have hla : (listR K (F.take a)).length = a := by simp [listR]; omega
    have hls : (listR K (F.take (a + 1))).map sli = (listR K (F.take a)).map sli ++ [sli ((List.range K).map f.2)] := by
      unfold listR
      rw [List.take_add_one, hf, List.map_append, List.map_append]; rfl
    simp (maxSteps := 1000000) (disch := first | omega | (simp only [lenW] <;> omega)) only [hlt, hd, ht11, hl11, hfl, hone, hp, hk8, hk1, rowF_zero, wordsN, Int.reduceGT, wordsR, ne_eq, words, Nat.reduceAdd, Nat.reduceEqDiff, Nat.reduceBEq, ↓reduceIte, reduceCtorEq, SX.exit.injEq, if_true, if_false, Int.reduceAdd, Int.reduceSub, Int.reduceMul, Int.reduceLT, Int.reduceLE, Int.reduceEq, Int.reduceNe, Int.reduceNeg, Int.reduceToNat, Nat.reduceMul, Nat.reduceLT, Nat.reduceSub, Nat.reduceLeDiff]
    refine wS_loopR 200 (fun i : Nat => [(1, .ptr 51 0 0), (5, .sl 50 0 0 a 1), (15, flowsV F), (16, .int .i64 F.length), (17, .int .i64 a), (7, .ptr 52 0 0), (8, .sl 53 0 0 K 1), (25, .int .i64 K), (26, .int .i64 i)])
      (fun i => [(50, .cells 0 ((listR K (F.take a)).map sli)), (51, .cells 0 [.int .i64 K, .fsl (R.flatMap pad) R.length 10]), (52, .cells 0 fc), (53, .cells 0 (rowF K fun p => if p < i then f.2 p else 0))]) (fun i => i ≤ K) (fun i => K - i) 0 ?_ (Nat.zero_le _) ?_
    · refine ⟨[(50, .blk 50 0), (51, .blk 51 0), (52, .blk 103 0), (53, .blk 107 0)], rfl, (by repeat (first | exact RO.zero | exact RO.e | refine RO.set rfl ?_)), ?_, (by repeat (first | exact RT.nil | (refine RT.cons ?_ ?_; · (first | exact Rn.any | exact Rn.x1 rfl rfl | exact Rn.x2 rfl rfl | exact Rn.x3 rfl rfl | exact Rn.x4 rfl rfl | exact Rn.x5 rfl | exact Rn.x6 rfl | exact Rn.x7 rfl | (refine Rn.slot ?_ ?_; (first | rfl | (rw [Int.natCast_add]; rfl)); (first | rfl | (simp only [noRef, noRefs, noRefs_append, Bool.and_self, Bool.and_true, Bool.true_and, noRefs_flat10, noRefs_ints, noRefs_lsts, noRefs_pad, noRefs_tnC, noRefs_arcC, noRefs_rowF, noRefs_flowC]; done))) | (refine Rn.fn ?_ ?_ <;> (repeat' (first | exact RnL.nil | refine RnL.cons ?_ ?_ | exact Rn.same rfl | exact Rn.x6 rfl | exact Rn.x2 rfl rfl | exact Rn.x5 rfl | exact Rn.x1 rfl rfl)))))))⟩
      refine RB.cells rfl rfl rfl (RnL.same (noRefs_lsts _)) (RB.cells rfl rfl rfl ?_ (RB.cells rfl rfl rfl (RnL.same hfr) (RB.cells rfl rfl rfl (RnL.eq (rowF_congr fun p _ => if_neg (Nat.not_lt_zero _)) (noRefs_rowF _ _)) RB.nil)))
      repeat' (first | exact RB.nil | (refine RnL.same ?_; first | rfl | (simp only [noRef, noRefs, noRefs_append, Bool.and_self, Bool.and_true, Bool.true_and, noRefs_flat10, noRefs_ints, noRefs_lsts, noRefs_pad, noRefs_tnC, noRefs_arcC, noRefs_rowF, noRefs_flowC]; done)) | exact RnM.keyM rfl | exact RnL.nil | refine RnL.cons ?_ ?_ | (refine Rn.same ?_; first | rfl | (simp only [noRef, noRefs, noRefs_append, Bool.and_self, Bool.and_true, Bool.true_and, noRefs_flat10, noRefs_ints, noRefs_lsts, noRefs_pad, noRefs_tnC, noRefs_arcC, noRefs_rowF, noRefs_flowC]; done)) | exact Rn.x1 rfl rfl | exact Rn.x2 rfl rfl | exact Rn.x3 rfl rfl | exact Rn.x4 rfl rfl | exact Rn.x5 rfl | exact Rn.x6 rfl | exact Rn.x7 rfl | refine RB.newnil rfl rfl ?_ | refine RB.cells rfl rfl rfl ?_ ?_ | refine RB.map rfl rfl rfl ?_ ?_ | refine RB.cellsB rfl rfl ?_ ?_ | refine RB.mapB rfl rfl ?_ ?_)
    intro i hi
    by_cases hil : i < K
    · have hi10 : (i : Int) < 10 := by omega
      have hgi := hget i hil
      have hwi : ¬ (65536 : Int) < f.2 i := by have := hw i hil; omega
      have hset : ∀ v, (rowF K fun p => if p < i then f.2 p else 0).set i (.int .i64 v) = rowF K (fun p => if p = i then v else if p < i then f.2 p else 0) := fun v => rowF_set _ v
      have hle : i + 1 ≤ K := by omega
      simp (maxSteps := 1000000) (disch := first | omega | (simp only [lenW] <;> omega)) only [hil, hi10, hgi, hwi, hset, hle, rowF_len, wordsN, Int.reduceGT, wordsR, ne_eq, words, Nat.reduceAdd, Nat.reduceEqDiff, Nat.reduceBEq, ↓reduceIte, reduceCtorEq, SX.exit.injEq, if_true, if_false, Int.reduceAdd, Int.reduceSub, Int.reduceMul, Int.reduceLT, Int.reduceLE, Int.reduceEq, Int.reduceNe, Int.reduceNeg, Int.reduceToNat, Nat.reduceMul, Nat.reduceLT, Nat.reduceSub, Nat.reduceLeDiff]
      refine ⟨i + 1, by omega, by omega, ?_⟩
      refine ⟨[(50, .blk 50 0), (51, .blk 51 0), (52, .blk 52 0), (53, .blk 53 0)], rfl, (by repeat (first | exact RO.zero | exact RO.e | refine RO.set rfl ?_)), ?_, (by repeat (first | exact RT.nil | (refine RT.cons ?_ ?_; · (first | exact Rn.any | exact Rn.x1 rfl rfl | exact Rn.x2 rfl rfl | exact Rn.x3 rfl rfl | exact Rn.x4 rfl rfl | exact Rn.x5 rfl | exact Rn.x6 rfl | exact Rn.x7 rfl | (refine Rn.slot ?_ ?_; (first | rfl | (rw [Int.natCast_add]; rfl)); (first | rfl | (simp only [noRef, noRefs, noRefs_append, Bool.and_self, Bool.and_true, Bool.true_and, noRefs_flat10, noRefs_ints, noRefs_lsts, noRefs_pad, noRefs_tnC, noRefs_arcC, noRefs_rowF, noRefs_flowC]; done))) | (refine Rn.fn ?_ ?_ <;> (repeat' (first | exact RnL.nil | refine RnL.cons ?_ ?_ | exact Rn.same rfl | exact Rn.x6 rfl | exact Rn.x2 rfl rfl | exact Rn.x5 rfl | exact Rn.x1 rfl rfl)))))))⟩
      refine RB.cells rfl rfl rfl (RnL.same (noRefs_lsts _)) (RB.cells rfl rfl rfl ?_ (RB.cells rfl rfl rfl (RnL.same hfr) (RB.cells rfl rfl rfl (RnL.eq (rowF_congr fun p _ => ?_) (noRefs_rowF _ _)) RB.nil)))
      rotate_right 1
      · by_cases e : p = i
        · subst e; simp
        · have : (p < i + 1) ↔ (p < i) := by omega
          simp only [this, e, if_false]
      repeat' (first | exact RB.nil | (refine RnL.same ?_; first | rfl | (simp only [noRef, noRefs, noRefs_append, Bool.and_self, Bool.and_true, Bool.true_and, noRefs_flat10, noRefs_ints, noRefs_lsts, noRefs_pad, noRefs_tnC, noRefs_arcC, noRefs_rowF, noRefs_flowC]; done)) | exact RnM.keyM rfl | exact RnL.nil | refine RnL.cons ?_ ?_ | (refine Rn.same ?_; first | rfl | (simp only [noRef, noRefs, noRefs_append, Bool.and_self, Bool.and_true, Bool.true_and, noRefs_flat10, noRefs_ints, noRefs_lsts, noRefs_pad, noRefs_tnC, noRefs_arcC, noRefs_rowF, noRefs_flowC]; done)) | exact Rn.x1 rfl rfl | exact Rn.x2 rfl rfl | exact Rn.x3 rfl rfl | exact Rn.x4 rfl rfl | exact Rn.x5 rfl | exact Rn.x6 rfl | exact Rn.x7 rfl | refine RB.newnil rfl rfl ?_ | refine RB.cells rfl rfl rfl ?_ ?_ | refine RB.map rfl rfl rfl ?_ ?_ | refine RB.cellsB rfl rfl ?_ ?_ | refine RB.mapB rfl rfl ?_ ?_)
    · have e : i = K := by omega
      simp (maxSteps := 1000000) (disch := first | omega | (simp only [lenW] <;> omega)) only [hil, hlt, wordsN, Int.reduceGT, wordsR, ne_eq, words, Nat.reduceAdd, Nat.reduceEqDiff, Nat.reduceBEq, ↓reduceIte, reduceCtorEq, SX.exit.injEq, if_true, if_false, Int.reduceAdd, Int.reduceSub, Int.reduceMul, Int.reduceLT, Int.reduceLE, Int.reduceEq, Int.reduceNe, Int.reduceNeg, Int.reduceToNat, Nat.reduceMul, Nat.reduceLT, Nat.reduceSub, Nat.reduceLeDiff]
      refine ⟨a + 1, by omega, by omega, ?_⟩
      refine ⟨[(50, .blk 50 1), (51, .blk 51 0)], rfl, (by repeat (first | exact RO.zero | exact RO.e | refine RO.set rfl ?_)), ?_, (by repeat (first | exact RT.nil | (refine RT.cons ?_ ?_; · (first | exact Rn.any | exact Rn.x1 rfl rfl | exact Rn.x2 rfl rfl | exact Rn.x3 rfl rfl | exact Rn.x4 rfl rfl | exact Rn.x5 rfl | exact Rn.x6 rfl | exact Rn.x7 rfl | (refine Rn.slot ?_ ?_; (first | rfl | (rw [Int.natCast_add]; rfl)); (first | rfl | (simp only [noRef, noRefs, noRefs_append, Bool.and_self, Bool.and_true, Bool.true_and, noRefs_flat10, noRefs_ints, noRefs_lsts, noRefs_pad, noRefs_tnC, noRefs_arcC, noRefs_rowF, noRefs_flowC]; done))) | (refine Rn.fn ?_ ?_ <;> (repeat' (first | exact RnL.nil | refine RnL.cons ?_ ?_ | exact Rn.same rfl | exact Rn.x6 rfl | exact Rn.x2 rfl rfl | exact Rn.x5 rfl | exact Rn.x1 rfl rfl)))))))⟩
      rw [hls]
      refine RB.cells rfl rfl rfl (RnL.append (RnL.same (noRefs_lsts _)) (RnL.cons (Rn.fzm rfl rfl rfl (by simp) (by rw [rowF_len, Nat.mul_one]) (RnL.eq ?_ (noRefs_ints _))) RnL.nil)) (RB.cells rfl rfl rfl ?_ RB.nil)
      · show rowF K f.2 = _
        exact rowF_congr fun p hp => (if_pos (by omega)).symm
      · repeat' (first | exact RB.nil | (refine RnL.same ?_; first | rfl | (simp only [noRef, noRefs, noRefs_append, Bool.and_self, Bool.and_true, Bool.true_and, noRefs_flat10, noRefs_ints, noRefs_lsts, noRefs_pad, noRefs_tnC, noRefs_arcC, noRefs_rowF, noRefs_flowC]; done)) | exact RnM.keyM rfl | exact RnL.nil | refine RnL.cons ?_ ?_ | (refine Rn.same ?_; first | rfl | (simp only [noRef, noRefs, noRefs_append, Bool.and_self, Bool.and_true, Bool.true_and, noRefs_flat10, noRefs_ints, noRefs_lsts, noRefs_pad, noRefs_tnC, noRefs_arcC, noRefs_rowF, noRefs_flowC]; done)) | exact Rn.x1 rfl rfl | exact Rn.x2 rfl rfl | exact Rn.x3 rfl rfl | exact Rn.x4 rfl rfl | exact Rn.x5 rfl | exact Rn.x6 rfl | exact Rn.x7 rfl | refine RB.newnil rfl rfl ?_ | refine RB.cells rfl rfl rfl ?_ ?_ | refine RB.map rfl rfl rfl ?_ ?_ | refine RB.cellsB rfl rfl ?_ ?_ | refine RB.mapB rfl rfl ?_ ?_)
  · have e : a = F.length := by omega
    subst e
    simp (maxSteps := 1000000) (disch := first | omega | (simp only [lenW] <;> omega)) only [hlt, wordsN, Int.reduceGT, wordsR, ne_eq, words, Nat.reduceAdd, Nat.reduceEqDiff, Nat.reduceBEq, ↓reduceIte, reduceCtorEq, SX.exit.injEq, if_true, if_false, Int.reduceAdd, Int.reduceSub, Int.reduceMul, Int.reduceLT, Int.reduceLE, Int.reduceEq, Int.reduceNe, Int.reduceNeg, Int.reduceToNat, Nat.reduceMul, Nat.reduceLT, Nat.reduceSub, Nat.reduceLeDiff]
    refine ⟨.inr trivial, _, rfl, ?_⟩
    refine Rn.tup (RnL.cons ?_ (RnL.same rfl))
    have hlen : (listR K F).length = F.length := by simp [listR]
    show Rn 0 π0 _ (.fsl ((listR K F).map sli) (listR K F).length 1) _
    rw [hlen]
    exact Rn.fz0 rfl (by simp [hlen]) (RnL.same (noRefs_lsts _))
end Go.AM.SN
namespace Go.AM.SN
open Go.Proofs Go.AM.SK
set_option maxRecDepth 100000
set_option linter.unusedSimpArgs false
set_option linter.unusedVariables false
theorem MinimalT (x : Nt) (kind : Int) (K : Nat) (R : List (List Int)) (hT : PSpec Try.prog 39 [netV x, .int .i64 kind] (.tup [tabV K R, .int .i64 0]))
    (hK : K ≤ 5) (hR : R.length ≤ 100) (hRk : ∀ r ∈ R, r.length = K) (hRb : ∀ r ∈ R, ∀ x ∈ r, -8 ≤ x ∧ x ≤ 8) (hW : ∀ f ∈ minF R K K, ∀ i, i < K → f.2 i ≤ 65536) :
    PSpec Try.prog 14 [netV x, .int .i64 kind] (.tup [lsts (listR K (minF R K K)), .int .i64 0]) := by
  refine PSpec.of_rn 64 SM.ok14 rfl (by rw [noRefs, noRef_net]; rfl) (by simp only [noRef, noRefs, noRefs_lsts]; rfl) ?_
  have hl := listedP K R hK hR hRk hRb hW
  simp (maxSteps := 1000000) (disch := first | omega | (simp only [lenW] <;> omega)) only [SM.s14, wordsN, Int.reduceGT, wordsR, ne_eq, words, Nat.reduceAdd, Nat.reduceEqDiff, Nat.reduceBEq, ↓reduceIte, reduceCtorEq, SX.exit.injEq, if_true, if_false, Int.reduceAdd, Int.reduceSub, Int.reduceMul, Int.reduceLT, Int.reduceLE, Int.reduceEq, Int.reduceNe, Int.reduceNeg, Int.reduceToNat, Nat.reduceMul, Nat.reduceLT, Nat.reduceSub, Nat.reduceLeDiff]
  refine cp hT ?_
  simp (maxSteps := 1000000) (disch := first | omega | (simp only [lenW] <;> omega)) only [wordsN, Int.reduceGT, wordsR, ne_eq, words, Nat.reduceAdd, Nat.reduceEqDiff, Nat.reduceBEq, ↓reduceIte, reduceCtorEq, SX.exit.injEq, if_true, if_false, Int.reduceAdd, Int.reduceSub, Int.reduceMul, Int.reduceLT, Int.reduceLE, Int.reduceEq, Int.reduceNe, Int.reduceNeg, Int.reduceToNat, Nat.reduceMul, Nat.reduceLT, Nat.reduceSub, Nat.reduceLeDiff]
  refine cp hl ?_
  simp (maxSteps := 1000000) (disch := first | omega | (simp only [lenW] <;> omega)) only [wordsN, Int.reduceGT, wordsR, ne_eq, words, Nat.reduceAdd, Nat.reduceEqDiff, Nat.reduceBEq, ↓reduceIte, reduceCtorEq, SX.exit.injEq, if_true, if_false, Int.reduceAdd, Int.reduceSub, Int.reduceMul, Int.reduceLT, Int.reduceLE, Int.reduceEq, Int.reduceNe, Int.reduceNeg, Int.reduceToNat, Nat.reduceMul, Nat.reduceLT, Nat.reduceSub, Nat.reduceLeDiff]
  exact ⟨.inr trivial, _, rfl, Rn.same (by simp only [resOf, noRef, noRefs, noRefs_lsts]; rfl)⟩
def covR (F : List Flow) : Nat := F.foldl (fun a f => a ||| f.1) 0
theorem covR_take {F : List Flow} {a : Nat} {f : Flow} (h : F[a]? = some f) : covR (F.take (a + 1)) = covR (F.take a) ||| f.1 := by
  unfold covR
  rw [List.take_add_one, List.foldl_append, h]; rfl
theorem covR_lt {F : List Flow} (h : ∀ f ∈ F, f.1 < 65536) : covR F < 65536 := by
  unfold covR
  have : ∀ (l : List Flow) (a : Nat), (∀ c ∈ l, c.1 < 65536) → a < 65536 → l.foldl (fun a c => a ||| c.1) a < 65536 := by
    intro l
    induction l with
    | nil => intro a _ ha; exact ha
    | cons c l ih =>
      intro a hl ha
      rw [List.foldl_cons]
      exact ih _ (fun c hc => hl c (by simp [hc])) (Nat.or_lt_two_pow (n := 16) ha (hl c (by simp)))
  exact this F 0 h (by decide)
set_option maxHeartbeats 8000000 in
theorem CoveredT (x : Nt) (kind : Int) (K : Nat) (R : List (List Int)) (hT : PSpec Try.prog 39 [netV x, .int .i64 kind] (.tup [tabV K R, .int .i64 0]))
    (hK : K ≤ 5) (hR : R.length ≤ 100) (hRk : ∀ r ∈ R, r.length = K) (hRb : ∀ r ∈ R, ∀ x ∈ r, -8 ≤ x ∧ x ≤ 8) :
    PSpec Try.prog 15 [netV x, .int .i64 kind] (.tup [.bool (decide (covR (minF R K K) = 2 ^ K - 1)), .int .i64 0]) := by
  refine PSpec.of_rn 64 SM.ok15 rfl (by rw [noRefs, noRef_net]; rfl) rfl ?_
  have hm := minimalP K R hK hR hRk hRb
  have hl := minF_len R (K := K) (by omega) K (by omega)
  have hs := minF_sup R (K := K) (by omega) K (by omega)
  generalize minF R K K = F at *
  have hsh := shl16 (c := K) (k := .i64) (by omega)
  have h1 := shl_lt (c := K) (by omega)
  have e2 : 1 <<< K = 2 ^ K := by rw [Nat.shiftLeft_eq, Nat.one_mul]
  have h2 : 0 < 2 ^ K := Nat.two_pow_pos K
  rw [e2] at hsh h1
  generalize 2 ^ K = p at *
  simp (maxSteps := 1000000) (disch := first | omega | (simp only [lenW] <;> omega)) only [SM.s15, wordsN, Int.reduceGT, wordsR, ne_eq, words, Nat.reduceAdd, Nat.reduceEqDiff, Nat.reduceBEq, ↓reduceIte, reduceCtorEq, SX.exit.injEq, if_true, if_false, Int.reduceAdd, Int.reduceSub, Int.reduceMul, Int.reduceLT, Int.reduceLE, Int.reduceEq, Int.reduceNe, Int.reduceNeg, Int.reduceToNat, Nat.reduceMul, Nat.reduceLT, Nat.reduceSub, Nat.reduceLeDiff]
  refine cp hT ?_
  simp (maxSteps := 1000000) (disch := first | omega | (simp only [lenW] <;> omega)) only [wordsN, Int.reduceGT, wordsR, ne_eq, words, Nat.reduceAdd, Nat.reduceEqDiff, Nat.reduceBEq, ↓reduceIte, reduceCtorEq, SX.exit.injEq, if_true, if_false, Int.reduceAdd, Int.reduceSub, Int.reduceMul, Int.reduceLT, Int.reduceLE, Int.reduceEq, Int.reduceNe, Int.reduceNeg, Int.reduceToNat, Nat.reduceMul, Nat.reduceLT, Nat.reduceSub, Nat.reduceLeDiff]
  refine cp hm ?_
  simp (maxSteps := 1000000) (disch := first | omega | (simp only [lenW] <;> omega)) only [wordsN, Int.reduceGT, wordsR, ne_eq, words, Nat.reduceAdd, Nat.reduceEqDiff, Nat.reduceBEq, ↓reduceIte, reduceCtorEq, SX.exit.injEq, if_true, if_false, Int.reduceAdd, Int.reduceSub, Int.reduceMul, Int.reduceLT, Int.reduceLE, Int.reduceEq, Int.reduceNe, Int.reduceNeg, Int.reduceToNat, Nat.reduceMul, Nat.reduceLT, Nat.reduceSub, Nat.reduceLeDiff]
  refine wS_loopR 100 (fun a : Nat => [(6, .ptr 51 0 0), (8, .int .u16 (covR (F.take a) : Nat)), (21, flowsV F), (22, .int .i64 F.length), (23, .int .i64 a)])
    (fun a => [(51, .cells 0 [.int .i64 K, .fsl (R.flatMap pad) R.length 10])]) (fun a => a ≤ F.length) (fun a => F.length - a) 0 ?_ (Nat.zero_le _) ?_
  · exact ⟨[(51, .blk 73 0)], rfl, (by repeat (first | exact RO.zero | exact RO.e | refine RO.set rfl ?_)), (by repeat' (first | exact RB.nil | (refine RnL.same ?_; first | rfl | (simp only [noRef, noRefs, noRefs_append, Bool.and_self, Bool.and_true, Bool.true_and, noRefs_flat10, noRefs_ints, noRefs_lsts, noRefs_pad, noRefs_tnC, noRefs_arcC, noRefs_rowF, noRefs_flowC, noRef_tab]; done)) | exact RnM.keyM rfl | exact RnL.nil | refine RnL.cons ?_ ?_ | (refine Rn.same ?_; first | rfl | (simp only [noRef, noRefs, noRefs_append, Bool.and_self, Bool.and_true, Bool.true_and, noRefs_flat10, noRefs_ints, noRefs_lsts, noRefs_pad, noRefs_tnC, noRefs_arcC, noRefs_rowF, noRefs_flowC, noRef_tab]; done)) | exact Rn.x1 rfl rfl | exact Rn.x2 rfl rfl | exact Rn.x3 rfl rfl | exact Rn.x4 rfl rfl | exact Rn.x5 rfl | exact Rn.x6 rfl | exact Rn.x7 rfl | refine RB.newnil rfl rfl ?_ | refine RB.cells rfl rfl rfl ?_ ?_ | refine RB.map rfl rfl rfl ?_ ?_ | refine RB.cellsB rfl rfl ?_ ?_ | refine RB.mapB rfl rfl ?_ ?_)), (by repeat (first | exact RT.nil | (refine RT.cons ?_ ?_; · (first | exact Rn.any | exact Rn.x1 rfl rfl | exact Rn.x2 rfl rfl | exact Rn.x3 rfl rfl | exact Rn.x4 rfl rfl | exact Rn.x5 rfl | exact Rn.x6 rfl | exact Rn.x7 rfl | (refine Rn.slot ?_ ?_; (first | rfl | (rw [Int.natCast_add]; rfl)); (first | rfl | (simp only [noRef, noRefs, noRefs_append, Bool.and_self, Bool.and_true, Bool.true_and, noRefs_flat10, noRefs_ints, noRefs_lsts, noRefs_pad, noRefs_tnC, noRefs_arcC, noRefs_rowF, noRefs_flowC, noRef_tab]; done))) | (refine Rn.fn ?_ ?_ <;> (repeat' (first | exact RnL.nil | refine RnL.cons ?_ ?_ | exact Rn.same rfl | exact Rn.x6 rfl | exact Rn.x2 rfl rfl | exact Rn.x5 rfl | exact Rn.x1 rfl rfl)))))))⟩
  intro a ha
  by_cases hlt : a < F.length
  · obtain ⟨f, hf⟩ := get_ex hlt
    have hfm := List.mem_of_getElem? hf
    have hd := flowC_at hf
    have hor := or16 (covR_lt fun f hf => hs f (List.mem_of_mem_take hf) : covR (F.take a) < 65536) (hs f hfm)
    have ht11 : ((AV.int .u16 (f.1 : Nat) :: rowF 10 f.2) ++ flowC (F.drop (a + 1))).take 11 = AV.int .u16 (f.1 : Nat) :: rowF 10 f.2 := by rw [← flow_len f, List.take_left']; rfl
    have hl11 : (11 ≤ ((AV.int .u16 (f.1 : Nat) :: rowF 10 f.2) ++ flowC (F.drop (a + 1))).length) = True := by simp only [List.length_append, flow_len]; exact eq_true (by omega)
    have hone : (AV.int .u16 (f.1 : Nat) :: rowF 10 f.2).all AV.one = true := by rw [List.all_cons, one_rowF]; rfl
    have hfl := flow_len f
    have hp := put11 (f := f)
    have h0 : (AV.int .u16 (f.1 : Nat) :: rowF 10 f.2)[0]? = some (.int .u16 (f.1 : Nat)) := rfl
    generalize hfc : (AV.int .u16 (f.1 : Nat) :: rowF 10 f.2) = fc at *
    simp (maxSteps := 1000000) (disch := first | omega | (simp only [lenW] <;> omega)) only [hlt, hd, ht11, hl11, hfl, hone, hp, h0, hor, wordsN, Int.reduceGT, wordsR, ne_eq, words, Nat.reduceAdd, Nat.reduceEqDiff, Nat.reduceBEq, ↓reduceIte, reduceCtorEq, SX.exit.injEq, if_true, if_false, Int.reduceAdd, Int.reduceSub, Int.reduceMul, Int.reduceLT, Int.reduceLE, Int.reduceEq, Int.reduceNe, Int.reduceNeg, Int.reduceToNat, Nat.reduceMul, Nat.reduceLT, Nat.reduceSub, Nat.reduceLeDiff]
    refine ⟨a + 1, by omega, by omega, ?_⟩
    rw [covR_take hf]
    exact ⟨[(51, .blk 51 0)], rfl, (by repeat (first | exact RO.zero | exact RO.e | refine RO.set rfl ?_)), (by repeat' (first | exact RB.nil | (refine RnL.same ?_; first | rfl | (simp only [noRef, noRefs, noRefs_append, Bool.and_self, Bool.and_true, Bool.true_and, noRefs_flat10, noRefs_ints, noRefs_lsts, noRefs_pad, noRefs_tnC, noRefs_arcC, noRefs_rowF, noRefs_flowC, noRef_tab]; done)) | exact RnM.keyM rfl | exact RnL.nil | refine RnL.cons ?_ ?_ | (refine Rn.same ?_; first | rfl | (simp only [noRef, noRefs, noRefs_append, Bool.and_self, Bool.and_true, Bool.true_and, noRefs_flat10, noRefs_ints, noRefs_lsts, noRefs_pad, noRefs_tnC, noRefs_arcC, noRefs_rowF, noRefs_flowC, noRef_tab]; done)) | exact Rn.x1 rfl rfl | exact Rn.x2 rfl rfl | exact Rn.x3 rfl rfl | exact Rn.x4 rfl rfl | exact Rn.x5 rfl | exact Rn.x6 rfl | exact Rn.x7 rfl | refine RB.newnil rfl rfl ?_ | refine RB.cells rfl rfl rfl ?_ ?_ | refine RB.map rfl rfl rfl ?_ ?_ | refine RB.cellsB rfl rfl ?_ ?_ | refine RB.mapB rfl rfl ?_ ?_)), (by repeat (first | exact RT.nil | (refine RT.cons ?_ ?_; · (first | exact Rn.any | exact Rn.x1 rfl rfl | exact Rn.x2 rfl rfl | exact Rn.x3 rfl rfl | exact Rn.x4 rfl rfl | exact Rn.x5 rfl | exact Rn.x6 rfl | exact Rn.x7 rfl | (refine Rn.slot ?_ ?_; (first | rfl | (rw [Int.natCast_add]; rfl)); (first | rfl | (simp only [noRef, noRefs, noRefs_append, Bool.and_self, Bool.and_true, Bool.true_and, noRefs_flat10, noRefs_ints, noRefs_lsts, noRefs_pad, noRefs_tnC, noRefs_arcC, noRefs_rowF, noRefs_flowC, noRef_tab]; done))) | (refine Rn.fn ?_ ?_ <;> (repeat' (first | exact RnL.nil | refine RnL.cons ?_ ?_ | exact Rn.same rfl | exact Rn.x6 rfl | exact Rn.x2 rfl rfl | exact Rn.x5 rfl | exact Rn.x1 rfl rfl)))))))⟩
  · have e : a = F.length := by omega
    subst e
    have hcl := covR_lt hs
    rw [List.take_length]
    simp (maxSteps := 1000000) (disch := first | omega | (simp only [lenW] <;> omega)) only [hlt, hsh, wordsN, Int.reduceGT, wordsR, ne_eq, words, Nat.reduceAdd, Nat.reduceEqDiff, Nat.reduceBEq, ↓reduceIte, reduceCtorEq, SX.exit.injEq, if_true, if_false, Int.reduceAdd, Int.reduceSub, Int.reduceMul, Int.reduceLT, Int.reduceLE, Int.reduceEq, Int.reduceNe, Int.reduceNeg, Int.reduceToNat, Nat.reduceMul, Nat.reduceLT, Nat.reduceSub, Nat.reduceLeDiff]
    have e3 : (((covR F : Nat) : Int) = (p : Int) - 1) ↔ (covR F = p - 1) := by omega
    simp only [e3]
    exact ⟨.inr trivial, _, rfl, Rn.same rfl⟩
end Go.AM.SN
namespace Go.AM.SN
open Go.Proofs Go.AM.SK
set_option linter.unusedSimpArgs false
set_option linter.unusedVariables false
theorem visit_mem {R : List (List Int)} {F : List Flow} {s : List Nat} {f : Flow} (h : f ∈ visitR R F s) : f ∈ F ∨ ∃ l, kerR R s = some l ∧ (∀ x ∈ l, 0 ≤ x) ∧ f = (supOf s, scat s l) := by
  unfold visitR at h
  split at h
  · exact .inl h
  · split at h
    · exact .inl h
    · rename_i l hk
      split at h
      · exact .inl h
      · rename_i hn
        rcases List.mem_append.1 h with h | h
        · exact .inl h
        · simp only [List.mem_singleton] at h
          refine .inr ⟨l, hk, fun x hx => ?_, h⟩
          rw [Bool.not_eq_true, List.any_eq_false] at hn
          have := hn x hx
          simpa using this
theorem foldV_mem {R : List (List Int)} : ∀ {S : List (List Nat)} {F : List Flow} {f : Flow}, f ∈ foldV R F S → f ∈ F ∨ ∃ s ∈ S, ∃ l, kerR R s = some l ∧ (∀ x ∈ l, 0 ≤ x) ∧ f = (supOf s, scat s l)
  | [], F, f, h => .inl h
  | s :: S, F, f, h => by
    rcases foldV_mem (S := S) (F := visitR R F s) h with h | ⟨t, ht, h⟩
    · rcases visit_mem h with h | h
      · exact .inl h
      · exact .inr ⟨s, by simp, h⟩
    · exact .inr ⟨t, by simp [ht], h⟩
theorem minF_mem {R : List (List Int)} {K : Nat} : ∀ {m : Nat} {f : Flow}, f ∈ minF R K m → ∃ k s l, 0 < k ∧ k ≤ m ∧ s ∈ setsF k K 0 ∧ kerR R s = some l ∧ (∀ x ∈ l, 0 ≤ x) ∧ f = (supOf s, scat s l)
  | 0, f, h => by simp [minF] at h
  | m + 1, f, h => by
    rcases foldV_mem h with h | ⟨s, hs, l, h1, h2, h3⟩
    · obtain ⟨k, s, l, a, b, c⟩ := minF_mem h
      exact ⟨k, s, l, a, by omega, c⟩
    · exact ⟨m + 1, s, l, by omega, by omega, hs, h1, h2, h3⟩
theorem scat_not {s : List Nat} {l : List Int} {c : Nat} (h : c ∉ s) (hl : l.length = s.length) : scat s l c = 0 := by
  have : ∀ i, i ≤ s.length → scat (s.take i) (l.take i) c = 0 := by
    intro i
    induction i with
    | zero => intro _; simp [scat]
    | succ i ih =>
      intro hi
      obtain ⟨d, hd⟩ := get_ex (l := s) (i := i) (by omega)
      obtain ⟨x, hx⟩ := get_ex (l := l) (i := i) (by omega)
      rw [scat_take hd hx]
      have hne : c ≠ d := fun e => h (e ▸ List.mem_of_getElem? hd)
      simp only [if_neg hne]
      exact ih (by omega)
  have h1 := this s.length (Nat.le_refl _)
  rw [List.take_length, ← hl, List.take_length] at h1; exact h1
theorem scat_at {s : List Nat} {l : List Int} {p c : Nat} {x : Int} (hs : s.Pairwise (· < ·)) (hl : l.length = s.length) (hc : s[p]? = some c) (hx : l[p]? = some x) : scat s l c = x := by
  have : ∀ i, i ≤ s.length → p < i → scat (s.take i) (l.take i) c = x := by
    intro i
    induction i with
    | zero => intro _ h; omega
    | succ i ih =>
      intro hi hp
      obtain ⟨d, hd⟩ := get_ex (l := s) (i := i) (by omega)
      obtain ⟨y, hy⟩ := get_ex (l := l) (i := i) (by omega)
      rw [scat_take hd hy]
      by_cases e : p = i
      · subst e
        rw [hc] at hd; cases hd
        rw [hx] at hy; cases hy
        simp
      · have hlt : p < i := by omega
        have hne : c ≠ d := by
          obtain ⟨h1, e1⟩ := List.getElem?_eq_some_iff.1 hc
          obtain ⟨h2, e2⟩ := List.getElem?_eq_some_iff.1 hd
          have := List.pairwise_iff_getElem.1 hs p i h1 h2 hlt
          omega
        simp only [if_neg hne]
        exact ih (by omega) hlt
  have hp := (List.getElem?_eq_some_iff.1 hc).1
  have h1 := this s.length (Nat.le_refl _) hp
  rw [List.take_length, ← hl, List.take_length] at h1; exact h1
theorem scat_cases (s : List Nat) (l : List Int) (c : Nat) : scat s l c = 0 ∨ scat s l c ∈ l := by
  unfold scat
  have : ∀ (z : List (Nat × Int)) (f : Nat → Int), (f c = 0 ∨ f c ∈ l) → (∀ p ∈ z, p.2 ∈ l) → ((z.foldl (fun f p => fun c => if c = p.1 then p.2 else f c) f) c = 0 ∨ (z.foldl (fun f p => fun c => if c = p.1 then p.2 else f c) f) c ∈ l) := by
    intro z
    induction z with
    | nil => intro f hf _; exact hf
    | cons p z ih =>
      intro f hf hz
      rw [List.foldl_cons]
      refine ih _ ?_ fun q hq => hz q (by simp [hq])
      by_cases e : c = p.1
      · simp only [if_pos e]; exact .inr (hz p (by simp))
      · simp only [if_neg e]; exact hf
  exact this _ _ (.inl rfl) fun p hp => (List.of_mem_zip hp).2
theorem sumN_upd (a f : Nat → Int) (c : Nat) (x : Int) (h0 : f c = 0) : ∀ n, sumN (fun j => a j * (if j = c then x else f j)) n = sumN (fun j => a j * f j) n + if c < n then a c * x else 0
  | 0 => by simp [sumN]
  | n + 1 => by
    have ih := sumN_upd a f c x h0 n
    simp only [sumN, ih]
    by_cases e : n = c
    · subst e
      simp [h0]
    · have e' : ¬ c = n := fun h => e h.symm
      by_cases h : c < n
      · rw [if_pos h, if_neg e, if_pos (by omega)]; omega
      · rw [if_neg h, if_neg e, if_neg (by omega)]; omega
theorem scat_sum {s : List Nat} {l : List Int} {r : List Int} (hs : s.Pairwise (· < ·)) (hl : l.length = s.length) (hc : ∀ c ∈ s, c < r.length) : rowSum r ((List.range r.length).map (scat s l)) = rowSum (rrow s r) l := by
  have : ∀ i, i ≤ s.length → rowSum r ((List.range r.length).map (scat (s.take i) (l.take i))) = rowSum ((rrow s r).take i) (l.take i) := by
    intro i
    induction i with
    | zero =>
      intro _
      rw [rowSum_sumN]
      have : ∀ n, sumN (fun c => r.getD c 0 * scat (s.take 0) (l.take 0) c) n = 0 := by
        intro n
        induction n with
        | zero => rfl
        | succ n ih => simp only [sumN, ih]; simp [scat]
      rw [this]; simp [rowSum]
    | succ i ih =>
      intro hi
      obtain ⟨d, hd⟩ := get_ex (l := s) (i := i) (by omega)
      obtain ⟨y, hy⟩ := get_ex (l := l) (i := i) (by omega)
      have h0 : scat (s.take i) (l.take i) d = 0 := by
        refine scat_not ?_ (by simp [hl])
        intro hm
        obtain ⟨j, hj, hjd⟩ := mem_at hm
        have hjlt : j < i := by
          have := (List.getElem?_eq_some_iff.1 hj).1
          rw [List.length_take] at this; omega
        rw [List.getElem?_take_of_lt hjlt] at hj
        obtain ⟨h1, e1⟩ := List.getElem?_eq_some_iff.1 hj
        obtain ⟨h2, e2⟩ := List.getElem?_eq_some_iff.1 hd
        have := List.pairwise_iff_getElem.1 hs j i h1 h2 hjlt
        omega
      have ih := ih (by omega)
      rw [rowSum_sumN] at ih
      rw [rowSum_sumN, scat_take hd hy, sumN_upd _ _ _ _ h0, if_pos (hc d (List.mem_of_getElem? hd)), ih]
      have hr : (rrow s r)[i]? = some (r.getD d 0) := by simp [rrow, hd]
      rw [rowSum_take hr hy]
  have h1 := this s.length (Nat.le_refl _)
  have hrl : (rrow s r).length = s.length := by simp [rrow]
  rw [List.take_length, ← hl, List.take_length, hl, ← hrl, List.take_length] at h1
  exact h1
theorem minF_propG {B C : Nat} (hbd : ∀ {n : Nat} {P : Nat → Rw} {K : Nat → Nat} {s : Nat} {M : Mx} {last : Int}, (∀ j c, (P j c).natAbs ≤ B) → s ≤ 4 → Rel n P K s M last → last.natAbs ≤ C ∧ ∀ l c, l < s → c < n → (M l c).natAbs ≤ C)
    {R : List (List Int)} {K : Nat} (hK : K ≤ 5) (hRk : ∀ r ∈ R, r.length = K) (hB : ∀ r ∈ R, ∀ x ∈ r, x.natAbs ≤ B) {f : Flow} (h : f ∈ minF R K K) :
    (∀ i, 0 ≤ f.2 i ∧ f.2 i ≤ C) ∧ (∀ r ∈ R, rowSum r ((List.range K).map f.2) = 0) ∧ ∃ i, i < K ∧ f.2 i ≠ 0 := by
  obtain ⟨k, s, l, hk0, hkm, hs, hker, hl0, rfl⟩ := minF_mem h
  obtain ⟨hsl, hsc, hsp⟩ := sets_props K (by omega) k (by omega) s hs
  obtain ⟨hll, hlx, hz⟩ := ker_propG hbd (by omega) (by omega) hB hker
  refine ⟨fun i => ?_, fun r hr => ?_, ?_⟩
  · rcases scat_cases s l i with e | e
    · dsimp only; rw [e]; omega
    · have := (hlx _ e).2; have := hl0 _ e; dsimp only; omega
  · have := scat_sum (r := r) hsp hll (fun c hc => by rw [hRk r hr]; exact hsc c hc)
    rw [hRk r hr] at this
    rw [this]; exact hz r hr
  · obtain ⟨c, hc⟩ := get_ex (l := s) (i := 0) (by omega)
    obtain ⟨x, hx⟩ := get_ex (l := l) (i := 0) (by omega)
    refine ⟨c, hsc c (List.mem_of_getElem? hc), ?_⟩
    dsimp only
    rw [scat_at hsp hll hc hx]
    exact (hlx x (List.mem_of_getElem? hx)).1
theorem minF_prop {R : List (List Int)} {K : Nat} (hK : K ≤ 5) (hRk : ∀ r ∈ R, r.length = K) (hB : ∀ r ∈ R, ∀ x ∈ r, x.natAbs ≤ 2) {f : Flow} (h : f ∈ minF R K K) :
    (∀ i, 0 ≤ f.2 i ∧ f.2 i ≤ 384) ∧ (∀ r ∈ R, rowSum r ((List.range K).map f.2) = 0) ∧ ∃ i, i < K ∧ f.2 i ≠ 0 := minF_propG (fun h1 h2 h3 => h3.bd2 h1 h2) hK hRk hB h
abbrev minL (R : List (List Int)) (K : Nat) : List (List Int) := listR K (minF R K K)
theorem minL_prop {R : List (List Int)} {K : Nat} (hK : K ≤ 5) (hRk : ∀ r ∈ R, r.length = K) (hB : ∀ r ∈ R, ∀ x ∈ r, x.natAbs ≤ 2) {w : List Int} (h : w ∈ minL R K) :
    w.length = K ∧ (∀ x ∈ w, 0 ≤ x ∧ x ≤ 384) ∧ (∀ r ∈ R, rowSum r w = 0) ∧ w.all (· == 0) = false := by
  unfold minL listR at h
  obtain ⟨f, hf, rfl⟩ := List.mem_map.1 h
  obtain ⟨h1, h2, i, hi, h3⟩ := minF_prop hK hRk hB hf
  refine ⟨by simp, fun x hx => ?_, h2, ?_⟩
  · obtain ⟨j, _, rfl⟩ := List.mem_map.1 hx; exact h1 j
  · rw [Bool.eq_false_iff]
    intro ha
    have := List.all_eq_true.1 ha (f.2 i) (List.mem_map.2 ⟨i, by simpa using hi, rfl⟩)
    exact h3 (by simpa using this)
theorem minL_len {R : List (List Int)} {K : Nat} (hK : K ≤ 5) : (minL R K).length ≤ 50 := by
  have := minF_len R (K := K) (by omega) K (by omega)
  simp only [minL, listR, List.length_map]; omega
end Go.AM.SN
namespace Go.AM.SN
open Go.Proofs Go.AM.SK
set_option linter.unusedSimpArgs false
set_option linter.unusedVariables false
structure Tiny (x : Nt) : Prop where
  places : x.ini.length ≤ 5
  trans : x.tr.length ≤ 5
  two : ∀ p, ∀ y ∈ incR x p, y.natAbs ≤ 2
theorem weightR_cases (l : List (Int × Int)) (p : Int) : weightR l p = 0 ∨ ∃ a ∈ l, weightR l p = a.2 := by
  induction l with
  | nil => exact .inl rfl
  | cons a l ih =>
    unfold weightR
    split
    · exact .inr ⟨a, by simp, rfl⟩
    · rcases ih with h | ⟨b, hb, h⟩
      · exact .inl h
      · exact .inr ⟨b, by simp [hb], h⟩
theorem arcR_two (row : List Nat) (f : Nat → Nat) (n : Nat) (hf : ∀ k, k < 9 → f k ≤ 2) (p : Int) : 0 ≤ weightR (arcR row f n) p ∧ weightR (arcR row f n) p ≤ 2 := by
  rcases weightR_cases (arcR row f n) p with h | ⟨a, ha, h⟩
  · rw [h]; omega
  · obtain ⟨q, _, _, h2, _⟩ := arcR_mem ha
    have := hf (row.getD q 0 % 9) (Nat.mod_lt _ (by decide))
    rw [h, h2]; omega
theorem mkN_tiny (s : Sm) : Tiny (mkN s) where
  places := by rw [mkN_places]; unfold plN; omega
  trans := by rw [mkN_trans]; omega
  two := fun p y hy => by
    simp only [incR, mkN, trR, List.map_map, List.mem_map, List.mem_range] at hy
    obtain ⟨k, _, rfl⟩ := hy
    have h1 := arcR_two (s.mv.getD k []) (· % 3) (plN s) (fun k _ => by show k % 3 ≤ 2; omega) p
    have h2 := arcR_two (s.mv.getD k []) (· / 3) (plN s) (fun k _ => by show k / 3 ≤ 2; omega) p
    simp only [Function.comp]
    omega
theorem tab_two {x : Nt} (ht : Tiny x) (kind : Int) : ∀ r ∈ tabR x kind, ∀ y ∈ r, y.natAbs ≤ 2 := by
  refine tabR_all kind (q := fun r => ∀ y ∈ r, y.natAbs ≤ 2) ht.two fun t y hy => ?_
  simp only [colR, List.mem_map] at hy
  obtain ⟨p, _, rfl⟩ := hy
  rw [List.getD_eq_getElem?_getD]
  cases hk : (incR x p)[t]? with
  | none => simp
  | some z => simpa using ht.two p z (List.mem_of_getElem? hk)
theorem tabC_five {x : Nt} (ht : Tiny x) (kind : Int) : tabC x kind ≤ 5 := by
  have := ht.places; have := ht.trans
  unfold tabC; split <;> omega
theorem tabR_cnt {x : Nt} (ht : Tiny x) (kind : Int) : (tabR x kind).length ≤ 5 := by
  have := ht.places; have := ht.trans
  unfold tabR; split <;> simp [colM, incM] <;> omega
abbrev minN (x : Nt) (kind : Int) : List (List Int) := minL (tabR x kind) (tabC x kind)
theorem MinimalN (x : Nt) (ho : NetOk x) (ht : Tiny x) (kind : Int) (hk : kind = 1 ∨ kind = 2) : PSpec Try.prog 14 [netV x, .int .i64 kind] (.tup [lsts (minN x kind), .int .i64 0]) := by
  have h2 := tab_two ht kind
  refine MinimalT x kind _ _ (newTable x ho kind hk) (tabC_five ht kind) (by have := tabR_cnt ht kind; omega) (tabR_len x kind) (fun r hr y hy => by have := h2 r hr y hy; omega) fun f hf i _ => ?_
  have := (minF_prop (tabC_five ht kind) (tabR_len x kind) h2 hf).1 i
  omega
theorem minN_prop {x : Nt} (ht : Tiny x) (kind : Int) {w : List Int} (h : w ∈ minN x kind) : w.length = tabC x kind ∧ (∀ y ∈ w, 0 ≤ y ∧ y ≤ 384) ∧ (∀ r ∈ tabR x kind, rowSum r w = 0) ∧ w.all (· == 0) = false :=
  minL_prop (tabC_five ht kind) (tabR_len x kind) (tab_two ht kind) h
theorem minN_len {x : Nt} (ht : Tiny x) (kind : Int) : (minN x kind).length ≤ 50 := minL_len (tabC_five ht kind)
end Go.AM.SN
set_option linter.unusedSimpArgs false
set_option linter.unusedVariables false
namespace Go.AM
variable {P : Program}
section
variable {N : NM} {n : Nat} {d : Option Nat} {dead : List Nat} {r : List SOper} {T : Tmps} {h : Heap} {Q : QC} {fs : List Fr}
theorem aAppend_slF {sz bytes len b2 g2 off2 len2 : Nat} {cs : List AV} : wM P N (aAppend .dyn n sz bytes (.sl b2 g2 off2 len2 sz) (.fsl cs len sz)) d r dead fs n T h Q =
    wA P N (srcB (h.get b2) g2 off2 len2 sz) (some cs) g2 len2 len sz bytes b2 d r dead fs n T h Q := by
  simp only [aAppend, aSrc, if_true, slLen, wM_cells, wM_ite, wM_put]
  apply propext; constructor
  · rintro ⟨h2, cs2, hb2, h3, h4⟩
    rw [hb2, srcB_some, if_pos ⟨rfl, h3⟩]
    exact ⟨_, _, rfl, rfl, ⟨h2.1, h2.2.1⟩, h2.2.2, h4⟩
  · rintro ⟨ys, zs, hy, hz, h2, h3, h4⟩
    cases hy
    unfold srcB at hz
    split at hz
    · rename_i g3 cs2 hb2
      split at hz
      · rename_i e2
        obtain ⟨rfl, e2⟩ := e2
        cases hz
        exact ⟨⟨h2.1, h2.2, h3⟩, cs2, hb2, e2, h4⟩
      · cases hz
    · cases hz
theorem aAppend_slN {sz bytes b2 g2 off2 len2 : Nat} : wM P N (aAppend .dyn n sz bytes (.sl b2 g2 off2 len2 sz) .nilsl) d r dead fs n T h Q =
    wA P N (srcB (h.get b2) g2 off2 len2 sz) (some []) g2 len2 0 sz bytes b2 d r dead fs n T h Q := by
  simp only [aAppend, aSrc, if_true, slLen, wM_cells, wM_ite, wM_put]
  apply propext; constructor
  · rintro ⟨h2, cs2, hb2, h3, h4⟩
    rw [hb2, srcB_some, if_pos ⟨rfl, h3⟩]
    exact ⟨_, _, rfl, rfl, ⟨h2.1, h2.2.1⟩, h2.2.2, h4⟩
  · rintro ⟨ys, zs, hy, hz, h2, h3, h4⟩
    cases hy
    unfold srcB at hz
    split at hz
    · rename_i g3 cs2 hb2
      split at hz
      · rename_i e2
        obtain ⟨rfl, e2⟩ := e2
        cases hz
        exact ⟨⟨h2.1, h2.2, h3⟩, cs2, hb2, e2, h4⟩
      · cases hz
    · cases hz
end
theorem aSlice_fslL {cs : List AV} {len sz : Nat} {k : IntKind} {a : Int} : aSliceC (some sz) (.fsl cs len sz) (some (.int k a)) none none =
    if 0 ≤ a ∧ a ≤ len then some (.fsl ((cs.drop (a.toNat * sz)).take ((len - a.toNat) * sz)) (len - a.toNat) sz) else none := by
  simp only [aSliceC, if_true, aSlice, bnd, Int.le_refl, Int.toNat_natCast, and_true]
theorem aSlice_fslH {cs : List AV} {len sz : Nat} {k : IntKind} {b : Int} : aSliceC (some sz) (.fsl cs len sz) none (some (.int k b)) none =
    if 0 ≤ b ∧ b ≤ len then some (.fsl (cs.take (b.toNat * sz)) b.toNat sz) else none := by
  simp only [aSliceC, if_true, aSlice, bnd, Int.le_refl, true_and, Int.toNat_zero, Nat.zero_mul, List.drop_zero, Nat.sub_zero]
theorem aSlice_fslB {cs : List AV} {len sz : Nat} {k k2 : IntKind} {a b : Int} : aSliceC (some sz) (.fsl cs len sz) (some (.int k a)) (some (.int k2 b)) none =
    if 0 ≤ a ∧ a ≤ b ∧ b ≤ len then some (.fsl ((cs.drop (a.toNat * sz)).take ((b.toNat - a.toNat) * sz)) (b.toNat - a.toNat) sz) else none := by
  simp only [aSliceC, if_true, aSlice, bnd]
theorem aSlice_slL {b g off len sz : Nat} {k : IntKind} {a : Int} : aSliceC (some sz) (.sl b g off len sz) (some (.int k a)) none none =
    if 0 ≤ a ∧ a ≤ len then some (.sl b g (off + a.toNat * sz) (len - a.toNat) sz) else none := by
  simp only [aSliceC, if_true, aSlice, bnd, Int.le_refl, Int.toNat_natCast, true_and, Nat.zero_lt_succ, or_true, and_true]
theorem aSlice_slH {b g off len sz : Nat} {k : IntKind} {c : Int} : aSliceC (some sz) (.sl b g off len sz) none (some (.int k c)) none =
    if 0 ≤ c ∧ c ≤ len then some (.sl b g off c.toNat sz) else none := by
  simp only [aSliceC, if_true, aSlice, bnd, Int.le_refl, true_and, Int.toNat_zero, Nat.zero_mul, Nat.add_zero, Nat.sub_zero, Nat.zero_lt_succ, or_true, and_true]
theorem aSlice_slB {b g off len sz : Nat} {k k2 : IntKind} {a c : Int} : aSliceC (some sz) (.sl b g off len sz) (some (.int k a)) (some (.int k2 c)) none =
    if 0 ≤ a ∧ a ≤ c ∧ c ≤ len then some (.sl b g (off + a.toNat * sz) (c.toNat - a.toNat) sz) else none := by
  simp only [aSliceC, if_true, aSlice, bnd, Nat.zero_lt_succ, or_true, and_true]
end Go.AM
set_option linter.unusedSimpArgs false
set_option linter.unusedVariables false
namespace Go.AM
variable {P : Program}
def HM.tch {α : Type} (B : Nat → Prop) : HM α → Prop
  | .ret _ => True
  | .fail => True
  | .look b k => B b ∧ ∀ x, (k x).tch B
  | .put b _ k => B b ∧ k.tch B
theorem HM.tch_fp {α : Type} {B : Nat → Prop} (m : HM α) : m.tch B → ∀ h b, b ∈ (m.fp h).1 ∨ b ∈ (m.fp h).2 → B b := by
  induction m with
  | ret a => intro _ h b hb; simp [HM.fp] at hb
  | fail => intro _ h b hb; simp [HM.fp] at hb
  | look b k ih =>
    rintro ⟨h1, h2⟩ h b' hb
    simp only [HM.fp, List.mem_cons] at hb
    rcases hb with (rfl | hb) | hb
    · exact h1
    · exact ih _ (h2 _) h b' (.inl hb)
    · exact ih _ (h2 _) h b' (.inr hb)
  | put b x k ih =>
    rintro ⟨h1, h2⟩ h b' hb
    simp only [HM.fp, List.mem_cons] at hb
    rcases hb with hb | rfl | hb
    · exact ih h2 _ b' (.inl hb)
    · exact h1
    · exact ih h2 _ b' (.inr hb)
theorem HM.tch_bind {α β : Type} {B : Nat → Prop} {m : HM α} {f : α → HM β} (h1 : m.tch B) (h2 : ∀ a, (f a).tch B) : (m.bind f).tch B := by
  induction m with
  | ret a => exact h2 a
  | fail => trivial
  | look b k ih => exact ⟨h1.1, fun x => ih x (h1.2 x)⟩
  | put b x k ih => exact ⟨h1.1, ih h1.2⟩
theorem tch_opt {α : Type} {B : Nat → Prop} (o : Option α) : (HM.opt o).tch B := by cases o <;> trivial
theorem tch_cells {α : Type} {B : Nat → Prop} {b g : Nat} {k : List AV → HM α} (hb : B b) (hk : ∀ cs, (k cs).tch B) : (HM.cells b g k).tch B := by
  refine ⟨hb, fun x => ?_⟩
  match x with
  | some (.cells g' cs) =>
    simp only
    cases Nat.beq g' g <;> first | exact trivial | exact hk cs
  | some (.map _ _) => trivial
  | some (.dead _) => trivial
  | none => trivial
theorem tch_new {α : Type} {B : Nat → Prop} {i : Nat} {x : Nat → Blk} {k : Nat → Nat → HM α} (hb : B i) (hk : ∀ b g, (k b g).tch B) : (HM.new .dyn i x k).tch B := by
  refine ⟨hb, fun y => ?_⟩
  match y with
  | none => exact ⟨hb, hk _ _⟩
  | some z => trivial
def blks : AV → Option (List Nat)
  | .ptr b _ _ => some [b]
  | .sl b _ _ _ _ => some [b]
  | .map b _ => some [b]
  | .any => none
  | .agg _ => none
  | .tup [] => some []
  | .tup _ => none
  | .fn _ _ _ => none
  | .ifc _ _ => none
  | _ => some []
def Pts (v : AV) (bs : List Nat) : Prop := ∃ cs, blks v = some cs ∧ ∀ b ∈ cs, b ∈ bs
theorem Pts.mono {v : AV} {bs cs : List Nat} (h : Pts v bs) (hs : ∀ b ∈ bs, b ∈ cs) : Pts v cs := by
  obtain ⟨ds, h1, h2⟩ := h
  exact ⟨ds, h1, fun b hb => hs b (h2 b hb)⟩
abbrev Abs := List (Nat × Option (List Nat))
def absT (T : Tmps) : Abs → Nat → Option (List Nat)
  | [], i => blks (lk T i)
  | (j, a) :: r, i => bif Nat.beq j i then a else absT T r i
def absO (T : Tmps) (A : Abs) : Opd → Option (List Nat)
  | .t i => absT T A i
  | .c v => blks v
  | _ => none
def SOp.absV (i : Nat) (ax : Opd → Option (List Nat)) : SOp → Option (List Nat)
  | .mov x => ax x
  | .slice _ x _ _ _ => ax x
  | .iaddr _ _ x _ => ax x
  | .faddr _ x => ax x
  | .alloc .dyn _ => some [i]
  | .box .dyn _ => some [i]
  | .bslice false .dyn _ _ _ _ => some [i]
  | .mkslice .dyn _ _ _ _ _ => some [i]
  | .mkmap .dyn => some [i]
  | .append .dyn _ _ x _ => (ax x).map fun bs => i :: bs
  | _ => none
def SOp.touch (i : Nat) (ax : Opd → Option (List Nat)) : SOp → Option (List Nat)
  | .load _ x => ax x
  | .store _ x _ => ax x
  | .len _ x => ax x
  | .alloc .dyn _ => some [i]
  | .box .dyn _ => some [i]
  | .bslice _ .dyn _ _ _ _ => some [i]
  | .mkslice .dyn _ _ _ _ _ => some [i]
  | .mkmap .dyn => some [i]
  | .append .dyn _ _ x y => match ax x, ax y with
    | some a, some b => some (i :: (a ++ b))
    | _, _ => none
  | .copy _ x y => match ax x, ax y with
    | some a, some b => some (a ++ b)
    | _, _ => none
  | .lookup _ _ _ _ x _ => ax x
  | .mupd _ _ x _ _ => ax x
  | s => bif Nat.beq s.cls 0 then some [] else none
def touches (n : Nat) (T : Tmps) : List SOper → Abs → List (Option (List Nat))
  | [], _ => []
  | s :: r, A => s.op.touch n (absO T A) :: touches (n + 1) T r (match s.dst with | some d => (d, s.op.absV n (absO T A)) :: A | none => A)
def pairsOK (ts : List (Option (List Nat))) (ps : List (Nat × Nat)) : Bool :=
  ps.all fun p => match ts.getD p.1 none, ts.getD p.2 none with
    | some a, some b => a.all fun x => !b.elem x
    | _, _ => false
section
variable {i : Nat} {T : Tmps} {ax : Opd → Option (List Nat)} {B : Nat → Prop}
theorem tch_load {n : Option Nat} {v : AV} {bs : List Nat} (h : Pts v bs) : (aLoad n v).tch (· ∈ bs) := by
  obtain ⟨cs, h1, h2⟩ := h
  unfold aLoad
  split
  · simp only [blks, Option.some.injEq] at h1
    subst h1
    refine tch_cells (h2 _ (by simp)) fun cs => ?_
    split
    · exact tch_opt _
    · split <;> trivial
  · split
    · exact tch_opt _
    · split <;> trivial
  · trivial
theorem tch_store {n : Nat} {v u : AV} {bs : List Nat} (h : Pts v bs) : (aStore n v u).tch (· ∈ bs) := by
  obtain ⟨cs, h1, h2⟩ := h
  unfold aStore
  split
  · simp only [blks, Option.some.injEq] at h1
    subst h1
    have hb := h2 _ (List.mem_singleton.2 rfl)
    refine tch_cells hb fun cs => ?_
    split
    · exact ⟨hb, trivial⟩
    · trivial
  · trivial
theorem tch_len {k : Nat} {v : AV} {bs : List Nat} (h : Pts v bs) : (aLenC k v).tch (· ∈ bs) := by
  obtain ⟨cs, h1, h2⟩ := h
  unfold aLenC
  split
  · unfold aLen
    split <;> try trivial
    simp only [blks, Option.some.injEq] at h1
    subst h1
    refine ⟨h2 _ (by simp), fun y => ?_⟩
    match y with
    | some (.map g' es) =>
      simp only
      generalize Nat.beq g' _ = t
      cases t <;> trivial
    | some (.cells _ _) => trivial
    | some (.dead _) => trivial
    | none => trivial
  · trivial
theorem tch_src {sz : Nat} {v : AV} {bs : List Nat} {k : List AV → Nat → HM AV} (h : Pts v bs) (hs : ∀ b ∈ bs, B b) (hk : ∀ ys n, (k ys n).tch B) : (aSrc sz v k).tch B := by
  obtain ⟨cs, h1, h2⟩ := h
  unfold aSrc
  split
  · simp only [blks, Option.some.injEq] at h1
    subst h1
    split
    · refine tch_cells (hs _ (h2 _ (by simp))) fun cs => ?_
      split
      · exact hk _ _
      · trivial
    · trivial
  · split
    · exact hk _ _
    · trivial
  · exact hk _ _
  · exact hk _ _
  · split
    · exact hk _ _
    · trivial
  · trivial
theorem tch_append {sz bytes : Nat} {x y : AV} {a b : List Nat} (hx : Pts x a) (hy : Pts y b) : (aAppend .dyn i sz bytes x y).tch (· ∈ i :: (a ++ b)) := by
  unfold aAppend
  refine tch_src hy (fun c hc => by simp [hc]) fun ys n => ?_
  split
  · obtain ⟨cs, h1, h2⟩ := hx
    split
    · split
      · trivial
      · exact tch_new (by simp) fun _ _ => trivial
    · split
      · trivial
      · exact tch_new (by simp) fun _ _ => trivial
    · split <;> trivial
    · simp only [blks, Option.some.injEq] at h1
      subst h1
      have hb := h2 _ (List.mem_singleton.2 rfl)
      split
      · refine tch_cells (by simp [hb]) fun cs => ?_
        split
        · exact ⟨by simp [hb], trivial⟩
        · trivial
      · trivial
    · trivial
  · trivial
theorem tch_copy {sz : Nat} {x y : AV} {a b : List Nat} (hx : Pts x a) (hy : Pts y b) : (aCopy sz x y).tch (· ∈ a ++ b) := by
  obtain ⟨cs, h1, h2⟩ := hx
  unfold aCopy
  split
  · simp only [blks, Option.some.injEq] at h1
    subst h1
    have hb := h2 _ (List.mem_singleton.2 rfl)
    split
    · refine tch_src hy (fun c hc => by simp [hc]) fun ys n => ?_
      refine tch_cells (by simp [hb]) fun cs => ?_
      split
      · exact ⟨by simp [hb], trivial⟩
      · trivial
    · trivial
  · exact tch_src hy (fun c hc => by simp [hc]) fun ys n => trivial
  · exact tch_src hy (fun c hc => by simp [hc]) fun ys n => trivial
  · trivial
theorem tch_entries {α : Type} {b g : Nat} {k : List (AV × AV) → HM α} (hb : B b) (hk : ∀ es, (k es).tch B) : (HM.entries b g k).tch B := by
  refine ⟨hb, fun x => ?_⟩
  match x with
  | some (.map g' es) =>
    simp only
    cases Nat.beq g' g <;> first | exact trivial | exact hk es
  | some (.cells _ _) => trivial
  | some (.dead _) => trivial
  | none => trivial
theorem tch_lookup {row ok : Bool} {ks : List LK} {z x k : AV} {bs : List Nat} (h : Pts x bs) : (aLookup row ks z ok x k).tch (· ∈ bs) := by
  obtain ⟨cs, h1, h2⟩ := h
  unfold aLookup
  split
  · split
    · trivial
    · simp only [blks, Option.some.injEq] at h1
      subst h1
      refine tch_entries (h2 _ (by simp)) fun es => ?_
      split <;> trivial
    · trivial
  · trivial
theorem tch_mupd {row : Bool} {ks : List LK} {x k v : AV} {bs : List Nat} (h : Pts x bs) : (aMapUpd row ks x k v).tch (· ∈ bs) := by
  obtain ⟨cs, h1, h2⟩ := h
  unfold aMapUpd
  split
  · split
    · simp only [blks, Option.some.injEq] at h1
      subst h1
      have hb := h2 _ (List.mem_singleton.2 rfl)
      refine tch_entries hb fun es => ?_
      split
      · exact ⟨hb, trivial⟩
      · exact ⟨hb, trivial⟩
      · trivial
    · trivial
  · trivial
theorem tch_hval {m : HM AV} (h : m.tch B) : (hval m).tch B := HM.tch_bind h fun _ => trivial
theorem touch_op {s : SOp} {ts : List Nat} (hax : ∀ x bs, ax x = some bs → Pts (ev T x) bs) (h : s.touch i ax = some ts) : s.cls ≠ 0 → (aop i T s).tch (· ∈ ts) ∧ ∀ m x asx, s ≠ .call m x asx := by
  intro h0
  have new1 : ∀ {x : Nat → Blk} {r : Nat → Nat → AV}, (HM.new .dyn i x fun b g => .ret (r b g)).tch (· ∈ [i]) := fun {x r} => tch_new (by simp) fun _ _ => trivial
  cases s <;> try (exact absurd rfl h0)
  · rename_i s z
    cases s <;> simp only [SOp.touch, SOp.cls, show Nat.beq 2 0 = false from rfl, cond_false, reduceCtorEq, Option.some.injEq] at h
    subst h
    refine ⟨tch_hval ?_, fun _ _ _ => by simp⟩
    unfold aBox; split
    · exact new1
    · trivial
  · rename_i s z
    cases s <;> simp only [SOp.touch, SOp.cls, show Nat.beq 2 0 = false from rfl, cond_false, reduceCtorEq, Option.some.injEq] at h
    subst h
    refine ⟨tch_hval ?_, fun _ _ _ => by simp⟩
    unfold aBox; split
    · exact new1
    · trivial
  · rename_i fz s sz len z ps
    cases s <;> simp only [SOp.touch, SOp.cls, show Nat.beq 2 0 = false from rfl, cond_false, reduceCtorEq, Option.some.injEq] at h
    subst h
    refine ⟨tch_hval ?_, fun _ _ _ => by simp⟩
    unfold aBuildSlice
    split
    · split
      · split
        · split <;> trivial
        · exact new1
      · trivial
    · trivial
  · exact ⟨tch_hval (tch_load (hax _ _ h)), fun _ _ _ => by simp⟩
  · exact ⟨tch_hval (tch_store (hax _ _ h)), fun _ _ _ => by simp⟩
  · simp only [SOp.touch, SOp.cls, show Nat.beq 1 0 = false from rfl, cond_false, reduceCtorEq] at h
  · rename_i s
    cases s <;> simp only [SOp.touch, SOp.cls, show Nat.beq 2 0 = false from rfl, cond_false, reduceCtorEq, Option.some.injEq] at h
    subst h
    exact ⟨tch_hval new1, fun _ _ _ => by simp⟩
  · rename_i s sz b z l c
    cases s <;> simp only [SOp.touch, SOp.cls, show Nat.beq 2 0 = false from rfl, cond_false, reduceCtorEq, Option.some.injEq] at h
    subst h
    refine ⟨tch_hval ?_, fun _ _ _ => by simp⟩
    unfold aMakeSlice
    split
    · split
      · exact new1
      · trivial
    · trivial
  · exact ⟨tch_hval (tch_lookup (hax _ _ h)), fun _ _ _ => by simp⟩
  · exact ⟨tch_hval (tch_mupd (hax _ _ h)), fun _ _ _ => by simp⟩
  · exact ⟨tch_hval (tch_len (hax _ _ h)), fun _ _ _ => by simp⟩
  · rename_i s sz b x y
    cases s <;> simp only [SOp.touch, SOp.cls, show Nat.beq 2 0 = false from rfl, cond_false, reduceCtorEq] at h
    split at h
    · rename_i a b ha hb
      cases h
      exact ⟨tch_hval (tch_append (hax _ _ ha) (hax _ _ hb)), fun _ _ _ => by simp⟩
    · cases h
  · rename_i sz x y
    simp only [SOp.touch] at h
    split at h
    · rename_i a b ha hb
      cases h
      exact ⟨tch_hval (tch_copy (hax _ _ ha) (hax _ _ hb)), fun _ _ _ => by simp⟩
    · cases h
  · rename_i m x asx
    exfalso
    simp only [SOp.touch] at h
    have : Nat.beq (SOp.call m x asx).cls 0 = false := by cases m <;> rfl
    rw [this] at h; cases h
theorem touch_sound {s : SOper} {h h1 : Heap} {v : AV} {f : FP} {ts : List Nat} (hax : ∀ x bs, ax x = some bs → Pts (ev T x) bs) (ht : s.op.touch i ax = some ts) (hs : StepV P i s T h v h1 f) :
    f.all = false ∧ ∀ b, b ∈ f.R ∨ b ∈ f.W → b ∈ ts := by
  by_cases h0 : s.op.cls = 0
  · obtain ⟨k1, k2, k3⟩ := hs.cls (by omega)
    exact ⟨k1, fun b hb => by rw [k2, k3 h0] at hb; simp at hb⟩
  obtain ⟨t1, t2⟩ := touch_op hax ht h0
  have key : ∀ {s' : SOp}, s' = s.op → StepX P i s' T h v h1 f → f.all = false ∧ ∀ b, b ∈ f.R ∨ b ∈ f.W → b ∈ ts := by
    rintro s' rfl ⟨out, h2, hm, ho⟩
    have fin : f = fpOf ((aop i T s.op).fp h) → f.all = false ∧ ∀ b, b ∈ f.R ∨ b ∈ f.W → b ∈ ts := by
      rintro rfl; exact ⟨rfl, fun b hb => HM.tch_fp _ t1 h b hb⟩
    match out, ho with
    | .val u, ho => exact fin ho.2.2
    | .call .pure f' args, ho => exact fin ho.2.2
    | .call .borrow f' args, ho => exact fin ho.2.2.2
    | .call .heap f' args, ho =>
      exfalso
      cases hso : s.op with
      | call m x asx => exact t2 m x asx hso
      | _ =>
        rw [hso] at hm
        first
          | (obtain ⟨u, hu, he⟩ := run_lift hm; cases he)
          | (obtain ⟨u, h3, hu, he⟩ := run_hval hm; cases he)
          | (simp [aop, HM.run] at hm)
  unfold StepV at hs
  split at hs
  · exact key rfl hs
  · obtain ⟨t, _, hs⟩ := hs
    split at hs
    · exact key rfl hs
    · obtain ⟨_, _, rfl⟩ := hs; exact ⟨rfl, fun b hb => by simp at hb⟩
theorem Pts.slice {n : Option Nat} {x v : AV} {l h m : Option AV} {bs : List Nat} (hx : Pts x bs) (hv : aSliceC n x l h m = some v) : Pts v bs := by
  obtain ⟨cs, h1, h2⟩ := hx
  have key : aSlice x l h m = some v → Pts v bs := by
    intro hv
    unfold aSlice at hv
    have nil : ∀ {v : AV}, blks v = some [] → Pts v bs := fun h => ⟨[], h, fun b hb => by cases hb⟩
    split at hv
    · cases hv
    · split at hv
      · split at hv
        · split at hv
          · split at hv <;> first | (cases hv; exact nil rfl) | cases hv
          · cases hv
        · cases hv
      · cases hv
      · split at hv
        · split at hv
          · cases hv
          · split at hv
            · cases hv; exact ⟨cs, h1, h2⟩
            · cases hv
        · split at hv
          · cases hv
          · split at hv
            · cases hv; exact nil rfl
            · cases hv
        · split at hv
          · cases hv
          · split at hv
            · cases hv; exact nil rfl
            · cases hv
        · split at hv
          · cases hv
          · split at hv
            · cases hv; exact nil rfl
            · cases hv
        · split at hv
          · cases hv
          · split at hv
            · cases hv; exact nil rfl
            · cases hv
        · cases hv
  unfold aSliceC at hv
  split at hv <;> first | exact key hv | cases hv | (split at hv; exact key hv; cases hv)
theorem Pts.iaddr {a : Option Nat} {sz : Nat} {x j v : AV} {bs : List Nat} (hx : Pts x bs) (hv : aIAddr a sz x j = some v) : Pts v bs := by
  obtain ⟨cs, h1, h2⟩ := hx
  have nil : ∀ {v : AV}, blks v = some [] → Pts v bs := fun h => ⟨[], h, fun b hb => by cases hb⟩
  unfold aIAddr at hv
  split at hv
  · split at hv <;> first | (split at hv <;> first | (cases hv; first | exact ⟨cs, h1, h2⟩ | exact nil rfl) | cases hv) | cases hv
  · cases hv
theorem Pts.faddr {off : Nat} {x v : AV} {bs : List Nat} (hx : Pts x bs) (hv : aFAddr off x = some v) : Pts v bs := by
  obtain ⟨cs, h1, h2⟩ := hx
  have nil : ∀ {v : AV}, blks v = some [] → Pts v bs := fun h => ⟨[], h, fun b hb => by cases hb⟩
  unfold aFAddr at hv
  split at hv
  · cases hv; exact ⟨cs, h1, h2⟩
  · cases hv; exact nil rfl
  · cases hv
def HM.gives {α : Type} (R : α → Prop) : HM α → Prop
  | .ret a => R a
  | .fail => True
  | .look _ k => ∀ x, (k x).gives R
  | .put _ _ k => k.gives R
theorem HM.gives_run {α : Type} {R : α → Prop} (m : HM α) : m.gives R → ∀ h a h1, m.run h = some (a, h1) → R a := by
  induction m with
  | ret a => intro hr h b h1 hm; simp only [HM.run, Option.some.injEq, Prod.mk.injEq] at hm; rw [← hm.1]; exact hr
  | fail => intro _ h b h1 hm; simp [HM.run] at hm
  | look b k ih => intro hr h a h1 hm; exact ih _ (hr _) h a h1 hm
  | put b x k ih => intro hr h a h1 hm; exact ih hr _ a h1 (run_put hm).2
theorem gives_cells {α : Type} {R : α → Prop} {b g : Nat} {k : List AV → HM α} (hk : ∀ cs, (k cs).gives R) : (HM.cells b g k).gives R := by
  intro x
  match x with
  | some (.cells g' cs) =>
    simp only
    cases Nat.beq g' g <;> first | exact trivial | exact hk cs
  | some (.map _ _) => trivial
  | some (.dead _) => trivial
  | none => trivial
theorem gives_new {α : Type} {R : α → Prop} {i : Nat} {x : Nat → Blk} {k : Nat → Nat → HM α} (hk : (k i 0).gives R) : (HM.new .dyn i x k).gives R := by
  intro y
  match y with
  | none => exact hk
  | some z => trivial
theorem gives_src {R : AV → Prop} {sz : Nat} {v : AV} {k : List AV → Nat → HM AV} (hk : ∀ ys n, (k ys n).gives R) : (aSrc sz v k).gives R := by
  unfold aSrc
  split
  · split
    · refine gives_cells fun cs => ?_
      split
      · exact hk _ _
      · trivial
    · trivial
  · split
    · exact hk _ _
    · trivial
  · exact hk _ _
  · exact hk _ _
  · split
    · exact hk _ _
    · trivial
  · trivial
theorem gives_append {sz bytes : Nat} {x y : AV} {a : List Nat} (hx : Pts x a) : (aAppend .dyn i sz bytes x y).gives fun v => Pts v (i :: a) := by
  have nil : ∀ {v : AV}, blks v = some [] → Pts v (i :: a) := fun h => ⟨[], h, fun b hb => by cases hb⟩
  unfold aAppend
  refine gives_src fun ys n => ?_
  split
  · obtain ⟨cs, h1, h2⟩ := hx
    split
    · split
      · exact nil rfl
      · exact gives_new ⟨_, rfl, fun b hb => by simp at hb; simp [hb]⟩
    · split
      · exact nil rfl
      · exact gives_new ⟨_, rfl, fun b hb => by simp at hb; simp [hb]⟩
    · split
      · exact nil rfl
      · trivial
    · simp only [blks, Option.some.injEq] at h1
      subst h1
      split
      · refine gives_cells fun cs => ?_
        split
        · exact ⟨_, rfl, fun b hb => List.mem_cons_of_mem _ (h2 b hb)⟩
        · trivial
      · trivial
    · trivial
  · trivial
theorem absV_sound {s : SOper} {h h1 : Heap} {v : AV} {f : FP} {bs : List Nat} (hax : ∀ x bs, ax x = some bs → Pts (ev T x) bs) (ht : s.op.absV i ax = some bs) (hs : StepV P i s T h v h1 f) : Pts v bs := by
  have self : ∀ {v : AV}, blks v = some [i] → Pts v [i] := fun h => ⟨_, h, fun b hb => hb⟩
  have key : ∀ {s' : SOp}, s'.absV i ax = some bs → StepX P i s' T h v h1 f → Pts v bs := by
    rintro s' ht ⟨out, h2, hm, ho⟩
    have hv : ∀ {m : HM AV}, aop i T s' = hval m → (m.gives fun v => Pts v bs) → Pts v bs := by
      intro m e hg
      rw [e] at hm
      obtain ⟨u, h3, hu, he⟩ := run_hval hm
      cases he
      rw [ho.1]
      exact HM.gives_run _ hg _ _ _ hu
    have hl : ∀ {o : Option AV}, aop i T s' = lift o → (∀ u, o = some u → Pts u bs) → Pts v bs := by
      intro o e hg
      rw [e] at hm
      obtain ⟨u, hu, he⟩ := run_lift hm
      cases he
      rw [ho.1]
      exact hg _ hu
    cases s' <;> try (simp only [SOp.absV, reduceCtorEq] at ht; done)
    · simp only [aop, HM.run, Option.some.injEq, Prod.mk.injEq] at hm
      obtain ⟨rfl, rfl⟩ := hm
      rw [ho.1]; exact hax _ _ ht
    · rename_i s z
      cases s <;> simp only [SOp.absV, reduceCtorEq, Option.some.injEq] at ht
      subst ht
      refine hv rfl ?_
      unfold aBox; split
      · exact gives_new (self rfl)
      · trivial
    · rename_i s z
      cases s <;> simp only [SOp.absV, reduceCtorEq, Option.some.injEq] at ht
      subst ht
      refine hv rfl ?_
      unfold aBox; split
      · exact gives_new (self rfl)
      · trivial
    · rename_i fz s sz len z ps
      cases fz <;> cases s <;> simp only [SOp.absV, reduceCtorEq, Option.some.injEq] at ht
      subst ht
      refine hv rfl ?_
      unfold aBuildSlice
      split
      · split
        · rw [if_neg (by simp)]; exact gives_new (self rfl)
        · trivial
      · trivial
    · rename_i s
      cases s <;> simp only [SOp.absV, reduceCtorEq, Option.some.injEq] at ht
      subst ht
      exact hv rfl (gives_new (self rfl))
    · rename_i s sz b z l c
      cases s <;> simp only [SOp.absV, reduceCtorEq, Option.some.injEq] at ht
      subst ht
      refine hv rfl ?_
      unfold aMakeSlice
      split
      · split
        · exact gives_new (self rfl)
        · trivial
      · trivial
    · exact hl rfl fun u hu => (hax _ _ ht).slice hu
    · exact hl rfl fun u hu => (hax _ _ ht).faddr hu
    · exact hl rfl fun u hu => (hax _ _ ht).iaddr hu
    · rename_i s sz b x y
      cases s <;> simp only [SOp.absV, reduceCtorEq, Option.map_eq_some_iff] at ht
      obtain ⟨a, ha, rfl⟩ := ht
      exact hv rfl (gives_append (hax _ _ ha))
  unfold StepV at hs
  split at hs
  · exact key ht hs
  · obtain ⟨t, _, hs⟩ := hs
    split at hs
    · exact key ht hs
    · obtain ⟨rfl, _⟩ := hs; exact ⟨[], rfl, fun b hb => by cases hb⟩
end
def AbsOK (T0 : Tmps) (A : Abs) (T : Tmps) : Prop := ∀ j bs, absT T0 A j = some bs → Pts (lk T j) bs
theorem AbsOK.opd {T0 T : Tmps} {A : Abs} (h : AbsOK T0 A T) : ∀ x bs, absO T0 A x = some bs → Pts (ev T x) bs := by
  intro x bs hx
  cases x with
  | t i => exact h i bs hx
  | c v => exact ⟨bs, hx, fun b hb => hb⟩
  | f n => cases hx
  | g n => cases hx
theorem AbsOK.nil {T : Tmps} : AbsOK T [] T := fun j bs h => ⟨bs, h, fun b hb => hb⟩
theorem AbsOK.up {T0 T : Tmps} {A : Abs} {d : Nat} {v : AV} {a : Option (List Nat)} (h : AbsOK T0 A T) (hv : ∀ bs, a = some bs → Pts v bs) : AbsOK T0 ((d, a) :: A) (up T d v) := by
  intro j bs hj
  rw [lk_up]
  simp only [absT] at hj
  by_cases e : d = j
  · subst e
    have e1 : Nat.beq d d = true := by simp
    rw [e1] at hj
    rw [if_pos rfl]
    exact hv bs hj
  · have : Nat.beq d j = false := by rw [Bool.eq_false_iff]; simpa using e
    rw [this] at hj
    rw [if_neg (fun h => e h.symm)]
    exact h j bs hj
theorem wpRF_of {T0 : Tmps} : ∀ {r : List SOper} {n : Nat} {A : Abs} {T : Tmps} {h : Heap} {K : Tmps → Heap → Nat → Prop} (hA : AbsOK T0 A T) (K' : List FP → Tmps → Heap → Nat → Prop),
    (∀ fs T h n', fs.length = r.length → (∀ (j : Nat) ts, (touches n T0 r A).getD j none = some ts → (fs.getD j ⟨false, [], []⟩).all = false ∧ ∀ b, b ∈ (fs.getD j ⟨false, [], []⟩).R ∨ b ∈ (fs.getD j ⟨false, [], []⟩).W → b ∈ ts) → K T h n' → K' fs T h n') →
    wpR P n r T h K → wpRF P n r T h K'
  | [], n, A, T, h, K, hA, K', hK, hw => hK [] T h n rfl (fun j ts hj => by simp [touches] at hj) hw
  | s :: r, n, A, T, h, K, hA, K', hK, hw => by
    obtain ⟨v, h1, f, hs, hr⟩ := hw
    refine ⟨v, h1, f, hs, ?_⟩
    have hA2 : AbsOK T0 (match s.dst with | some d => (d, s.op.absV n (absO T0 A)) :: A | none => A) (putD T s.dst v) := by
      cases s.dst with
      | none => exact hA
      | some d => exact AbsOK.up hA fun bs hb => absV_sound hA.opd hb hs
    refine wpRF_of hA2 (fun fs T h n => K' (f :: fs) T h n) (fun fs T h n' hl hf hk => ?_) hr
    refine hK (f :: fs) T h n' (by simp [hl]) (fun j ts hj => ?_) hk
    cases j with
    | zero =>
      simp only [touches, List.getD_cons_zero] at hj ⊢
      exact touch_sound hA.opd hj hs
    | succ j =>
      simp only [touches, List.getD_cons_succ] at hj ⊢
      exact hf j ts hj
inductive PairsOK (n : Nat) (T : Tmps) (ops : List SOper) (ps : List (Nat × Nat)) : Prop
  | mk (h : pairsOK (touches n T ops []) ps = true)
theorem wS_regionP {N : NM} {ops : List SOper} {p : Nat × Nat} {ps : List (Nat × Nat)} {dead : List Nat} {fs : List Fr} {n : Nat} {T : Tmps} {h : Heap} {Q : QC} (hp : PairsOK n T ops (p :: ps)) :
    wS P N (.region ops (p :: ps) dead) fs n T h Q = wR P N ops dead fs n T h Q := by
  obtain ⟨hp⟩ := hp
  apply propext; constructor
  · intro hw
    have : ∀ {r : List SOper} {n : Nat} {T : Tmps} {h : Heap} {K : List FP → Tmps → Heap → Nat → Prop} {K' : Tmps → Heap → Nat → Prop}, (∀ fs T h n, K fs T h n → K' T h n) → wpRF P n r T h K → wpR P n r T h K' := by
      intro r
      induction r with
      | nil => intro n T h K K' hK hw; exact hK _ _ _ _ hw
      | cons s r ih =>
        rintro n T h K K' hK ⟨v, h1, f, hs, hr⟩
        exact ⟨v, h1, f, hs, ih (fun fs T h n hk => hK _ _ _ _ hk) hr⟩
    exact this (fun fs' T h n hk => hk.2) hw
  · intro hw
    refine wpRF_of AbsOK.nil _ (fun fs' T h n' hl hf hk => ⟨?_, hk⟩) hw
    rw [List.all_eq_true]
    intro q hq
    have := List.all_eq_true.1 hp q hq
    split at this
    · rename_i a b ha hb
      obtain ⟨f1, f2⟩ := hf _ _ ha
      obtain ⟨g1, g2⟩ := hf _ _ hb
      have hd : ∀ x y, x ∈ a → y ∈ b → x ≠ y := by
        rintro x y hx hy rfl
        have := List.all_eq_true.1 this x hx
        simp [hy] at this
      have dj : ∀ xs ys : List Nat, (∀ x ∈ xs, ∀ y ∈ ys, x ≠ y) → disj xs ys = true := by
        intro xs ys hh
        unfold disj
        rw [List.all_eq_true]
        intro x hx
        simp only [Bool.not_eq_true', List.contains_eq_mem, decide_eq_false_iff_not]
        intro hy
        exact hh x hx x hy rfl
      unfold FP.apart
      rw [f1, g1]
      simp only [Bool.and_eq_true]
      refine ⟨⟨dj _ _ fun x hx y hy => ?_, dj _ _ fun x hx y hy => ?_⟩, dj _ _ fun x hx y hy => ?_⟩
      · first | exact hd x y (f2 x (.inr hx)) (g2 y (.inl hy)) | exact fun e => hd y x (f2 y (.inl hy)) (g2 x (.inr hx)) e.symm
      · first | exact hd x y (f2 x (.inr hx)) (g2 y (.inr hy)) | exact fun e => hd y x (f2 y (.inr hy)) (g2 x (.inr hx)) e.symm
      · first | exact fun e => hd y x (f2 y (.inl hy)) (g2 x (.inr hx)) e.symm | exact fun e => hd y x (f2 y (.inr hy)) (g2 x (.inl hx)) e.symm | exact hd x y (f2 x (.inl hx)) (g2 y (.inr hy))
    · cases this
theorem FrzL.nil {h : Heap} : FrzL h [] [] := trivial
theorem FrzL.cons {h : Heap} {x y : AV} {xs ys : List AV} (h1 : FrzTo h x y) (h2 : FrzL h xs ys) : FrzL h (x :: xs) (y :: ys) := ⟨h1, h2⟩
end Go.AM
set_option linter.unusedSimpArgs false
set_option linter.unusedVariables false
namespace Go.AM
variable {P : Program}
def setL : HL → Heap → Heap
  | [], h => h
  | (k, x) :: r, h => (setL r h).set k x
theorem setL_nil {h : Heap} : setL [] h = h := rfl
theorem setL_cons {k : Nat} {x : Blk} {r : HL} {h : Heap} : setL ((k, x) :: r) h = (setL r h).set k x := rfl
theorem setL_get {b : Nat} {h : Heap} (hf : Fresh b h) : ∀ {L : HL}, (L.all fun p => Nat.ble b p.1 && Nat.blt p.1 1099511627775) = true → ∀ k, (setL L h).get k = if k < b then h.get k else (hp L).get k
  | [], _, k => by
    simp only [setL, hp]
    split
    · rfl
    · rw [hf k (by omega), get_e]
  | (j, x) :: r, hL, k => by
    simp only [List.all_cons, Bool.and_eq_true, Nat.ble_eq, Nat.blt_eq] at hL
    obtain ⟨⟨h1, h2⟩, h3⟩ := hL
    have ih := setL_get hf (L := r) (by simpa using h3) k
    simp only [setL, hp]
    by_cases e : k = j
    · subst e
      rw [get_same h2, get_same h2, if_neg (by omega)]
    · rw [get_ne h2 e, get_ne h2 e, ih]
theorem HSpec.of_O {f b : Nat} {args : List AV} {v : AV} {h : Heap} {L : HL} (hn : noRefs args = true) (hs : HSpec P f args .e v (hp L)) (hf : Fresh b h) (hL : (L.all fun p => Nat.ble b p.1 && Nat.blt p.1 1099511627775) = true) : HSpec P f args h v (setL L h) := by
  obtain ⟨hc, hs⟩ := hs
  refine ⟨hc, fun c w cargs H ha => ?_⟩
  refine (hs (only c.F) w cargs (HRel.only H.inF) (VRels.noRef (c := c) (c' := only c.F) (fun _ h => h) _ _ hn ha)).mono ?_
  rintro e w' ⟨cv, c', rfl, E, H', V⟩
  have hnewO : ∀ k, c'.O k → w.heap.size ≤ k := fun k hO => (E.own k hO).elim (fun h => h.elim) id
  have hnewF : ∀ k, c'.F k → c.F k ∨ w.heap.size ≤ k := fun k hF => (E.frzNew k hF).elim .inl fun h => h.elim (fun h => h.elim) .inr
  have hkeep : ∀ k, k < w.heap.size → w'.heap[k]? = w.heap[k]? := fun k hk => E.keep k hk (fun h => h)
  have hg := setL_get hf hL
  have hlow : ∀ k, (hp L).get k ≠ none → b ≤ k := fun k hk => by
    rcases Nat.lt_or_ge k b with h1 | h1
    · exfalso
      apply hk
      have : ∀ {M : HL}, (M.all fun p => Nat.ble b p.1 && Nat.blt p.1 1099511627775) = true → (hp M).get k = none := by
        intro M
        induction M with
        | nil => intro _; exact get_e
        | cons q M ih =>
          obtain ⟨j, x⟩ := q
          intro hM
          simp only [List.all_cons, Bool.and_eq_true, Nat.ble_eq, Nat.blt_eq] at hM
          rw [hp_cons, get_ne hM.1.2 (by omega)]; exact ih (by simpa using hM.2)
      exact this hL
    · exact h1
  have hrlow : ∀ k g, k < b → c'.ρ k g = none := fun k g hk => by
    have : (hp L).get k = none := by
      cases hq : (hp L).get k with
      | none => rfl
      | some x => exact absurd (hlow k (by rw [hq]; simp)) (by omega)
    exact H'.fresh k this g
  have hrhigh : ∀ k g, b ≤ k → c.ρ k g = none := fun k g hk => H.fresh k (hf k hk) g
  let c2 : Ctx := { ρ := fun k g => if k < b then c.ρ k g else c'.ρ k g, F := c'.F, O := fun k => c.O k ∨ c'.O k }
  have hr1 : ∀ k g, k < b → c2.ρ k g = c.ρ k g := fun k g hk => if_pos hk
  have hr2 : ∀ k g, b ≤ k → c2.ρ k g = c'.ρ k g := fun k g hk => if_neg (by omega)
  have hx1 : ∀ k g p, c.ρ k g = some p → c2.ρ k g = some p := fun k g p hp => by
    rcases Nat.lt_or_ge k b with h1 | h1
    · rw [hr1 k g h1]; exact hp
    · rw [hrhigh k g h1] at hp; cases hp
  have hx2 : ∀ k g p, c'.ρ k g = some p → c2.ρ k g = some p := fun k g p hp => by
    rcases Nat.lt_or_ge k b with h1 | h1
    · rw [hrlow k g h1] at hp; cases hp
    · rw [hr2 k g h1]; exact hp
  have E2 : Evo c w c2 w' := ⟨E.os, E.tape, E.output, E.size, E.shape, fun k hk _ => hkeep k hk, hx1, fun k hk => E.frz k hk, fun k hk => (hnewF k hk).elim .inl fun h => .inr (.inr h), fun k hk => hk.elim .inl fun h => .inr (hnewO k h)⟩
  have X2 : Ext c' w' c2 w' := ⟨hx2, fun _ h => h, fun k _ _ h => h, fun k C e fr h => ⟨C, fr, h, rfl⟩⟩
  refine ⟨cv, c2, rfl, E2, ?_, VRel.mono X2 _ _ V⟩
  refine ⟨fun k hk g => ?_, fun k x hk g hlt => ?_, fun k x hk => ?_, ?_, fun k hF hO => ?_, fun k hF => H'.inF k hF, fun k hO => hO.elim (fun h => Nat.lt_of_lt_of_le (H.inO k h) E.size) (H'.inO k)⟩
  · rw [hg k] at hk
    split at hk
    · rename_i h1; rw [hr1 k g h1]; exact H.fresh k hk g
    · rename_i h1; rw [hr2 k g (by omega)]; exact H'.fresh k hk g
  · rw [hg k] at hk
    split at hk
    · rename_i h1; rw [hr1 k g h1]; exact H.later k x hk g hlt
    · rename_i h1; rw [hr2 k g (by omega)]; exact H'.later k x hk g hlt
  · rw [hg k] at hk
    split at hk
    · refine BRel.mono (E2.ext H.disj) (fun cb base hd hp => ?_) (H.blk k x hk)
      have hO := H.owned ⟨x, hk, rfl, hd⟩ hp
      exact ⟨.inl hO, hkeep cb (H.inO _ hO)⟩
    · refine BRel.mono X2 (fun cb base hd hp => ?_) (H'.blk k x hk)
      have hO := H'.owned ⟨x, hk, rfl, hd⟩ hp
      exact ⟨.inr hO, rfl⟩
  · intro b1 g1 b2 g2 cb base1 base2 l1 l2 p1 p2
    have key : ∀ k g base, Live (setL L h) k g → c2.ρ k g = some (.loc cb base) → (k < b ∧ Live h k g ∧ c.ρ k g = some (.loc cb base) ∧ cb < w.heap.size) ∨ (b ≤ k ∧ Live (hp L) k g ∧ c'.ρ k g = some (.loc cb base) ∧ w.heap.size ≤ cb) := by
      rintro k g base ⟨x, hk, rfl, hd⟩ hp
      rw [hg k] at hk
      split at hk
      · rename_i h1
        rw [hr1 k _ h1] at hp
        exact .inl ⟨h1, ⟨x, hk, rfl, hd⟩, hp, H.inO _ (H.owned ⟨x, hk, rfl, hd⟩ hp)⟩
      · rename_i h1
        rw [hr2 k _ (by omega)] at hp
        exact .inr ⟨by omega, ⟨x, hk, rfl, hd⟩, hp, hnewO _ (H'.owned ⟨x, hk, rfl, hd⟩ hp)⟩
    rcases key b1 g1 base1 l1 p1 with ⟨k1, k2, k3, k4⟩ | ⟨k1, k2, k3, k4⟩ <;> rcases key b2 g2 base2 l2 p2 with ⟨j1, j2, j3, j4⟩ | ⟨j1, j2, j3, j4⟩
    · exact H.inj _ _ _ _ _ _ _ k2 j2 k3 j3
    · omega
    · omega
    · exact H'.inj _ _ _ _ _ _ _ k2 j2 k3 j3
  · rcases hO with hO | hO
    · rcases hnewF k hF with h1 | h1
      · exact H.disj k h1 hO
      · have := H.inO k hO; omega
    · exact H'.disj k hF hO
theorem HSpec.of_new {f : Nat} {sf : SFn} {args : List AV} {v : AV} {L : HL} (n : Nat) (hok : okFn P f sf = true) (hl : Nat.ble args.length sf.n = true)
    (hw : wS P ⟨sf.n, 0⟩ sf.body [] n (argT 0 args) .e fun e T k _ => (e = .normal ∨ e = .ret) ∧ ∃ vs, resV T k sf.res = some vs ∧ Rec 0 [(0, v)] L [(0, resOf vs)] k) : HSpec P f args .e v (hp L) := by
  refine HSpec.of_W2 (m := 0) hok (Nat.le_of_ble_eq_true hl) (fun b _ => get_e) ((wpC.toW hw).mono ?_)
  rintro e B ⟨n', h1, vs, h2, ps, ho, hro, hb, ht⟩
  exact ⟨h1, vs, _, h2, Rec.maps ho hb, Rec.heap ho hb, Rec.dom ho hro, ht 0⟩
theorem Rec.one {h : Heap} {v u : AV} {b k g : Nat} {cs ds : List AV} (hb : b < 1099511627775) (hk : h.get k = some (.cells g ds)) (hc : RnL 0 (ow 0 [(b, .blk k g)]) h cs ds) (hv : Rn 0 (ow 0 [(b, .blk k g)]) h v u) :
    Rec 0 [(0, v)] [(b, .cells 0 cs)] [(0, u)] h := by
  refine ⟨[(b, .blk k g)], ?_, RO.zero, RB.cells rfl ?_ hk hc RB.nil, RT.cons' rfl hv RT.nil⟩
  · simp [okPs, Nat.blt, srcNew]; omega
  · simp [ow, lkS]
theorem Rn.slO {m b b' g len sz : Nat} {h : Heap} (hm : m ≤ b') : Rn m (ow m [(b', .blk b g)]) h (.sl b' 0 0 len sz) (.sl b g 0 len sz) :=
  Rn.sl (by simpa using hm) (by simp [ow, lkS]; omega)
end Go.AM
namespace Go.AM.SN
open Go.Proofs
set_option maxRecDepth 100000
set_option linter.unusedSimpArgs false
set_option linter.unusedVariables false
def wid (l : List (List Int)) : Nat := (l.headD []).length
def cmbE (l : List (List Int)) (f : List Int) : Int :=
  if l.length = 0 then 12 else if f.length ≠ l.length ∨ l.any (fun w => !decide (w.length = wid l)) = true then 4 else if l.any (fun w => w.any badW) = true ∨ f.any badW = true then 2 else 0
def cmbV (l : List (List Int)) (f : List Int) : List Int := (List.range (wid l)).map fun k => colSum l f k
def cmbT (l : List (List Int)) (f : List Int) : List Int := if cmbE l f = 0 then cmbV l f else []
theorem cmbE_none (l : List (List Int)) (f : List Int) (h : cmbE l f ≠ 0) : cmbT l f = [] := if_neg h
theorem Rn.nilF {m : Nat} {π : Nat → Option Src} {h : Heap} {sz : Nat} : Rn m π h (.fsl [] 0 sz) .nilsl := fun c w v H M hv => by
  simp only [VRel] at hv
  subst hv
  simp [VRel]
theorem head_wid {l : List (List Int)} (h : 0 < l.length) : (l.map sli).head? = some (.fsl (ints (l.headD [])) (wid l) 1) := by
  cases l with
  | nil => cases h
  | cons a l => rfl
theorem differs (l : List (List Int)) (w : List Int) (h : 0 < l.length) : PSpec Try.prog 55 [sli w, .fptr [lsts l]] (.bool (!decide (w.length = wid l))) := by
  refine PSpec.of_rn 64 SY.ok55 rfl (by simp only [noRefs, noRef, noRefs_ints, noRefs_lsts]; rfl) rfl ?_
  have hh := head_wid h
  simp (maxSteps := 1000000) (disch := first | omega | exact PairsOK.mk rfl | (simp only [lenW] <;> omega)) only [SY.s55, h, hh, wordsN, Int.reduceGT, wordsR, ne_eq, wS_regionP, aAppend_slF, aAppend_slN, aSlice_fslL, aSlice_fslH, aSlice_fslB, aSlice_slL, aSlice_slH, aSlice_slB, setL_cons, setL_nil, words, Nat.reduceAdd, Nat.reduceEqDiff, Nat.reduceBEq, ↓reduceIte, reduceCtorEq, SX.exit.injEq, if_true, if_false, Int.reduceAdd, Int.reduceSub, Int.reduceMul, Int.reduceLT, Int.reduceLE, Int.reduceEq, Int.reduceNe, Int.reduceNeg, Int.reduceToNat, Nat.reduceMul, Nat.reduceLT, Nat.reduceSub, Nat.reduceLeDiff]
  exact ⟨.inr trivial, _, rfl, Rn.same rfl⟩
theorem index68 (l l2 : List (List Int)) (h : 0 < l2.length) (hl : l.length ≤ 1099511627776) : PSpec Try.prog 68 [lsts l, .fn 55 [] [.fptr [lsts l2]]] (.int .i64 (firstAt (fun w => !decide (w.length = wid l2)) l)) := by
  refine PSpec.of_rn 64 SY.ok68 rfl (by simp only [noRefs, noRef, noRefs_ints, noRefs_lsts]; rfl) rfl ?_
  simp (maxSteps := 1000000) (disch := first | omega | exact PairsOK.mk rfl | (simp only [lenW] <;> omega)) only [SY.s68, wordsN, Int.reduceGT, wordsR, ne_eq, wS_regionP, aAppend_slF, aAppend_slN, aSlice_fslL, aSlice_fslH, aSlice_fslB, aSlice_slL, aSlice_slH, aSlice_slB, setL_cons, setL_nil, words, Nat.reduceAdd, Nat.reduceEqDiff, Nat.reduceBEq, ↓reduceIte, reduceCtorEq, SX.exit.injEq, if_true, if_false, Int.reduceAdd, Int.reduceSub, Int.reduceMul, Int.reduceLT, Int.reduceLE, Int.reduceEq, Int.reduceNe, Int.reduceNeg, Int.reduceToNat, Nat.reduceMul, Nat.reduceLT, Nat.reduceSub, Nat.reduceLeDiff]
  refine wS_loopR 100 (fun i : Nat => [(0, lsts l), (1, .fn 55 [] [.fptr [lsts l2]]), (7, .int .i64 l.length), (8, .int .i64 i)]) (fun _ => []) (fun i => i ≤ l.length ∧ ∀ (j : Nat) y, j < i → l[j]? = some y → (!decide (y.length = wid l2)) = false) (fun i => l.length - i) 0 ?_ ⟨Nat.zero_le _, fun j y hj => absurd hj (Nat.not_lt_zero _)⟩ ?_
  · exact ⟨[], rfl, (by repeat (first | exact RO.zero | exact RO.e | refine RO.set rfl ?_)), (by repeat' (first | exact RB.nil | (refine RnL.same ?_; first | rfl | (simp only [noRef, noRefs, noRefs_append, Bool.and_self, Bool.and_true, Bool.true_and, noRefs_ints, noRefs_lsts, noRefs_pad, noRefs_tnC, noRefs_arcC, noRefs_rowF, noRefs_u8s]; done)) | exact RnM.keyM rfl | exact RnL.nil | refine RnL.cons ?_ ?_ | (refine Rn.same ?_; first | rfl | (simp only [noRef, noRefs, noRefs_append, Bool.and_self, Bool.and_true, Bool.true_and, noRefs_ints, noRefs_lsts, noRefs_pad, noRefs_tnC, noRefs_arcC, noRefs_rowF, noRefs_u8s]; done)) | exact Rn.x1 rfl rfl | exact Rn.x2 rfl rfl | exact Rn.x3 rfl rfl | exact Rn.x4 rfl rfl | exact Rn.x5 rfl | exact Rn.x6 rfl | exact Rn.x7 rfl | refine RB.newnil rfl rfl ?_ | refine RB.cells rfl rfl rfl ?_ ?_ | refine RB.map rfl rfl rfl ?_ ?_ | refine RB.cellsB rfl rfl ?_ ?_ | refine RB.mapB rfl rfl ?_ ?_)), (by repeat (first | exact RT.nil | (refine RT.cons ?_ ?_; · (first | exact Rn.any | exact Rn.x1 rfl rfl | exact Rn.x2 rfl rfl | exact Rn.x3 rfl rfl | exact Rn.x4 rfl rfl | exact Rn.x5 rfl | exact Rn.x6 rfl | exact Rn.x7 rfl | (refine Rn.slot ?_ ?_; (first | rfl | (rw [Int.natCast_add]; rfl)); (first | rfl | (simp only [noRef, noRefs, noRefs_append, Bool.and_self, Bool.and_true, Bool.true_and, noRefs_ints, noRefs_lsts, noRefs_pad, noRefs_tnC, noRefs_arcC, noRefs_rowF, noRefs_u8s]; done))) | (refine Rn.fn ?_ ?_ <;> (repeat' (first | exact RnL.nil | refine RnL.cons ?_ ?_ | exact Rn.same rfl | exact Rn.x6 rfl | exact Rn.x2 rfl rfl | exact Rn.x5 rfl | exact Rn.x1 rfl rfl)))))))⟩
  rintro i ⟨hi, hb⟩
  by_cases hlt : i < l.length
  · obtain ⟨w, hw⟩ := get_ex hlt
    simp (maxSteps := 1000000) (disch := first | omega | exact PairsOK.mk rfl | (simp only [lenW] <;> omega)) only [hlt, head_lsts hw, wordsN, Int.reduceGT, wordsR, ne_eq, wS_regionP, aAppend_slF, aAppend_slN, aSlice_fslL, aSlice_fslH, aSlice_fslB, aSlice_slL, aSlice_slH, aSlice_slB, setL_cons, setL_nil, words, Nat.reduceAdd, Nat.reduceEqDiff, Nat.reduceBEq, ↓reduceIte, reduceCtorEq, SX.exit.injEq, if_true, if_false, Int.reduceAdd, Int.reduceSub, Int.reduceMul, Int.reduceLT, Int.reduceLE, Int.reduceEq, Int.reduceNe, Int.reduceNeg, Int.reduceToNat, Nat.reduceMul, Nat.reduceLT, Nat.reduceSub, Nat.reduceLeDiff]
    have hdi := differs l2 w h
    cases hd : (!decide (w.length = wid l2)) with
    | true =>
      rw [hd] at hdi
      refine call_pure (by simpa using hdi) ?_
      rw [firstAt_found hw hd hb]
      simp (maxSteps := 1000000) (disch := first | omega | exact PairsOK.mk rfl | (simp only [lenW] <;> omega)) only [wordsN, Int.reduceGT, wordsR, ne_eq, wS_regionP, aAppend_slF, aAppend_slN, aSlice_fslL, aSlice_fslH, aSlice_fslB, aSlice_slL, aSlice_slH, aSlice_slB, setL_cons, setL_nil, words, Nat.reduceAdd, Nat.reduceEqDiff, Nat.reduceBEq, ↓reduceIte, reduceCtorEq, SX.exit.injEq, if_true, if_false, Int.reduceAdd, Int.reduceSub, Int.reduceMul, Int.reduceLT, Int.reduceLE, Int.reduceEq, Int.reduceNe, Int.reduceNeg, Int.reduceToNat, Nat.reduceMul, Nat.reduceLT, Nat.reduceSub, Nat.reduceLeDiff]
      exact ⟨.inr trivial, _, rfl, Rn.same rfl⟩
    | false =>
      rw [hd] at hdi
      refine call_pure (by simpa using hdi) ?_
      simp (maxSteps := 1000000) (disch := first | omega | exact PairsOK.mk rfl | (simp only [lenW] <;> omega)) only [wordsN, Int.reduceGT, wordsR, ne_eq, wS_regionP, aAppend_slF, aAppend_slN, aSlice_fslL, aSlice_fslH, aSlice_fslB, aSlice_slL, aSlice_slH, aSlice_slB, setL_cons, setL_nil, words, Nat.reduceAdd, Nat.reduceEqDiff, Nat.reduceBEq, ↓reduceIte, reduceCtorEq, SX.exit.injEq, if_true, if_false, Int.reduceAdd, Int.reduceSub, Int.reduceMul, Int.reduceLT, Int.reduceLE, Int.reduceEq, Int.reduceNe, Int.reduceNeg, Int.reduceToNat, Nat.reduceMul, Nat.reduceLT, Nat.reduceSub, Nat.reduceLeDiff]
      refine ⟨i + 1, by omega, ⟨by omega, fun j y hj hy => ?_⟩, ?_⟩
      · by_cases e : j = i
        · subst e; rw [hw] at hy; cases hy; simpa using hd
        · simpa using hb j y (by omega) hy
      · exact ⟨[], rfl, (by repeat (first | exact RO.zero | exact RO.e | refine RO.set rfl ?_)), (by repeat' (first | exact RB.nil | (refine RnL.same ?_; first | rfl | (simp only [noRef, noRefs, noRefs_append, Bool.and_self, Bool.and_true, Bool.true_and, noRefs_ints, noRefs_lsts, noRefs_pad, noRefs_tnC, noRefs_arcC, noRefs_rowF, noRefs_u8s]; done)) | exact RnM.keyM rfl | exact RnL.nil | refine RnL.cons ?_ ?_ | (refine Rn.same ?_; first | rfl | (simp only [noRef, noRefs, noRefs_append, Bool.and_self, Bool.and_true, Bool.true_and, noRefs_ints, noRefs_lsts, noRefs_pad, noRefs_tnC, noRefs_arcC, noRefs_rowF, noRefs_u8s]; done)) | exact Rn.x1 rfl rfl | exact Rn.x2 rfl rfl | exact Rn.x3 rfl rfl | exact Rn.x4 rfl rfl | exact Rn.x5 rfl | exact Rn.x6 rfl | exact Rn.x7 rfl | refine RB.newnil rfl rfl ?_ | refine RB.cells rfl rfl rfl ?_ ?_ | refine RB.map rfl rfl rfl ?_ ?_ | refine RB.cellsB rfl rfl ?_ ?_ | refine RB.mapB rfl rfl ?_ ?_)), (by repeat (first | exact RT.nil | (refine RT.cons ?_ ?_; · (first | exact Rn.any | exact Rn.x1 rfl rfl | exact Rn.x2 rfl rfl | exact Rn.x3 rfl rfl | exact Rn.x4 rfl rfl | exact Rn.x5 rfl | exact Rn.x6 rfl | exact Rn.x7 rfl | (refine Rn.slot ?_ ?_; (first | rfl | (rw [Int.natCast_add]; rfl)); (first | rfl | (simp only [noRef, noRefs, noRefs_append, Bool.and_self, Bool.and_true, Bool.true_and, noRefs_ints, noRefs_lsts, noRefs_pad, noRefs_tnC, noRefs_arcC, noRefs_rowF, noRefs_u8s]; done))) | (refine Rn.fn ?_ ?_ <;> (repeat' (first | exact RnL.nil | refine RnL.cons ?_ ?_ | exact Rn.same rfl | exact Rn.x6 rfl | exact Rn.x2 rfl rfl | exact Rn.x5 rfl | exact Rn.x1 rfl rfl)))))))⟩
  · rw [firstAt_none fun j y hy => hb j y (by have := (List.getElem?_eq_some_iff.1 hy).1; omega) hy]
    simp (maxSteps := 1000000) (disch := first | omega | exact PairsOK.mk rfl | (simp only [lenW] <;> omega)) only [hlt, wordsN, Int.reduceGT, wordsR, ne_eq, wS_regionP, aAppend_slF, aAppend_slN, aSlice_fslL, aSlice_fslH, aSlice_fslB, aSlice_slL, aSlice_slH, aSlice_slB, setL_cons, setL_nil, words, Nat.reduceAdd, Nat.reduceEqDiff, Nat.reduceBEq, ↓reduceIte, reduceCtorEq, SX.exit.injEq, if_true, if_false, Int.reduceAdd, Int.reduceSub, Int.reduceMul, Int.reduceLT, Int.reduceLE, Int.reduceEq, Int.reduceNe, Int.reduceNeg, Int.reduceToNat, Nat.reduceMul, Nat.reduceLT, Nat.reduceSub, Nat.reduceLeDiff]
    exact ⟨.inr trivial, _, rfl, Rn.same rfl⟩
theorem contains54 {h : Heap} {b : Nat} (l : List (List Int)) (hl0 : 0 < l.length) (hl : l.length ≤ 1099511627776) (hb : h.get b = some (.cells 0 [lsts l])) :
    HSpec Try.prog 54 [lsts l, .fn 55 [] [.ptr b 0 0]] h (.bool (l.any fun w => !decide (w.length = wid l))) h := by
  have : PSpec Try.prog 54 [lsts l, .fn 55 [] [.fptr [lsts l]]] (.bool (l.any fun w => !decide (w.length = wid l))) := by
    refine PSpec.of_rn 64 SY.ok54 rfl (by simp only [noRefs, noRef, noRefs_ints, noRefs_lsts]; rfl) rfl ?_
    simp (maxSteps := 1000000) (disch := first | omega | exact PairsOK.mk rfl | (simp only [lenW] <;> omega)) only [SY.s54, wordsN, Int.reduceGT, wordsR, ne_eq, wS_regionP, aAppend_slF, aAppend_slN, aSlice_fslL, aSlice_fslH, aSlice_fslB, aSlice_slL, aSlice_slH, aSlice_slB, setL_cons, setL_nil, words, Nat.reduceAdd, Nat.reduceEqDiff, Nat.reduceBEq, ↓reduceIte, reduceCtorEq, SX.exit.injEq, if_true, if_false, Int.reduceAdd, Int.reduceSub, Int.reduceMul, Int.reduceLT, Int.reduceLE, Int.reduceEq, Int.reduceNe, Int.reduceNeg, Int.reduceToNat, Nat.reduceMul, Nat.reduceLT, Nat.reduceSub, Nat.reduceLeDiff]
    refine cp (index68 l l hl0 hl) ?_
    have hge := firstAt_ge (fun w => !decide (w.length = wid l)) l
    by_cases h0 : 0 ≤ firstAt (fun w => !decide (w.length = wid l)) l
    · rw [decide_eq_true h0] at hge
      rw [← hge]
      simp (maxSteps := 1000000) (disch := first | omega | exact PairsOK.mk rfl | (simp only [lenW] <;> omega)) only [h0, wordsN, Int.reduceGT, wordsR, ne_eq, wS_regionP, aAppend_slF, aAppend_slN, aSlice_fslL, aSlice_fslH, aSlice_fslB, aSlice_slL, aSlice_slH, aSlice_slB, setL_cons, setL_nil, words, Nat.reduceAdd, Nat.reduceEqDiff, Nat.reduceBEq, ↓reduceIte, reduceCtorEq, SX.exit.injEq, if_true, if_false, Int.reduceAdd, Int.reduceSub, Int.reduceMul, Int.reduceLT, Int.reduceLE, Int.reduceEq, Int.reduceNe, Int.reduceNeg, Int.reduceToNat, Nat.reduceMul, Nat.reduceLT, Nat.reduceSub, Nat.reduceLeDiff]
      exact ⟨.inr trivial, _, rfl, Rn.same rfl⟩
    · rw [decide_eq_false h0] at hge
      rw [← hge]
      simp (maxSteps := 1000000) (disch := first | omega | exact PairsOK.mk rfl | (simp only [lenW] <;> omega)) only [h0, wordsN, Int.reduceGT, wordsR, ne_eq, wS_regionP, aAppend_slF, aAppend_slN, aSlice_fslL, aSlice_fslH, aSlice_fslB, aSlice_slL, aSlice_slH, aSlice_slB, setL_cons, setL_nil, words, Nat.reduceAdd, Nat.reduceEqDiff, Nat.reduceBEq, ↓reduceIte, reduceCtorEq, SX.exit.injEq, if_true, if_false, Int.reduceAdd, Int.reduceSub, Int.reduceMul, Int.reduceLT, Int.reduceLE, Int.reduceEq, Int.reduceNe, Int.reduceNeg, Int.reduceToNat, Nat.reduceMul, Nat.reduceLT, Nat.reduceSub, Nat.reduceLeDiff]
      exact ⟨.inr trivial, _, rfl, Rn.same rfl⟩
  refine HSpec.lend (FrzL.cons (.same _) (FrzL.cons (FrzTo.fn FrzL.nil (FrzL.cons (FrzTo.ptr hb (FrzL.same _)) FrzL.nil)) FrzL.nil)) this rfl
theorem clone56 (cs : List AV) (n b : Nat) (hb : b < 1099511627775) (hl : cs.length = n) (h0 : 0 < n) (hn : n ≤ 1000) (hone : cs.all AV.one = true) (hr : noRefs cs = true) : HSpec Try.prog 56 [.fsl cs n 1] .e (.sl b 0 0 n 1) (hp [(b, .cells 0 cs)]) := by
  refine HSpec.of_new 64 SY.ok56 rfl ?_
  have hn : aEq (.nil 2) false (.fsl cs n 1) .nilsl = some (.bool false) := by
    cases cs with
    | nil => simp at hl; omega
    | cons c cs => rfl
  simp (maxSteps := 1000000) (disch := first | omega | exact PairsOK.mk rfl | (simp only [lenW] <;> omega)) only [SY.s56, hn, hone, wordsN, Int.reduceGT, wordsR, ne_eq, wS_regionP, aAppend_slF, aAppend_slN, aSlice_fslL, aSlice_fslH, aSlice_fslB, aSlice_slL, aSlice_slH, aSlice_slB, setL_cons, setL_nil, words, Nat.reduceAdd, Nat.reduceEqDiff, Nat.reduceBEq, ↓reduceIte, reduceCtorEq, SX.exit.injEq, if_true, if_false, Int.reduceAdd, Int.reduceSub, Int.reduceMul, Int.reduceLT, Int.reduceLE, Int.reduceEq, Int.reduceNe, Int.reduceNeg, Int.reduceToNat, Nat.reduceMul, Nat.reduceLT, Nat.reduceSub, Nat.reduceLeDiff]
  exact ⟨.inr trivial, _, rfl, Rec.one hb rfl (RnL.same hr) (by rw [resOf, lk_cons, if_pos rfl]; exact Rn.slO (Nat.zero_le _))⟩
set_option maxHeartbeats 8000000 in
theorem combine34 (l : List (List Int)) (f : List Int) (hl : l.length ≤ 128) (hll : ∀ w ∈ l, w.length ≤ 1000) (hf : f.length ≤ 1000) :
    PSpec Try.prog 34 [lsts l, sli f] (.tup [sli (cmbT l f), .int .i64 (cmbE l f)]) := by
  refine PSpec.of_rn 64 SY.ok34 rfl (by simp only [noRefs, noRef, noRefs_ints, noRefs_lsts]; rfl) (by simp only [noRef, noRefs, noRefs_ints]; rfl) ?_
  have hdone : ∀ (e : Int), cmbE l f = e → e ≠ 0 → ∀ (h : Heap), Rn 0 π0 h (.tup [sli (cmbT l f), .int .i64 (cmbE l f)]) (.tup [.nilsl, .int .i64 e]) := fun e he h0 h => by
    rw [cmbE_none l f (by omega), he]
    exact Rn.tup (RnL.cons Rn.nilF (RnL.cons (Rn.same rfl) RnL.nil))
  by_cases h0 : l.length = 0
  · have hE : cmbE l f = 12 := if_pos h0
    simp (maxSteps := 1000000) (disch := first | omega | exact PairsOK.mk rfl | (simp only [lenW] <;> omega)) only [SY.s34, h0, wordsN, Int.reduceGT, wordsR, ne_eq, wS_regionP, aAppend_slF, aAppend_slN, aSlice_fslL, aSlice_fslH, aSlice_fslB, aSlice_slL, aSlice_slH, aSlice_slB, setL_cons, setL_nil, words, Nat.reduceAdd, Nat.reduceEqDiff, Nat.reduceBEq, ↓reduceIte, reduceCtorEq, SX.exit.injEq, if_true, if_false, Int.reduceAdd, Int.reduceSub, Int.reduceMul, Int.reduceLT, Int.reduceLE, Int.reduceEq, Int.reduceNe, Int.reduceNeg, Int.reduceToNat, Nat.reduceMul, Nat.reduceLT, Nat.reduceSub, Nat.reduceLeDiff]
    exact ⟨.inr trivial, _, rfl, hdone 12 hE (by decide) _⟩
  have h0' : ¬ (l.length : Int) = 0 := by omega
  by_cases h1 : f.length = l.length
  · have h1' : (f.length : Int) = l.length := by omega
    simp (maxSteps := 1000000) (disch := first | omega | exact PairsOK.mk rfl | (simp only [lenW] <;> omega)) only [SY.s34, h0', h1', wordsN, Int.reduceGT, wordsR, ne_eq, wS_regionP, aAppend_slF, aAppend_slN, aSlice_fslL, aSlice_fslH, aSlice_fslB, aSlice_slL, aSlice_slH, aSlice_slB, setL_cons, setL_nil, words, Nat.reduceAdd, Nat.reduceEqDiff, Nat.reduceBEq, ↓reduceIte, reduceCtorEq, SX.exit.injEq, if_true, if_false, Int.reduceAdd, Int.reduceSub, Int.reduceMul, Int.reduceLT, Int.reduceLE, Int.reduceEq, Int.reduceNe, Int.reduceNeg, Int.reduceToNat, Nat.reduceMul, Nat.reduceLT, Nat.reduceSub, Nat.reduceLeDiff]
    have h54 : ∀ {h : Heap} {b : Nat}, h.get b = some (.cells 0 [lsts l]) → HSpec Try.prog 54 [lsts l, .fn 55 [] [.ptr b 0 0]] h (.bool (l.any fun w => !decide (w.length = wid l))) h := fun hb => contains54 l (by omega) (by omega) hb
    cases hany : l.any fun w => !decide (w.length = wid l) with
    | true =>
      have hE : cmbE l f = 4 := by unfold cmbE; rw [if_neg h0, if_pos (.inr hany)]
      rw [hany] at h54
      refine call_heap (h54 rfl) ?_
      simp (maxSteps := 1000000) (disch := first | omega | exact PairsOK.mk rfl | (simp only [lenW] <;> omega)) only [wordsN, Int.reduceGT, wordsR, ne_eq, wS_regionP, aAppend_slF, aAppend_slN, aSlice_fslL, aSlice_fslH, aSlice_fslB, aSlice_slL, aSlice_slH, aSlice_slB, setL_cons, setL_nil, words, Nat.reduceAdd, Nat.reduceEqDiff, Nat.reduceBEq, ↓reduceIte, reduceCtorEq, SX.exit.injEq, if_true, if_false, Int.reduceAdd, Int.reduceSub, Int.reduceMul, Int.reduceLT, Int.reduceLE, Int.reduceEq, Int.reduceNe, Int.reduceNeg, Int.reduceToNat, Nat.reduceMul, Nat.reduceLT, Nat.reduceSub, Nat.reduceLeDiff]
      exact ⟨.inr trivial, _, rfl, hdone 4 hE (by decide) _⟩
    | false =>
      rw [hany] at h54
      refine call_heap (h54 rfl) ?_
      have hw' : ∀ w ∈ l, w.length = wid l := fun w hw => by
        have := (List.any_eq_false.1 hany) w hw
        simpa using this
      have hE : cmbE l f = if l.any (fun w => w.any badW) = true ∨ f.any badW = true then 2 else 0 := by
        unfold cmbE; rw [if_neg h0, if_neg]
        rintro (h | h)
        · exact h h1
        · rw [hany] at h; cases h
      have hone : (l.map sli).all AV.one = true := by rw [List.all_map]; simp [AV.one]
      simp (maxSteps := 1000000) (disch := first | omega | exact PairsOK.mk rfl | (simp only [lenW] <;> omega)) only [wordsN, Int.reduceGT, wordsR, ne_eq, wS_regionP, aAppend_slF, aAppend_slN, aSlice_fslL, aSlice_fslH, aSlice_fslB, aSlice_slL, aSlice_slH, aSlice_slB, setL_cons, setL_nil, words, Nat.reduceAdd, Nat.reduceEqDiff, Nat.reduceBEq, ↓reduceIte, reduceCtorEq, SX.exit.injEq, if_true, if_false, Int.reduceAdd, Int.reduceSub, Int.reduceMul, Int.reduceLT, Int.reduceLE, Int.reduceEq, Int.reduceNe, Int.reduceNeg, Int.reduceToNat, Nat.reduceMul, Nat.reduceLT, Nat.reduceSub, Nat.reduceLeDiff]
      refine ch (HSpec.of_O (b := 5000) (by simp only [noRefs, noRef, noRefs_lsts]; rfl) (clone56 (l.map sli) l.length 5000 (by decide) (by simp) (by omega) (by omega) hone (noRefs_lsts _)) (by repeat (first | exact Fresh.e | exact Fresh.le (by assumption) (by omega) | refine Fresh.set ?_ (by omega) (by omega))) rfl) ?_
      have hm1 : (l.map sli).length = l.length := by simp
      simp (maxSteps := 1000000) (disch := first | omega | exact PairsOK.mk rfl | (simp only [lenW] <;> omega)) only [hm1, wordsN, Int.reduceGT, wordsR, ne_eq, wS_regionP, aAppend_slF, aAppend_slN, aSlice_fslL, aSlice_fslH, aSlice_fslB, aSlice_slL, aSlice_slH, aSlice_slB, setL_cons, setL_nil, words, Nat.reduceAdd, Nat.reduceEqDiff, Nat.reduceBEq, ↓reduceIte, reduceCtorEq, SX.exit.injEq, if_true, if_false, Int.reduceAdd, Int.reduceSub, Int.reduceMul, Int.reduceLT, Int.reduceLE, Int.reduceEq, Int.reduceNe, Int.reduceNeg, Int.reduceToNat, Nat.reduceMul, Nat.reduceLT, Nat.reduceSub, Nat.reduceLeDiff]
      have hls : l.map sli ++ [sli f] = (l ++ [f]).map sli := by simp
      have hlf : (l ++ [f]).length = l.length + 1 := by simp
      have hb2 : ∀ i w, (l ++ [f])[i]? = some w → ((l ++ [f]).map sli)[i]? = some (sli w) := fun i w h => by rw [List.getElem?_map, h]; rfl
      refine wS_loopX 200 (fun i : Nat => [(1, sli f), (2, .ptr 51 0 0), (31, .sl 50 0 0 (l.length + 1) 1), (32, .int .i64 ((l.length : Int) + 1)), (33, .int .i64 i)])
        (fun _ => [(50, .cells 0 ((l ++ [f]).map sli)), (51, .cells 0 [lsts l])]) (fun i => i ≤ l.length + 1 ∧ ∀ (j : Nat) y, j < i → (l ++ [f])[j]? = some y → y.any badW = false) (fun i => l.length + 1 - i) 0 0 300
        (fun _ : Unit => [(1, sli f), (2, .ptr 51 0 0)]) (fun _ => [(51, .cells 0 [lsts l])]) (fun _ => cmbE l f = 0 ∧ ∀ w ∈ l ++ [f], w.any badW = false) ?_ ⟨Nat.zero_le _, fun j y hj => absurd hj (Nat.not_lt_zero _)⟩ ?_ ?_
      · refine ⟨[(50, .blk 5000 1), (51, .blk 64 0)], rfl, (by repeat (first | exact RO.zero | exact RO.e | refine RO.set rfl ?_)), ?_, (by repeat (first | exact RT.nil | (refine RT.cons ?_ ?_; · (first | exact Rn.any | exact Rn.x1 rfl rfl | exact Rn.x2 rfl rfl | exact Rn.x3 rfl rfl | exact Rn.x4 rfl rfl | exact Rn.x5 rfl | exact Rn.x6 rfl | exact Rn.x7 rfl | (refine Rn.slot ?_ ?_; (first | rfl | (rw [Int.natCast_add]; rfl)); (first | rfl | (simp only [noRef, noRefs, noRefs_append, Bool.and_self, Bool.and_true, Bool.true_and, noRefs_ints, noRefs_lsts, noRefs_pad, noRefs_tnC, noRefs_arcC, noRefs_rowF, noRefs_u8s]; done))) | (refine Rn.fn ?_ ?_ <;> (repeat' (first | exact RnL.nil | refine RnL.cons ?_ ?_ | exact Rn.same rfl | exact Rn.x6 rfl | exact Rn.x2 rfl rfl | exact Rn.x5 rfl | exact Rn.x1 rfl rfl)))))))⟩
        refine RB.cells rfl rfl rfl (RnL.eq hls.symm (by rw [← hls, noRefs_append, noRefs_lsts]; simp only [noRefs, noRef, noRefs_ints]; rfl)) ?_
        repeat' (first | exact RB.nil | (refine RnL.same ?_; first | rfl | (simp only [noRef, noRefs, noRefs_append, Bool.and_self, Bool.and_true, Bool.true_and, noRefs_ints, noRefs_lsts, noRefs_pad, noRefs_tnC, noRefs_arcC, noRefs_rowF, noRefs_u8s]; done)) | exact RnM.keyM rfl | exact RnL.nil | refine RnL.cons ?_ ?_ | (refine Rn.same ?_; first | rfl | (simp only [noRef, noRefs, noRefs_append, Bool.and_self, Bool.and_true, Bool.true_and, noRefs_ints, noRefs_lsts, noRefs_pad, noRefs_tnC, noRefs_arcC, noRefs_rowF, noRefs_u8s]; done)) | exact Rn.x1 rfl rfl | exact Rn.x2 rfl rfl | exact Rn.x3 rfl rfl | exact Rn.x4 rfl rfl | exact Rn.x5 rfl | exact Rn.x6 rfl | exact Rn.x7 rfl | refine RB.newnil rfl rfl ?_ | refine RB.cells rfl rfl rfl ?_ ?_ | refine RB.map rfl rfl rfl ?_ ?_ | refine RB.cellsB rfl rfl ?_ ?_ | refine RB.mapB rfl rfl ?_ ?_)
      · rintro i ⟨hi, hb⟩
        by_cases hlt : i < l.length + 1
        · obtain ⟨w, hw⟩ := get_ex (l := l ++ [f]) (i := i) (by omega)
          have hwm : w ∈ l ++ [f] := List.mem_of_getElem? hw
          have hwl : w.length ≤ 1099511627776 := by
            rcases List.mem_append.1 hwm with h | h
            · have := hll w h; omega
            · rw [List.mem_singleton.1 h]; omega
          have hlt' : (i : Int) < (l.length : Int) + 1 := by omega
          have hgw := hb2 i w hw
          have hwG := withinG w hwl
          cases hbw : w.any badW with
          | true =>
            have hE2 : cmbE l f = 2 := by
              rw [hE, if_pos]
              rcases List.mem_append.1 hwm with h | h
              · exact .inl (List.any_eq_true.2 ⟨w, h, hbw⟩)
              · rw [List.mem_singleton.1 h] at hbw; exact .inr hbw
            rw [hbw, if_pos rfl] at hwG
            simp (maxSteps := 1000000) (disch := first | omega | exact PairsOK.mk rfl | (simp only [lenW] <;> omega)) only [hlt', hgw, wordsN, Int.reduceGT, wordsR, ne_eq, wS_regionP, aAppend_slF, aAppend_slN, aSlice_fslL, aSlice_fslH, aSlice_fslB, aSlice_slL, aSlice_slH, aSlice_slB, setL_cons, setL_nil, words, Nat.reduceAdd, Nat.reduceEqDiff, Nat.reduceBEq, ↓reduceIte, reduceCtorEq, SX.exit.injEq, if_true, if_false, Int.reduceAdd, Int.reduceSub, Int.reduceMul, Int.reduceLT, Int.reduceLE, Int.reduceEq, Int.reduceNe, Int.reduceNeg, Int.reduceToNat, Nat.reduceMul, Nat.reduceLT, Nat.reduceSub, Nat.reduceLeDiff]
            refine cp hwG ?_
            simp (maxSteps := 1000000) (disch := first | omega | exact PairsOK.mk rfl | (simp only [lenW] <;> omega)) only [wordsN, Int.reduceGT, wordsR, ne_eq, wS_regionP, aAppend_slF, aAppend_slN, aSlice_fslL, aSlice_fslH, aSlice_fslB, aSlice_slL, aSlice_slH, aSlice_slB, setL_cons, setL_nil, words, Nat.reduceAdd, Nat.reduceEqDiff, Nat.reduceBEq, ↓reduceIte, reduceCtorEq, SX.exit.injEq, if_true, if_false, Int.reduceAdd, Int.reduceSub, Int.reduceMul, Int.reduceLT, Int.reduceLE, Int.reduceEq, Int.reduceNe, Int.reduceNeg, Int.reduceToNat, Nat.reduceMul, Nat.reduceLT, Nat.reduceSub, Nat.reduceLeDiff]
            exact ⟨.inr trivial, _, rfl, hdone 2 hE2 (by decide) _⟩
          | false =>
            rw [hbw, if_neg (by decide)] at hwG
            simp (maxSteps := 1000000) (disch := first | omega | exact PairsOK.mk rfl | (simp only [lenW] <;> omega)) only [hlt', hgw, wordsN, Int.reduceGT, wordsR, ne_eq, wS_regionP, aAppend_slF, aAppend_slN, aSlice_fslL, aSlice_fslH, aSlice_fslB, aSlice_slL, aSlice_slH, aSlice_slB, setL_cons, setL_nil, words, Nat.reduceAdd, Nat.reduceEqDiff, Nat.reduceBEq, ↓reduceIte, reduceCtorEq, SX.exit.injEq, if_true, if_false, Int.reduceAdd, Int.reduceSub, Int.reduceMul, Int.reduceLT, Int.reduceLE, Int.reduceEq, Int.reduceNe, Int.reduceNeg, Int.reduceToNat, Nat.reduceMul, Nat.reduceLT, Nat.reduceSub, Nat.reduceLeDiff]
            refine cp hwG ?_
            simp (maxSteps := 1000000) (disch := first | omega | exact PairsOK.mk rfl | (simp only [lenW] <;> omega)) only [wordsN, Int.reduceGT, wordsR, ne_eq, wS_regionP, aAppend_slF, aAppend_slN, aSlice_fslL, aSlice_fslH, aSlice_fslB, aSlice_slL, aSlice_slH, aSlice_slB, setL_cons, setL_nil, words, Nat.reduceAdd, Nat.reduceEqDiff, Nat.reduceBEq, ↓reduceIte, reduceCtorEq, SX.exit.injEq, if_true, if_false, Int.reduceAdd, Int.reduceSub, Int.reduceMul, Int.reduceLT, Int.reduceLE, Int.reduceEq, Int.reduceNe, Int.reduceNeg, Int.reduceToNat, Nat.reduceMul, Nat.reduceLT, Nat.reduceSub, Nat.reduceLeDiff]
            refine ⟨i + 1, by omega, ⟨by omega, fun j y hj hy => ?_⟩, ?_⟩
            · by_cases e : j = i
              · subst e; rw [hw] at hy; cases hy; simpa using hbw
              · simpa using hb j y (by omega) hy
            · exact ⟨[(50, .blk 50 0), (51, .blk 51 0)], rfl, (by repeat (first | exact RO.zero | exact RO.e | refine RO.set rfl ?_)), (by repeat' (first | exact RB.nil | (refine RnL.same ?_; first | rfl | (simp only [noRef, noRefs, noRefs_append, Bool.and_self, Bool.and_true, Bool.true_and, noRefs_ints, noRefs_lsts, noRefs_pad, noRefs_tnC, noRefs_arcC, noRefs_rowF, noRefs_u8s]; done)) | exact RnM.keyM rfl | exact RnL.nil | refine RnL.cons ?_ ?_ | (refine Rn.same ?_; first | rfl | (simp only [noRef, noRefs, noRefs_append, Bool.and_self, Bool.and_true, Bool.true_and, noRefs_ints, noRefs_lsts, noRefs_pad, noRefs_tnC, noRefs_arcC, noRefs_rowF, noRefs_u8s]; done)) | exact Rn.x1 rfl rfl | exact Rn.x2 rfl rfl | exact Rn.x3 rfl rfl | exact Rn.x4 rfl rfl | exact Rn.x5 rfl | exact Rn.x6 rfl | exact Rn.x7 rfl | refine RB.newnil rfl rfl ?_ | refine RB.cells rfl rfl rfl ?_ ?_ | refine RB.map rfl rfl rfl ?_ ?_ | refine RB.cellsB rfl rfl ?_ ?_ | refine RB.mapB rfl rfl ?_ ?_)), (by repeat (first | exact RT.nil | (refine RT.cons ?_ ?_; · (first | exact Rn.any | exact Rn.x1 rfl rfl | exact Rn.x2 rfl rfl | exact Rn.x3 rfl rfl | exact Rn.x4 rfl rfl | exact Rn.x5 rfl | exact Rn.x6 rfl | exact Rn.x7 rfl | (refine Rn.slot ?_ ?_; (first | rfl | (rw [Int.natCast_add]; rfl)); (first | rfl | (simp only [noRef, noRefs, noRefs_append, Bool.and_self, Bool.and_true, Bool.true_and, noRefs_ints, noRefs_lsts, noRefs_pad, noRefs_tnC, noRefs_arcC, noRefs_rowF, noRefs_u8s]; done))) | (refine Rn.fn ?_ ?_ <;> (repeat' (first | exact RnL.nil | refine RnL.cons ?_ ?_ | exact Rn.same rfl | exact Rn.x6 rfl | exact Rn.x2 rfl rfl | exact Rn.x5 rfl | exact Rn.x1 rfl rfl)))))))⟩
        · have hlt' : ¬ (i : Int) < (l.length : Int) + 1 := by omega
          simp (maxSteps := 1000000) (disch := first | omega | exact PairsOK.mk rfl | (simp only [lenW] <;> omega)) only [hlt', wordsN, Int.reduceGT, wordsR, ne_eq, wS_regionP, aAppend_slF, aAppend_slN, aSlice_fslL, aSlice_fslH, aSlice_fslB, aSlice_slL, aSlice_slH, aSlice_slB, setL_cons, setL_nil, words, Nat.reduceAdd, Nat.reduceEqDiff, Nat.reduceBEq, ↓reduceIte, reduceCtorEq, SX.exit.injEq, if_true, if_false, Int.reduceAdd, Int.reduceSub, Int.reduceMul, Int.reduceLT, Int.reduceLE, Int.reduceEq, Int.reduceNe, Int.reduceNeg, Int.reduceToNat, Nat.reduceMul, Nat.reduceLT, Nat.reduceSub, Nat.reduceLeDiff]
          have hall : ∀ w ∈ l ++ [f], w.any badW = false := fun w hw => by
            obtain ⟨j, hj, hjl⟩ := mem_at hw
            exact hb j w (by omega) hj
          refine ⟨(), ⟨?_, hall⟩, ⟨[(51, .blk 51 0)], rfl, (by repeat (first | exact RO.zero | exact RO.e | refine RO.set rfl ?_)), (by repeat' (first | exact RB.nil | (refine RnL.same ?_; first | rfl | (simp only [noRef, noRefs, noRefs_append, Bool.and_self, Bool.and_true, Bool.true_and, noRefs_ints, noRefs_lsts, noRefs_pad, noRefs_tnC, noRefs_arcC, noRefs_rowF, noRefs_u8s]; done)) | exact RnM.keyM rfl | exact RnL.nil | refine RnL.cons ?_ ?_ | (refine Rn.same ?_; first | rfl | (simp only [noRef, noRefs, noRefs_append, Bool.and_self, Bool.and_true, Bool.true_and, noRefs_ints, noRefs_lsts, noRefs_pad, noRefs_tnC, noRefs_arcC, noRefs_rowF, noRefs_u8s]; done)) | exact Rn.x1 rfl rfl | exact Rn.x2 rfl rfl | exact Rn.x3 rfl rfl | exact Rn.x4 rfl rfl | exact Rn.x5 rfl | exact Rn.x6 rfl | exact Rn.x7 rfl | refine RB.newnil rfl rfl ?_ | refine RB.cells rfl rfl rfl ?_ ?_ | refine RB.map rfl rfl rfl ?_ ?_ | refine RB.cellsB rfl rfl ?_ ?_ | refine RB.mapB rfl rfl ?_ ?_)), (by repeat (first | exact RT.nil | (refine RT.cons ?_ ?_; · (first | exact Rn.any | exact Rn.x1 rfl rfl | exact Rn.x2 rfl rfl | exact Rn.x3 rfl rfl | exact Rn.x4 rfl rfl | exact Rn.x5 rfl | exact Rn.x6 rfl | exact Rn.x7 rfl | (refine Rn.slot ?_ ?_; (first | rfl | (rw [Int.natCast_add]; rfl)); (first | rfl | (simp only [noRef, noRefs, noRefs_append, Bool.and_self, Bool.and_true, Bool.true_and, noRefs_ints, noRefs_lsts, noRefs_pad, noRefs_tnC, noRefs_arcC, noRefs_rowF, noRefs_u8s]; done))) | (refine Rn.fn ?_ ?_ <;> (repeat' (first | exact RnL.nil | refine RnL.cons ?_ ?_ | exact Rn.same rfl | exact Rn.x6 rfl | exact Rn.x2 rfl rfl | exact Rn.x5 rfl | exact Rn.x1 rfl rfl)))))))⟩⟩
          rw [hE, if_neg]
          rintro (h | h)
          · obtain ⟨w, hw, hw2⟩ := List.any_eq_true.1 h
            rw [hall w (by simp [hw])] at hw2; cases hw2
          · rw [hall f (by simp)] at h; cases h
      rintro _ ⟨hE0, hall⟩
      have hsmw : ∀ w ∈ l ++ [f], ∀ y ∈ w, 0 ≤ y ∧ y ≤ 65536 := fun w hw y hy => by
        have h1 := List.any_eq_false.1 (hall w hw) y hy
        simp only [badW, decide_eq_true_eq] at h1
        omega
      have hV : cmbT l f = cmbV l f := if_pos hE0
      rw [hV, hE0]
      have hwd : wid l ≤ 1000 := by
        cases l with
        | nil => exact absurd rfl h0
        | cons a l => exact hll a (by simp)
      have hhd := head_wid (l := l) (by omega)
      have hl0 : 0 < l.length := by omega
      have hl128 : ¬ (128 : Int) < l.length := by omega
      have hk8 : (8 : Int) * (wid l : Int) ≤ 1099511627776 := by omega
      have hk1 : (wid l : Int) ≤ 1099511627776 := by omega
      simp (maxSteps := 1000000) (disch := first | omega | exact PairsOK.mk rfl | (simp only [lenW] <;> omega)) only [hl128, hl0, hhd, hk8, hk1, rowF_zero, wordsN, Int.reduceGT, wordsR, ne_eq, wS_regionP, aAppend_slF, aAppend_slN, aSlice_fslL, aSlice_fslH, aSlice_fslB, aSlice_slL, aSlice_slH, aSlice_slB, setL_cons, setL_nil, words, Nat.reduceAdd, Nat.reduceEqDiff, Nat.reduceBEq, ↓reduceIte, reduceCtorEq, SX.exit.injEq, if_true, if_false, Int.reduceAdd, Int.reduceSub, Int.reduceMul, Int.reduceLT, Int.reduceLE, Int.reduceEq, Int.reduceNe, Int.reduceNeg, Int.reduceToNat, Nat.reduceMul, Nat.reduceLT, Nat.reduceSub, Nat.reduceLeDiff]
      have hsml : ∀ r ∈ l, ∀ x ∈ r, sm x := fun r hr x hx => by have := hsmw r (by simp [hr]) x hx; unfold sm; omega
      have hsmf : ∀ x ∈ f, sm x := fun x hx => by have := hsmw f (by simp) x hx; unfold sm; omega
      refine wS_loopX 400 (fun k : Nat => [(1, sli f), (9, .sl 52 0 0 (wid l) 1), (51, lsts l), (52, .int .i64 l.length), (53, .int .i64 k)])
        (fun k => [(52, .cells 0 (rowF (wid l) fun c => colSum (l.take k) (f.take k) c))]) (fun k => k ≤ l.length) (fun k => l.length - k) 0 2 500
        (fun _ : Unit => [(9, .sl 52 0 0 (wid l) 1)]) (fun _ => [(52, .cells 0 (rowF (wid l) fun c => colSum l f c))]) (fun _ => True) ?_ (Nat.zero_le _) ?_ ?_
      · exact ⟨[(52, .blk 307 0)], rfl, (by repeat (first | exact RO.zero | exact RO.e | refine RO.set rfl ?_)), (by repeat' (first | exact RB.nil | (refine RnL.same ?_; first | rfl | (simp only [noRef, noRefs, noRefs_append, Bool.and_self, Bool.and_true, Bool.true_and, noRefs_ints, noRefs_lsts, noRefs_pad, noRefs_tnC, noRefs_arcC, noRefs_rowF, noRefs_u8s]; done)) | exact RnM.keyM rfl | exact RnL.nil | refine RnL.cons ?_ ?_ | (refine Rn.same ?_; first | rfl | (simp only [noRef, noRefs, noRefs_append, Bool.and_self, Bool.and_true, Bool.true_and, noRefs_ints, noRefs_lsts, noRefs_pad, noRefs_tnC, noRefs_arcC, noRefs_rowF, noRefs_u8s]; done)) | exact Rn.x1 rfl rfl | exact Rn.x2 rfl rfl | exact Rn.x3 rfl rfl | exact Rn.x4 rfl rfl | exact Rn.x5 rfl | exact Rn.x6 rfl | exact Rn.x7 rfl | refine RB.newnil rfl rfl ?_ | refine RB.cells rfl rfl rfl ?_ ?_ | refine RB.map rfl rfl rfl ?_ ?_ | refine RB.cellsB rfl rfl ?_ ?_ | refine RB.mapB rfl rfl ?_ ?_)), (by repeat (first | exact RT.nil | (refine RT.cons ?_ ?_; · (first | exact Rn.any | exact Rn.x1 rfl rfl | exact Rn.x2 rfl rfl | exact Rn.x3 rfl rfl | exact Rn.x4 rfl rfl | exact Rn.x5 rfl | exact Rn.x6 rfl | exact Rn.x7 rfl | (refine Rn.slot ?_ ?_; (first | rfl | (rw [Int.natCast_add]; rfl)); (first | rfl | (simp only [noRef, noRefs, noRefs_append, Bool.and_self, Bool.and_true, Bool.true_and, noRefs_ints, noRefs_lsts, noRefs_pad, noRefs_tnC, noRefs_arcC, noRefs_rowF, noRefs_u8s]; done))) | (refine Rn.fn ?_ ?_ <;> (repeat' (first | exact RnL.nil | refine RnL.cons ?_ ?_ | exact Rn.same rfl | exact Rn.x6 rfl | exact Rn.x2 rfl rfl | exact Rn.x5 rfl | exact Rn.x1 rfl rfl)))))))⟩
      · intro k hk
        by_cases hlt : k < l.length
        · obtain ⟨w, hw⟩ := get_ex hlt
          have hwm := List.mem_of_getElem? hw
          have hwl := hw' w hwm
          obtain ⟨fk, hfk⟩ := get_ex (l := f) (i := k) (by omega)
          have hfkb := hsmw f (by simp) fk (List.mem_of_getElem? hfk)
          have hst := fun c => colSum_take (k := c) hw hfk
          have hcb := fun c => colSum_bound (l := l.take k) (w := f.take k) (k := c) (fun r hr => hsml r (List.mem_of_mem_take hr)) (fun x hx => hsmf x (List.mem_of_mem_take hx))
          have hkl : ((l.take k).length : Int) ≤ 127 := by rw [List.length_take]; omega
          have hkf : k < f.length := by omega
          simp (maxSteps := 1000000) (disch := first | omega | exact PairsOK.mk rfl | (simp only [lenW] <;> omega)) only [hlt, head_lsts hw, wordsN, Int.reduceGT, wordsR, ne_eq, wS_regionP, aAppend_slF, aAppend_slN, aSlice_fslL, aSlice_fslH, aSlice_fslB, aSlice_slL, aSlice_slH, aSlice_slB, setL_cons, setL_nil, words, Nat.reduceAdd, Nat.reduceEqDiff, Nat.reduceBEq, ↓reduceIte, reduceCtorEq, SX.exit.injEq, if_true, if_false, Int.reduceAdd, Int.reduceSub, Int.reduceMul, Int.reduceLT, Int.reduceLE, Int.reduceEq, Int.reduceNe, Int.reduceNeg, Int.reduceToNat, Nat.reduceMul, Nat.reduceLT, Nat.reduceSub, Nat.reduceLeDiff]
          refine wS_loopX 600 (fun i : Nat => [(1, sli f), (9, .sl 52 0 0 (wid l) 1), (51, lsts l), (52, .int .i64 l.length), (53, .int .i64 k), (10, .int .i64 k), (58, sli w), (59, .int .i64 (wid l)), (60, .int .i64 i)])
            (fun i => [(52, .cells 0 (rowF (wid l) fun c => if c < i then colSum (l.take (k + 1)) (f.take (k + 1)) c else colSum (l.take k) (f.take k) c))]) (fun i => i ≤ wid l) (fun i => wid l - i) 0 4 700
            (fun _ : Unit => [(1, sli f), (9, .sl 52 0 0 (wid l) 1), (51, lsts l), (52, .int .i64 l.length), (53, .int .i64 k)]) (fun _ => [(52, .cells 0 (rowF (wid l) fun c => colSum (l.take (k + 1)) (f.take (k + 1)) c))]) (fun _ => True) ?_ (Nat.zero_le _) ?_ ?_
          · rw [← hwl]
            refine ⟨[(52, .blk 52 0)], rfl, (by repeat (first | exact RO.zero | exact RO.e | refine RO.set rfl ?_)), ?_, (by repeat (first | exact RT.nil | (refine RT.cons ?_ ?_; · (first | exact Rn.any | exact Rn.x1 rfl rfl | exact Rn.x2 rfl rfl | exact Rn.x3 rfl rfl | exact Rn.x4 rfl rfl | exact Rn.x5 rfl | exact Rn.x6 rfl | exact Rn.x7 rfl | (refine Rn.slot ?_ ?_; (first | rfl | (rw [Int.natCast_add]; rfl)); (first | rfl | (simp only [noRef, noRefs, noRefs_append, Bool.and_self, Bool.and_true, Bool.true_and, noRefs_ints, noRefs_lsts, noRefs_pad, noRefs_tnC, noRefs_arcC, noRefs_rowF, noRefs_u8s]; done))) | (refine Rn.fn ?_ ?_ <;> (repeat' (first | exact RnL.nil | refine RnL.cons ?_ ?_ | exact Rn.same rfl | exact Rn.x6 rfl | exact Rn.x2 rfl rfl | exact Rn.x5 rfl | exact Rn.x1 rfl rfl)))))))⟩
            refine RB.cells rfl rfl rfl (RnL.eq (rowF_congr fun c _ => by rw [if_neg (Nat.not_lt_zero _)]) (noRefs_rowF _ _)) RB.nil
          · intro i hi
            by_cases hil : i < wid l
            · obtain ⟨y, hy⟩ := get_ex (l := w) (i := i) (by omega)
              have hyb := hsmw w (by simp [hwm]) y (List.mem_of_getElem? hy)
              have hyD : w.getD i 0 = y := by rw [List.getD_eq_getElem?_getD, hy]; rfl
              have hsti := hst i
              rw [hyD] at hsti
              have hcbi := hcb i
              have hg := rowF_get (fun c => if c < i then colSum (l.take (k + 1)) (f.take (k + 1)) c else colSum (l.take k) (f.take k) c) hil
              rw [if_neg (Nat.lt_irrefl i)] at hg
              have hset : ∀ v, (rowF (wid l) fun c => if c < i then colSum (l.take (k + 1)) (f.take (k + 1)) c else colSum (l.take k) (f.take k) c).set i (.int .i64 v) = rowF (wid l) (fun c => if c = i then v else if c < i then colSum (l.take (k + 1)) (f.take (k + 1)) c else colSum (l.take k) (f.take k) c) := fun v => rowF_set _ v
              have hm := mul_sm (x := fk) (y := y) (by unfold sm; omega) (by unfold sm; omega)
              generalize hP : fk * y = P at hm hsti
              generalize colSum (l.take k) (f.take k) i = C at hg hsti hcbi
              have hb1 : -(127 * 4294967296) ≤ C ∧ C ≤ 127 * 4294967296 := by
                have h3 : ((l.take k).length : Int) * 4294967296 ≤ 127 * 4294967296 := Int.mul_le_mul_of_nonneg_right hkl (by decide)
                omega
              have hnb : ¬ (1099511627776 : Int) < C + P := by omega
              have hi1 : i + 1 ≤ wid l := hil
              have hg2 := rowF_get (fun c => if c = i then C + P else if c < i then colSum (l.take (k + 1)) (f.take (k + 1)) c else colSum (l.take k) (f.take k) c) hil
              rw [if_pos rfl] at hg2
              simp (maxSteps := 1000000) (disch := first | omega | exact PairsOK.mk rfl | (simp only [lenW] <;> omega)) only [hil, hg, head_ints hy, head_ints hfk, hkf, hP, hset, rowF_len, hi1, hg2, hnb, wordsN, Int.reduceGT, wordsR, ne_eq, wS_regionP, aAppend_slF, aAppend_slN, aSlice_fslL, aSlice_fslH, aSlice_fslB, aSlice_slL, aSlice_slH, aSlice_slB, setL_cons, setL_nil, words, Nat.reduceAdd, Nat.reduceEqDiff, Nat.reduceBEq, ↓reduceIte, reduceCtorEq, SX.exit.injEq, if_true, if_false, Int.reduceAdd, Int.reduceSub, Int.reduceMul, Int.reduceLT, Int.reduceLE, Int.reduceEq, Int.reduceNe, Int.reduceNeg, Int.reduceToNat, Nat.reduceMul, Nat.reduceLT, Nat.reduceSub, Nat.reduceLeDiff]
              refine ⟨i + 1, by omega, by omega, ?_⟩
              refine ⟨[(52, .blk 52 0)], rfl, (by repeat (first | exact RO.zero | exact RO.e | refine RO.set rfl ?_)), ?_, (by repeat (first | exact RT.nil | (refine RT.cons ?_ ?_; · (first | exact Rn.any | exact Rn.x1 rfl rfl | exact Rn.x2 rfl rfl | exact Rn.x3 rfl rfl | exact Rn.x4 rfl rfl | exact Rn.x5 rfl | exact Rn.x6 rfl | exact Rn.x7 rfl | (refine Rn.slot ?_ ?_; (first | rfl | (rw [Int.natCast_add]; rfl)); (first | rfl | (simp only [noRef, noRefs, noRefs_append, Bool.and_self, Bool.and_true, Bool.true_and, noRefs_ints, noRefs_lsts, noRefs_pad, noRefs_tnC, noRefs_arcC, noRefs_rowF, noRefs_u8s]; done))) | (refine Rn.fn ?_ ?_ <;> (repeat' (first | exact RnL.nil | refine RnL.cons ?_ ?_ | exact Rn.same rfl | exact Rn.x6 rfl | exact Rn.x2 rfl rfl | exact Rn.x5 rfl | exact Rn.x1 rfl rfl)))))))⟩
              refine RB.cells rfl rfl rfl (RnL.eq (rowF_congr fun c _ => ?_) (noRefs_rowF _ _)) RB.nil
              by_cases e : c = i
              · subst e; rw [if_pos (Nat.lt_succ_self _), if_pos rfl, hsti]
              · by_cases e2 : c < i
                · rw [if_pos (by omega), if_neg e, if_pos e2]
                · rw [if_neg (by omega), if_neg e, if_neg e2]
            · simp (maxSteps := 1000000) (disch := first | omega | exact PairsOK.mk rfl | (simp only [lenW] <;> omega)) only [hil, wordsN, Int.reduceGT, wordsR, ne_eq, wS_regionP, aAppend_slF, aAppend_slN, aSlice_fslL, aSlice_fslH, aSlice_fslB, aSlice_slL, aSlice_slH, aSlice_slB, setL_cons, setL_nil, words, Nat.reduceAdd, Nat.reduceEqDiff, Nat.reduceBEq, ↓reduceIte, reduceCtorEq, SX.exit.injEq, if_true, if_false, Int.reduceAdd, Int.reduceSub, Int.reduceMul, Int.reduceLT, Int.reduceLE, Int.reduceEq, Int.reduceNe, Int.reduceNeg, Int.reduceToNat, Nat.reduceMul, Nat.reduceLT, Nat.reduceSub, Nat.reduceLeDiff]
              refine ⟨(), ?_⟩
              refine ⟨[(52, .blk 52 0)], rfl, (by repeat (first | exact RO.zero | exact RO.e | refine RO.set rfl ?_)), ?_, (by repeat (first | exact RT.nil | (refine RT.cons ?_ ?_; · (first | exact Rn.any | exact Rn.x1 rfl rfl | exact Rn.x2 rfl rfl | exact Rn.x3 rfl rfl | exact Rn.x4 rfl rfl | exact Rn.x5 rfl | exact Rn.x6 rfl | exact Rn.x7 rfl | (refine Rn.slot ?_ ?_; (first | rfl | (rw [Int.natCast_add]; rfl)); (first | rfl | (simp only [noRef, noRefs, noRefs_append, Bool.and_self, Bool.and_true, Bool.true_and, noRefs_ints, noRefs_lsts, noRefs_pad, noRefs_tnC, noRefs_arcC, noRefs_rowF, noRefs_u8s]; done))) | (refine Rn.fn ?_ ?_ <;> (repeat' (first | exact RnL.nil | refine RnL.cons ?_ ?_ | exact Rn.same rfl | exact Rn.x6 rfl | exact Rn.x2 rfl rfl | exact Rn.x5 rfl | exact Rn.x1 rfl rfl)))))))⟩
              refine RB.cells rfl rfl rfl (RnL.eq (rowF_congr fun c hc => by rw [if_pos (by omega)]) (noRefs_rowF _ _)) RB.nil
          rintro _ -
          simp (maxSteps := 1000000) (disch := first | omega | exact PairsOK.mk rfl | (simp only [lenW] <;> omega)) only [wordsN, Int.reduceGT, wordsR, ne_eq, wS_regionP, aAppend_slF, aAppend_slN, aSlice_fslL, aSlice_fslH, aSlice_fslB, aSlice_slL, aSlice_slH, aSlice_slB, setL_cons, setL_nil, words, Nat.reduceAdd, Nat.reduceEqDiff, Nat.reduceBEq, ↓reduceIte, reduceCtorEq, SX.exit.injEq, if_true, if_false, Int.reduceAdd, Int.reduceSub, Int.reduceMul, Int.reduceLT, Int.reduceLE, Int.reduceEq, Int.reduceNe, Int.reduceNeg, Int.reduceToNat, Nat.reduceMul, Nat.reduceLT, Nat.reduceSub, Nat.reduceLeDiff]
          exact ⟨k + 1, by omega, by omega, ⟨[(52, .blk 52 0)], rfl, (by repeat (first | exact RO.zero | exact RO.e | refine RO.set rfl ?_)), (by repeat' (first | exact RB.nil | (refine RnL.same ?_; first | rfl | (simp only [noRef, noRefs, noRefs_append, Bool.and_self, Bool.and_true, Bool.true_and, noRefs_ints, noRefs_lsts, noRefs_pad, noRefs_tnC, noRefs_arcC, noRefs_rowF, noRefs_u8s]; done)) | exact RnM.keyM rfl | exact RnL.nil | refine RnL.cons ?_ ?_ | (refine Rn.same ?_; first | rfl | (simp only [noRef, noRefs, noRefs_append, Bool.and_self, Bool.and_true, Bool.true_and, noRefs_ints, noRefs_lsts, noRefs_pad, noRefs_tnC, noRefs_arcC, noRefs_rowF, noRefs_u8s]; done)) | exact Rn.x1 rfl rfl | exact Rn.x2 rfl rfl | exact Rn.x3 rfl rfl | exact Rn.x4 rfl rfl | exact Rn.x5 rfl | exact Rn.x6 rfl | exact Rn.x7 rfl | refine RB.newnil rfl rfl ?_ | refine RB.cells rfl rfl rfl ?_ ?_ | refine RB.map rfl rfl rfl ?_ ?_ | refine RB.cellsB rfl rfl ?_ ?_ | refine RB.mapB rfl rfl ?_ ?_)), (by repeat (first | exact RT.nil | (refine RT.cons ?_ ?_; · (first | exact Rn.any | exact Rn.x1 rfl rfl | exact Rn.x2 rfl rfl | exact Rn.x3 rfl rfl | exact Rn.x4 rfl rfl | exact Rn.x5 rfl | exact Rn.x6 rfl | exact Rn.x7 rfl | (refine Rn.slot ?_ ?_; (first | rfl | (rw [Int.natCast_add]; rfl)); (first | rfl | (simp only [noRef, noRefs, noRefs_append, Bool.and_self, Bool.and_true, Bool.true_and, noRefs_ints, noRefs_lsts, noRefs_pad, noRefs_tnC, noRefs_arcC, noRefs_rowF, noRefs_u8s]; done))) | (refine Rn.fn ?_ ?_ <;> (repeat' (first | exact RnL.nil | refine RnL.cons ?_ ?_ | exact Rn.same rfl | exact Rn.x6 rfl | exact Rn.x2 rfl rfl | exact Rn.x5 rfl | exact Rn.x1 rfl rfl)))))))⟩⟩
        · simp (maxSteps := 1000000) (disch := first | omega | exact PairsOK.mk rfl | (simp only [lenW] <;> omega)) only [hlt, wordsN, Int.reduceGT, wordsR, ne_eq, wS_regionP, aAppend_slF, aAppend_slN, aSlice_fslL, aSlice_fslH, aSlice_fslB, aSlice_slL, aSlice_slH, aSlice_slB, setL_cons, setL_nil, words, Nat.reduceAdd, Nat.reduceEqDiff, Nat.reduceBEq, ↓reduceIte, reduceCtorEq, SX.exit.injEq, if_true, if_false, Int.reduceAdd, Int.reduceSub, Int.reduceMul, Int.reduceLT, Int.reduceLE, Int.reduceEq, Int.reduceNe, Int.reduceNeg, Int.reduceToNat, Nat.reduceMul, Nat.reduceLT, Nat.reduceSub, Nat.reduceLeDiff]
          have e : k = l.length := by omega
          refine ⟨(), ?_⟩
          refine ⟨[(52, .blk 52 0)], rfl, (by repeat (first | exact RO.zero | exact RO.e | refine RO.set rfl ?_)), ?_, (by repeat (first | exact RT.nil | (refine RT.cons ?_ ?_; · (first | exact Rn.any | exact Rn.x1 rfl rfl | exact Rn.x2 rfl rfl | exact Rn.x3 rfl rfl | exact Rn.x4 rfl rfl | exact Rn.x5 rfl | exact Rn.x6 rfl | exact Rn.x7 rfl | (refine Rn.slot ?_ ?_; (first | rfl | (rw [Int.natCast_add]; rfl)); (first | rfl | (simp only [noRef, noRefs, noRefs_append, Bool.and_self, Bool.and_true, Bool.true_and, noRefs_ints, noRefs_lsts, noRefs_pad, noRefs_tnC, noRefs_arcC, noRefs_rowF, noRefs_u8s]; done))) | (refine Rn.fn ?_ ?_ <;> (repeat' (first | exact RnL.nil | refine RnL.cons ?_ ?_ | exact Rn.same rfl | exact Rn.x6 rfl | exact Rn.x2 rfl rfl | exact Rn.x5 rfl | exact Rn.x1 rfl rfl)))))))⟩
          refine RB.cells rfl rfl rfl (RnL.eq (by rw [e, List.take_length, ← h1, List.take_length]) (noRefs_rowF _ _)) RB.nil
      rintro _ -
      simp (maxSteps := 1000000) (disch := first | omega | exact PairsOK.mk rfl | (simp only [lenW] <;> omega)) only [wordsN, Int.reduceGT, wordsR, ne_eq, wS_regionP, aAppend_slF, aAppend_slN, aSlice_fslL, aSlice_fslH, aSlice_fslB, aSlice_slL, aSlice_slH, aSlice_slB, setL_cons, setL_nil, words, Nat.reduceAdd, Nat.reduceEqDiff, Nat.reduceBEq, ↓reduceIte, reduceCtorEq, SX.exit.injEq, if_true, if_false, Int.reduceAdd, Int.reduceSub, Int.reduceMul, Int.reduceLT, Int.reduceLE, Int.reduceEq, Int.reduceNe, Int.reduceNeg, Int.reduceToNat, Nat.reduceMul, Nat.reduceLT, Nat.reduceSub, Nat.reduceLeDiff]
      refine ⟨.inr trivial, _, rfl, ?_⟩
      refine Rn.tup (RnL.cons ?_ (RnL.same rfl))
      show Rn 0 π0 _ (.fsl (rowF (wid l) fun c => colSum l f c) (cmbV l f).length 1) _
      rw [show (cmbV l f).length = wid l by simp [cmbV]]
      exact Rn.fz0 rfl (by rw [rowF_len, Nat.mul_one]) (RnL.same (noRefs_rowF _ _))
  · have hE : cmbE l f = 4 := by unfold cmbE; rw [if_neg h0, if_pos (.inl h1)]
    have h1' : ¬ (f.length : Int) = l.length := by omega
    simp (maxSteps := 1000000) (disch := first | omega | exact PairsOK.mk rfl | (simp only [lenW] <;> omega)) only [SY.s34, h0', h1', wordsN, Int.reduceGT, wordsR, ne_eq, wS_regionP, aAppend_slF, aAppend_slN, aSlice_fslL, aSlice_fslH, aSlice_fslB, aSlice_slL, aSlice_slH, aSlice_slB, setL_cons, setL_nil, words, Nat.reduceAdd, Nat.reduceEqDiff, Nat.reduceBEq, ↓reduceIte, reduceCtorEq, SX.exit.injEq, if_true, if_false, Int.reduceAdd, Int.reduceSub, Int.reduceMul, Int.reduceLT, Int.reduceLE, Int.reduceEq, Int.reduceNe, Int.reduceNeg, Int.reduceToNat, Nat.reduceMul, Nat.reduceLT, Nat.reduceSub, Nat.reduceLeDiff]
    exact ⟨.inr trivial, _, rfl, hdone 4 hE (by decide) _⟩
end Go.AM.SN
namespace Go.AM.SN
open Go.Proofs
set_option maxRecDepth 100000
set_option linter.unusedSimpArgs false
set_option linter.unusedVariables false
set_option maxHeartbeats 8000000 in
theorem combined35 (l : List (List Int)) (f : List Int) (hl : l.length ≤ 128) (hll : ∀ w ∈ l, w.length ≤ 1000) (hf : f.length ≤ 1000) :
    PSpec Try.prog 35 [lsts l, sli f] (.tup [.int .i64 (cmbE l f), sli (cmbT l f)]) := by
  refine PSpec.of_rn 64 SY.ok35 rfl (by simp only [noRefs, noRef, noRefs_ints, noRefs_lsts]; rfl) (by simp only [noRef, noRefs, noRefs_ints]; rfl) ?_
  have hdone : ∀ (e : Int), cmbE l f = e → e ≠ 0 → ∀ (h : Heap), Rn 0 π0 h (.tup [.int .i64 (cmbE l f), sli (cmbT l f)]) (.tup [.int .i64 e, .nilsl]) := fun e he h0 h => by
    rw [cmbE_none l f (by omega), he]
    exact Rn.tup (RnL.cons (Rn.same rfl) (RnL.cons Rn.nilF RnL.nil))
  by_cases h0 : l.length = 0
  · have hE : cmbE l f = 12 := if_pos h0
    simp (maxSteps := 1000000) (disch := first | omega | exact PairsOK.mk rfl | (simp only [lenW] <;> omega)) only [SY.s35, h0, wordsN, Int.reduceGT, wordsR, ne_eq, wS_regionP, aAppend_slF, aAppend_slN, aSlice_fslL, aSlice_fslH, aSlice_fslB, aSlice_slL, aSlice_slH, aSlice_slB, setL_cons, setL_nil, words, Nat.reduceAdd, Nat.reduceEqDiff, Nat.reduceBEq, ↓reduceIte, reduceCtorEq, SX.exit.injEq, if_true, if_false, Int.reduceAdd, Int.reduceSub, Int.reduceMul, Int.reduceLT, Int.reduceLE, Int.reduceEq, Int.reduceNe, Int.reduceNeg, Int.reduceToNat, Nat.reduceMul, Nat.reduceLT, Nat.reduceSub, Nat.reduceLeDiff]
    exact ⟨.inr trivial, _, rfl, hdone 12 hE (by decide) _⟩
  have h0' : ¬ (l.length : Int) = 0 := by omega
  have hl0 : 0 < l.length := by omega
  have hhd := head_wid hl0
  simp (maxSteps := 1000000) (disch := first | omega | exact PairsOK.mk rfl | (simp only [lenW] <;> omega)) only [SY.s35, h0', wordsN, Int.reduceGT, wordsR, ne_eq, wS_regionP, aAppend_slF, aAppend_slN, aSlice_fslL, aSlice_fslH, aSlice_fslB, aSlice_slL, aSlice_slH, aSlice_slB, setL_cons, setL_nil, words, Nat.reduceAdd, Nat.reduceEqDiff, Nat.reduceBEq, ↓reduceIte, reduceCtorEq, SX.exit.injEq, if_true, if_false, Int.reduceAdd, Int.reduceSub, Int.reduceMul, Int.reduceLT, Int.reduceLE, Int.reduceEq, Int.reduceNe, Int.reduceNeg, Int.reduceToNat, Nat.reduceMul, Nat.reduceLT, Nat.reduceSub, Nat.reduceLeDiff]
  refine wS_loopX 100 (fun i : Nat => [(0, lsts l), (1, sli f), (6, .int .i64 i)]) (fun _ => []) (fun i => i ≤ l.length ∧ ∀ (j : Nat) y, j < i → l[j]? = some y → y.length = wid l) (fun i => l.length - i) 0 0 200
    (fun _ : Unit => [(0, lsts l), (1, sli f)]) (fun _ => []) (fun _ => ∀ w ∈ l, w.length = wid l) ⟨[], rfl, (by repeat (first | exact RO.zero | exact RO.e | refine RO.set rfl ?_)), (by repeat' (first | exact RB.nil | (refine RnL.same ?_; first | rfl | (simp only [noRef, noRefs, noRefs_append, Bool.and_self, Bool.and_true, Bool.true_and, noRefs_ints, noRefs_lsts, noRefs_pad, noRefs_tnC, noRefs_arcC, noRefs_rowF, noRefs_u8s]; done)) | exact RnM.keyM rfl | exact RnL.nil | refine RnL.cons ?_ ?_ | (refine Rn.same ?_; first | rfl | (simp only [noRef, noRefs, noRefs_append, Bool.and_self, Bool.and_true, Bool.true_and, noRefs_ints, noRefs_lsts, noRefs_pad, noRefs_tnC, noRefs_arcC, noRefs_rowF, noRefs_u8s]; done)) | exact Rn.x1 rfl rfl | exact Rn.x2 rfl rfl | exact Rn.x3 rfl rfl | exact Rn.x4 rfl rfl | exact Rn.x5 rfl | exact Rn.x6 rfl | exact Rn.x7 rfl | refine RB.newnil rfl rfl ?_ | refine RB.cells rfl rfl rfl ?_ ?_ | refine RB.map rfl rfl rfl ?_ ?_ | refine RB.cellsB rfl rfl ?_ ?_ | refine RB.mapB rfl rfl ?_ ?_)), (by repeat (first | exact RT.nil | (refine RT.cons ?_ ?_; · (first | exact Rn.any | exact Rn.x1 rfl rfl | exact Rn.x2 rfl rfl | exact Rn.x3 rfl rfl | exact Rn.x4 rfl rfl | exact Rn.x5 rfl | exact Rn.x6 rfl | exact Rn.x7 rfl | (refine Rn.slot ?_ ?_; (first | rfl | (rw [Int.natCast_add]; rfl)); (first | rfl | (simp only [noRef, noRefs, noRefs_append, Bool.and_self, Bool.and_true, Bool.true_and, noRefs_ints, noRefs_lsts, noRefs_pad, noRefs_tnC, noRefs_arcC, noRefs_rowF, noRefs_u8s]; done))) | (refine Rn.fn ?_ ?_ <;> (repeat' (first | exact RnL.nil | refine RnL.cons ?_ ?_ | exact Rn.same rfl | exact Rn.x6 rfl | exact Rn.x2 rfl rfl | exact Rn.x5 rfl | exact Rn.x1 rfl rfl)))))))⟩ ⟨Nat.zero_le _, fun j y hj => absurd hj (Nat.not_lt_zero _)⟩ ?_ ?_
  · rintro i ⟨hi, hb⟩
    by_cases hlt : i < l.length
    · obtain ⟨w, hw⟩ := get_ex hlt
      by_cases hww : w.length = wid l
      · simp (maxSteps := 1000000) (disch := first | omega | exact PairsOK.mk rfl | (simp only [lenW] <;> omega)) only [hlt, head_lsts hw, hl0, hhd, hww, wordsN, Int.reduceGT, wordsR, ne_eq, wS_regionP, aAppend_slF, aAppend_slN, aSlice_fslL, aSlice_fslH, aSlice_fslB, aSlice_slL, aSlice_slH, aSlice_slB, setL_cons, setL_nil, words, Nat.reduceAdd, Nat.reduceEqDiff, Nat.reduceBEq, ↓reduceIte, reduceCtorEq, SX.exit.injEq, if_true, if_false, Int.reduceAdd, Int.reduceSub, Int.reduceMul, Int.reduceLT, Int.reduceLE, Int.reduceEq, Int.reduceNe, Int.reduceNeg, Int.reduceToNat, Nat.reduceMul, Nat.reduceLT, Nat.reduceSub, Nat.reduceLeDiff]
        refine ⟨i + 1, by omega, ⟨by omega, fun j y hj hy => ?_⟩, ⟨[], rfl, (by repeat (first | exact RO.zero | exact RO.e | refine RO.set rfl ?_)), (by repeat' (first | exact RB.nil | (refine RnL.same ?_; first | rfl | (simp only [noRef, noRefs, noRefs_append, Bool.and_self, Bool.and_true, Bool.true_and, noRefs_ints, noRefs_lsts, noRefs_pad, noRefs_tnC, noRefs_arcC, noRefs_rowF, noRefs_u8s]; done)) | exact RnM.keyM rfl | exact RnL.nil | refine RnL.cons ?_ ?_ | (refine Rn.same ?_; first | rfl | (simp only [noRef, noRefs, noRefs_append, Bool.and_self, Bool.and_true, Bool.true_and, noRefs_ints, noRefs_lsts, noRefs_pad, noRefs_tnC, noRefs_arcC, noRefs_rowF, noRefs_u8s]; done)) | exact Rn.x1 rfl rfl | exact Rn.x2 rfl rfl | exact Rn.x3 rfl rfl | exact Rn.x4 rfl rfl | exact Rn.x5 rfl | exact Rn.x6 rfl | exact Rn.x7 rfl | refine RB.newnil rfl rfl ?_ | refine RB.cells rfl rfl rfl ?_ ?_ | refine RB.map rfl rfl rfl ?_ ?_ | refine RB.cellsB rfl rfl ?_ ?_ | refine RB.mapB rfl rfl ?_ ?_)), (by repeat (first | exact RT.nil | (refine RT.cons ?_ ?_; · (first | exact Rn.any | exact Rn.x1 rfl rfl | exact Rn.x2 rfl rfl | exact Rn.x3 rfl rfl | exact Rn.x4 rfl rfl | exact Rn.x5 rfl | exact Rn.x6 rfl | exact Rn.x7 rfl | (refine Rn.slot ?_ ?_; (first | rfl | (rw [Int.natCast_add]; rfl)); (first | rfl | (simp only [noRef, noRefs, noRefs_append, Bool.and_self, Bool.and_true, Bool.true_and, noRefs_ints, noRefs_lsts, noRefs_pad, noRefs_tnC, noRefs_arcC, noRefs_rowF, noRefs_u8s]; done))) | (refine Rn.fn ?_ ?_ <;> (repeat' (first | exact RnL.nil | refine RnL.cons ?_ ?_ | exact Rn.same rfl | exact Rn.x6 rfl | exact Rn.x2 rfl rfl | exact Rn.x5 rfl | exact Rn.x1 rfl rfl)))))))⟩⟩
        by_cases e : j = i
        · subst e; rw [hw] at hy; cases hy; exact hww
        · exact hb j y (by omega) hy
      · have hE : cmbE l f = 4 := by
          unfold cmbE; rw [if_neg h0, if_pos]
          exact .inr (List.any_eq_true.2 ⟨w, List.mem_of_getElem? hw, by simp [hww]⟩)
        simp (maxSteps := 1000000) (disch := first | omega | exact PairsOK.mk rfl | (simp only [lenW] <;> omega)) only [hlt, head_lsts hw, hl0, hhd, hww, wordsN, Int.reduceGT, wordsR, ne_eq, wS_regionP, aAppend_slF, aAppend_slN, aSlice_fslL, aSlice_fslH, aSlice_fslB, aSlice_slL, aSlice_slH, aSlice_slB, setL_cons, setL_nil, words, Nat.reduceAdd, Nat.reduceEqDiff, Nat.reduceBEq, ↓reduceIte, reduceCtorEq, SX.exit.injEq, if_true, if_false, Int.reduceAdd, Int.reduceSub, Int.reduceMul, Int.reduceLT, Int.reduceLE, Int.reduceEq, Int.reduceNe, Int.reduceNeg, Int.reduceToNat, Nat.reduceMul, Nat.reduceLT, Nat.reduceSub, Nat.reduceLeDiff]
        exact ⟨.inr trivial, _, rfl, hdone 4 hE (by decide) _⟩
    · simp (maxSteps := 1000000) (disch := first | omega | exact PairsOK.mk rfl | (simp only [lenW] <;> omega)) only [hlt, wordsN, Int.reduceGT, wordsR, ne_eq, wS_regionP, aAppend_slF, aAppend_slN, aSlice_fslL, aSlice_fslH, aSlice_fslB, aSlice_slL, aSlice_slH, aSlice_slB, setL_cons, setL_nil, words, Nat.reduceAdd, Nat.reduceEqDiff, Nat.reduceBEq, ↓reduceIte, reduceCtorEq, SX.exit.injEq, if_true, if_false, Int.reduceAdd, Int.reduceSub, Int.reduceMul, Int.reduceLT, Int.reduceLE, Int.reduceEq, Int.reduceNe, Int.reduceNeg, Int.reduceToNat, Nat.reduceMul, Nat.reduceLT, Nat.reduceSub, Nat.reduceLeDiff]
      exact ⟨(), fun w hw => by obtain ⟨j, hj, hjl⟩ := mem_at hw; exact hb j w (by omega) hj, ⟨[], rfl, (by repeat (first | exact RO.zero | exact RO.e | refine RO.set rfl ?_)), (by repeat' (first | exact RB.nil | (refine RnL.same ?_; first | rfl | (simp only [noRef, noRefs, noRefs_append, Bool.and_self, Bool.and_true, Bool.true_and, noRefs_ints, noRefs_lsts, noRefs_pad, noRefs_tnC, noRefs_arcC, noRefs_rowF, noRefs_u8s]; done)) | exact RnM.keyM rfl | exact RnL.nil | refine RnL.cons ?_ ?_ | (refine Rn.same ?_; first | rfl | (simp only [noRef, noRefs, noRefs_append, Bool.and_self, Bool.and_true, Bool.true_and, noRefs_ints, noRefs_lsts, noRefs_pad, noRefs_tnC, noRefs_arcC, noRefs_rowF, noRefs_u8s]; done)) | exact Rn.x1 rfl rfl | exact Rn.x2 rfl rfl | exact Rn.x3 rfl rfl | exact Rn.x4 rfl rfl | exact Rn.x5 rfl | exact Rn.x6 rfl | exact Rn.x7 rfl | refine RB.newnil rfl rfl ?_ | refine RB.cells rfl rfl rfl ?_ ?_ | refine RB.map rfl rfl rfl ?_ ?_ | refine RB.cellsB rfl rfl ?_ ?_ | refine RB.mapB rfl rfl ?_ ?_)), (by repeat (first | exact RT.nil | (refine RT.cons ?_ ?_; · (first | exact Rn.any | exact Rn.x1 rfl rfl | exact Rn.x2 rfl rfl | exact Rn.x3 rfl rfl | exact Rn.x4 rfl rfl | exact Rn.x5 rfl | exact Rn.x6 rfl | exact Rn.x7 rfl | (refine Rn.slot ?_ ?_; (first | rfl | (rw [Int.natCast_add]; rfl)); (first | rfl | (simp only [noRef, noRefs, noRefs_append, Bool.and_self, Bool.and_true, Bool.true_and, noRefs_ints, noRefs_lsts, noRefs_pad, noRefs_tnC, noRefs_arcC, noRefs_rowF, noRefs_u8s]; done))) | (refine Rn.fn ?_ ?_ <;> (repeat' (first | exact RnL.nil | refine RnL.cons ?_ ?_ | exact Rn.same rfl | exact Rn.x6 rfl | exact Rn.x2 rfl rfl | exact Rn.x5 rfl | exact Rn.x1 rfl rfl)))))))⟩⟩
  rintro _ hw'
  have hany : (l.any fun w => !decide (w.length = wid l)) = false := by
    rw [List.any_eq_false]; intro w hw; simp [hw' w hw]
  by_cases h1 : f.length = l.length
  · have h1' : (f.length : Int) = l.length := by omega
    have hE : cmbE l f = if l.any (fun w => w.any badW) = true ∨ f.any badW = true then 2 else 0 := by
      unfold cmbE; rw [if_neg h0, if_neg]
      rintro (h | h)
      · exact h h1
      · rw [hany] at h; cases h
    simp (maxSteps := 1000000) (disch := first | omega | exact PairsOK.mk rfl | (simp only [lenW] <;> omega)) only [h1', wordsN, Int.reduceGT, wordsR, ne_eq, wS_regionP, aAppend_slF, aAppend_slN, aSlice_fslL, aSlice_fslH, aSlice_fslB, aSlice_slL, aSlice_slH, aSlice_slB, setL_cons, setL_nil, words, Nat.reduceAdd, Nat.reduceEqDiff, Nat.reduceBEq, ↓reduceIte, reduceCtorEq, SX.exit.injEq, if_true, if_false, Int.reduceAdd, Int.reduceSub, Int.reduceMul, Int.reduceLT, Int.reduceLE, Int.reduceEq, Int.reduceNe, Int.reduceNeg, Int.reduceToNat, Nat.reduceMul, Nat.reduceLT, Nat.reduceSub, Nat.reduceLeDiff]
    refine wS_loopX 300 (fun i : Nat => [(0, lsts l), (1, sli f), (7, .int .i64 i)]) (fun _ => []) (fun i => i ≤ l.length ∧ ∀ (j : Nat) y, j < i → l[j]? = some y → y.any badW = false) (fun i => l.length - i) 0 2 400
      (fun _ : Unit => [(0, lsts l), (1, sli f)]) (fun _ => []) (fun _ => ∀ w ∈ l, w.any badW = false) ⟨[], rfl, (by repeat (first | exact RO.zero | exact RO.e | refine RO.set rfl ?_)), (by repeat' (first | exact RB.nil | (refine RnL.same ?_; first | rfl | (simp only [noRef, noRefs, noRefs_append, Bool.and_self, Bool.and_true, Bool.true_and, noRefs_ints, noRefs_lsts, noRefs_pad, noRefs_tnC, noRefs_arcC, noRefs_rowF, noRefs_u8s]; done)) | exact RnM.keyM rfl | exact RnL.nil | refine RnL.cons ?_ ?_ | (refine Rn.same ?_; first | rfl | (simp only [noRef, noRefs, noRefs_append, Bool.and_self, Bool.and_true, Bool.true_and, noRefs_ints, noRefs_lsts, noRefs_pad, noRefs_tnC, noRefs_arcC, noRefs_rowF, noRefs_u8s]; done)) | exact Rn.x1 rfl rfl | exact Rn.x2 rfl rfl | exact Rn.x3 rfl rfl | exact Rn.x4 rfl rfl | exact Rn.x5 rfl | exact Rn.x6 rfl | exact Rn.x7 rfl | refine RB.newnil rfl rfl ?_ | refine RB.cells rfl rfl rfl ?_ ?_ | refine RB.map rfl rfl rfl ?_ ?_ | refine RB.cellsB rfl rfl ?_ ?_ | refine RB.mapB rfl rfl ?_ ?_)), (by repeat (first | exact RT.nil | (refine RT.cons ?_ ?_; · (first | exact Rn.any | exact Rn.x1 rfl rfl | exact Rn.x2 rfl rfl | exact Rn.x3 rfl rfl | exact Rn.x4 rfl rfl | exact Rn.x5 rfl | exact Rn.x6 rfl | exact Rn.x7 rfl | (refine Rn.slot ?_ ?_; (first | rfl | (rw [Int.natCast_add]; rfl)); (first | rfl | (simp only [noRef, noRefs, noRefs_append, Bool.and_self, Bool.and_true, Bool.true_and, noRefs_ints, noRefs_lsts, noRefs_pad, noRefs_tnC, noRefs_arcC, noRefs_rowF, noRefs_u8s]; done))) | (refine Rn.fn ?_ ?_ <;> (repeat' (first | exact RnL.nil | refine RnL.cons ?_ ?_ | exact Rn.same rfl | exact Rn.x6 rfl | exact Rn.x2 rfl rfl | exact Rn.x5 rfl | exact Rn.x1 rfl rfl)))))))⟩ ⟨Nat.zero_le _, fun j y hj => absurd hj (Nat.not_lt_zero _)⟩ ?_ ?_
    · rintro i ⟨hi, hb⟩
      by_cases hlt : i < l.length
      · obtain ⟨w, hw⟩ := get_ex hlt
        have hwm := List.mem_of_getElem? hw
        have hwlen := hll w hwm
        simp (maxSteps := 1000000) (disch := first | omega | exact PairsOK.mk rfl | (simp only [lenW] <;> omega)) only [hlt, wordsN, Int.reduceGT, wordsR, ne_eq, wS_regionP, aAppend_slF, aAppend_slN, aSlice_fslL, aSlice_fslH, aSlice_fslB, aSlice_slL, aSlice_slH, aSlice_slB, setL_cons, setL_nil, words, Nat.reduceAdd, Nat.reduceEqDiff, Nat.reduceBEq, ↓reduceIte, reduceCtorEq, SX.exit.injEq, if_true, if_false, Int.reduceAdd, Int.reduceSub, Int.reduceMul, Int.reduceLT, Int.reduceLE, Int.reduceEq, Int.reduceNe, Int.reduceNeg, Int.reduceToNat, Nat.reduceMul, Nat.reduceLT, Nat.reduceSub, Nat.reduceLeDiff]
        refine wS_loopX 500 (fun k : Nat => [(0, lsts l), (1, sli f), (7, .int .i64 i), (8, .int .i64 k)]) (fun _ => []) (fun k => k ≤ w.length ∧ ∀ (j : Nat) y, j < k → w[j]? = some y → badW y = false) (fun k => w.length - k) 0 4 600
          (fun _ : Unit => [(0, lsts l), (1, sli f), (7, .int .i64 i)]) (fun _ => []) (fun _ => w.any badW = false) ⟨[], rfl, (by repeat (first | exact RO.zero | exact RO.e | refine RO.set rfl ?_)), (by repeat' (first | exact RB.nil | (refine RnL.same ?_; first | rfl | (simp only [noRef, noRefs, noRefs_append, Bool.and_self, Bool.and_true, Bool.true_and, noRefs_ints, noRefs_lsts, noRefs_pad, noRefs_tnC, noRefs_arcC, noRefs_rowF, noRefs_u8s]; done)) | exact RnM.keyM rfl | exact RnL.nil | refine RnL.cons ?_ ?_ | (refine Rn.same ?_; first | rfl | (simp only [noRef, noRefs, noRefs_append, Bool.and_self, Bool.and_true, Bool.true_and, noRefs_ints, noRefs_lsts, noRefs_pad, noRefs_tnC, noRefs_arcC, noRefs_rowF, noRefs_u8s]; done)) | exact Rn.x1 rfl rfl | exact Rn.x2 rfl rfl | exact Rn.x3 rfl rfl | exact Rn.x4 rfl rfl | exact Rn.x5 rfl | exact Rn.x6 rfl | exact Rn.x7 rfl | refine RB.newnil rfl rfl ?_ | refine RB.cells rfl rfl rfl ?_ ?_ | refine RB.map rfl rfl rfl ?_ ?_ | refine RB.cellsB rfl rfl ?_ ?_ | refine RB.mapB rfl rfl ?_ ?_)), (by repeat (first | exact RT.nil | (refine RT.cons ?_ ?_; · (first | exact Rn.any | exact Rn.x1 rfl rfl | exact Rn.x2 rfl rfl | exact Rn.x3 rfl rfl | exact Rn.x4 rfl rfl | exact Rn.x5 rfl | exact Rn.x6 rfl | exact Rn.x7 rfl | (refine Rn.slot ?_ ?_; (first | rfl | (rw [Int.natCast_add]; rfl)); (first | rfl | (simp only [noRef, noRefs, noRefs_append, Bool.and_self, Bool.and_true, Bool.true_and, noRefs_ints, noRefs_lsts, noRefs_pad, noRefs_tnC, noRefs_arcC, noRefs_rowF, noRefs_u8s]; done))) | (refine Rn.fn ?_ ?_ <;> (repeat' (first | exact RnL.nil | refine RnL.cons ?_ ?_ | exact Rn.same rfl | exact Rn.x6 rfl | exact Rn.x2 rfl rfl | exact Rn.x5 rfl | exact Rn.x1 rfl rfl)))))))⟩ ⟨Nat.zero_le _, fun j y hj => absurd hj (Nat.not_lt_zero _)⟩ ?_ ?_
        · rintro k ⟨hk, hbk⟩
          by_cases hkl : k < w.length
          · obtain ⟨y, hy⟩ := get_ex hkl
            have hsm := small y
            cases hby : badW y with
            | true =>
              rw [hby] at hsm
              have hE2 : cmbE l f = 2 := by
                rw [hE, if_pos]
                exact .inl (List.any_eq_true.2 ⟨w, hwm, List.any_eq_true.2 ⟨y, List.mem_of_getElem? hy, hby⟩⟩)
              simp (maxSteps := 1000000) (disch := first | omega | exact PairsOK.mk rfl | (simp only [lenW] <;> omega)) only [hlt, head_lsts hw, hkl, head_ints hy, wordsN, Int.reduceGT, wordsR, ne_eq, wS_regionP, aAppend_slF, aAppend_slN, aSlice_fslL, aSlice_fslH, aSlice_fslB, aSlice_slL, aSlice_slH, aSlice_slB, setL_cons, setL_nil, words, Nat.reduceAdd, Nat.reduceEqDiff, Nat.reduceBEq, ↓reduceIte, reduceCtorEq, SX.exit.injEq, if_true, if_false, Int.reduceAdd, Int.reduceSub, Int.reduceMul, Int.reduceLT, Int.reduceLE, Int.reduceEq, Int.reduceNe, Int.reduceNeg, Int.reduceToNat, Nat.reduceMul, Nat.reduceLT, Nat.reduceSub, Nat.reduceLeDiff]
              refine cp hsm ?_
              simp (maxSteps := 1000000) (disch := first | omega | exact PairsOK.mk rfl | (simp only [lenW] <;> omega)) only [wordsN, Int.reduceGT, wordsR, ne_eq, wS_regionP, aAppend_slF, aAppend_slN, aSlice_fslL, aSlice_fslH, aSlice_fslB, aSlice_slL, aSlice_slH, aSlice_slB, setL_cons, setL_nil, words, Nat.reduceAdd, Nat.reduceEqDiff, Nat.reduceBEq, ↓reduceIte, reduceCtorEq, SX.exit.injEq, if_true, if_false, Int.reduceAdd, Int.reduceSub, Int.reduceMul, Int.reduceLT, Int.reduceLE, Int.reduceEq, Int.reduceNe, Int.reduceNeg, Int.reduceToNat, Nat.reduceMul, Nat.reduceLT, Nat.reduceSub, Nat.reduceLeDiff]
              exact ⟨.inr trivial, _, rfl, hdone 2 hE2 (by decide) _⟩
            | false =>
              rw [hby] at hsm
              simp (maxSteps := 1000000) (disch := first | omega | exact PairsOK.mk rfl | (simp only [lenW] <;> omega)) only [hlt, head_lsts hw, hkl, head_ints hy, wordsN, Int.reduceGT, wordsR, ne_eq, wS_regionP, aAppend_slF, aAppend_slN, aSlice_fslL, aSlice_fslH, aSlice_fslB, aSlice_slL, aSlice_slH, aSlice_slB, setL_cons, setL_nil, words, Nat.reduceAdd, Nat.reduceEqDiff, Nat.reduceBEq, ↓reduceIte, reduceCtorEq, SX.exit.injEq, if_true, if_false, Int.reduceAdd, Int.reduceSub, Int.reduceMul, Int.reduceLT, Int.reduceLE, Int.reduceEq, Int.reduceNe, Int.reduceNeg, Int.reduceToNat, Nat.reduceMul, Nat.reduceLT, Nat.reduceSub, Nat.reduceLeDiff]
              refine cp hsm ?_
              simp (maxSteps := 1000000) (disch := first | omega | exact PairsOK.mk rfl | (simp only [lenW] <;> omega)) only [wordsN, Int.reduceGT, wordsR, ne_eq, wS_regionP, aAppend_slF, aAppend_slN, aSlice_fslL, aSlice_fslH, aSlice_fslB, aSlice_slL, aSlice_slH, aSlice_slB, setL_cons, setL_nil, words, Nat.reduceAdd, Nat.reduceEqDiff, Nat.reduceBEq, ↓reduceIte, reduceCtorEq, SX.exit.injEq, if_true, if_false, Int.reduceAdd, Int.reduceSub, Int.reduceMul, Int.reduceLT, Int.reduceLE, Int.reduceEq, Int.reduceNe, Int.reduceNeg, Int.reduceToNat, Nat.reduceMul, Nat.reduceLT, Nat.reduceSub, Nat.reduceLeDiff]
              refine ⟨k + 1, by omega, ⟨by omega, fun j z hj hz => ?_⟩, ⟨[], rfl, (by repeat (first | exact RO.zero | exact RO.e | refine RO.set rfl ?_)), (by repeat' (first | exact RB.nil | (refine RnL.same ?_; first | rfl | (simp only [noRef, noRefs, noRefs_append, Bool.and_self, Bool.and_true, Bool.true_and, noRefs_ints, noRefs_lsts, noRefs_pad, noRefs_tnC, noRefs_arcC, noRefs_rowF, noRefs_u8s]; done)) | exact RnM.keyM rfl | exact RnL.nil | refine RnL.cons ?_ ?_ | (refine Rn.same ?_; first | rfl | (simp only [noRef, noRefs, noRefs_append, Bool.and_self, Bool.and_true, Bool.true_and, noRefs_ints, noRefs_lsts, noRefs_pad, noRefs_tnC, noRefs_arcC, noRefs_rowF, noRefs_u8s]; done)) | exact Rn.x1 rfl rfl | exact Rn.x2 rfl rfl | exact Rn.x3 rfl rfl | exact Rn.x4 rfl rfl | exact Rn.x5 rfl | exact Rn.x6 rfl | exact Rn.x7 rfl | refine RB.newnil rfl rfl ?_ | refine RB.cells rfl rfl rfl ?_ ?_ | refine RB.map rfl rfl rfl ?_ ?_ | refine RB.cellsB rfl rfl ?_ ?_ | refine RB.mapB rfl rfl ?_ ?_)), (by repeat (first | exact RT.nil | (refine RT.cons ?_ ?_; · (first | exact Rn.any | exact Rn.x1 rfl rfl | exact Rn.x2 rfl rfl | exact Rn.x3 rfl rfl | exact Rn.x4 rfl rfl | exact Rn.x5 rfl | exact Rn.x6 rfl | exact Rn.x7 rfl | (refine Rn.slot ?_ ?_; (first | rfl | (rw [Int.natCast_add]; rfl)); (first | rfl | (simp only [noRef, noRefs, noRefs_append, Bool.and_self, Bool.and_true, Bool.true_and, noRefs_ints, noRefs_lsts, noRefs_pad, noRefs_tnC, noRefs_arcC, noRefs_rowF, noRefs_u8s]; done))) | (refine Rn.fn ?_ ?_ <;> (repeat' (first | exact RnL.nil | refine RnL.cons ?_ ?_ | exact Rn.same rfl | exact Rn.x6 rfl | exact Rn.x2 rfl rfl | exact Rn.x5 rfl | exact Rn.x1 rfl rfl)))))))⟩⟩
              by_cases e : j = k
              · subst e; rw [hy] at hz; cases hz; exact hby
              · exact hbk j z (by omega) hz
          · simp (maxSteps := 1000000) (disch := first | omega | exact PairsOK.mk rfl | (simp only [lenW] <;> omega)) only [hlt, head_lsts hw, hkl, wordsN, Int.reduceGT, wordsR, ne_eq, wS_regionP, aAppend_slF, aAppend_slN, aSlice_fslL, aSlice_fslH, aSlice_fslB, aSlice_slL, aSlice_slH, aSlice_slB, setL_cons, setL_nil, words, Nat.reduceAdd, Nat.reduceEqDiff, Nat.reduceBEq, ↓reduceIte, reduceCtorEq, SX.exit.injEq, if_true, if_false, Int.reduceAdd, Int.reduceSub, Int.reduceMul, Int.reduceLT, Int.reduceLE, Int.reduceEq, Int.reduceNe, Int.reduceNeg, Int.reduceToNat, Nat.reduceMul, Nat.reduceLT, Nat.reduceSub, Nat.reduceLeDiff]
            refine ⟨(), ?_, ⟨[], rfl, (by repeat (first | exact RO.zero | exact RO.e | refine RO.set rfl ?_)), (by repeat' (first | exact RB.nil | (refine RnL.same ?_; first | rfl | (simp only [noRef, noRefs, noRefs_append, Bool.and_self, Bool.and_true, Bool.true_and, noRefs_ints, noRefs_lsts, noRefs_pad, noRefs_tnC, noRefs_arcC, noRefs_rowF, noRefs_u8s]; done)) | exact RnM.keyM rfl | exact RnL.nil | refine RnL.cons ?_ ?_ | (refine Rn.same ?_; first | rfl | (simp only [noRef, noRefs, noRefs_append, Bool.and_self, Bool.and_true, Bool.true_and, noRefs_ints, noRefs_lsts, noRefs_pad, noRefs_tnC, noRefs_arcC, noRefs_rowF, noRefs_u8s]; done)) | exact Rn.x1 rfl rfl | exact Rn.x2 rfl rfl | exact Rn.x3 rfl rfl | exact Rn.x4 rfl rfl | exact Rn.x5 rfl | exact Rn.x6 rfl | exact Rn.x7 rfl | refine RB.newnil rfl rfl ?_ | refine RB.cells rfl rfl rfl ?_ ?_ | refine RB.map rfl rfl rfl ?_ ?_ | refine RB.cellsB rfl rfl ?_ ?_ | refine RB.mapB rfl rfl ?_ ?_)), (by repeat (first | exact RT.nil | (refine RT.cons ?_ ?_; · (first | exact Rn.any | exact Rn.x1 rfl rfl | exact Rn.x2 rfl rfl | exact Rn.x3 rfl rfl | exact Rn.x4 rfl rfl | exact Rn.x5 rfl | exact Rn.x6 rfl | exact Rn.x7 rfl | (refine Rn.slot ?_ ?_; (first | rfl | (rw [Int.natCast_add]; rfl)); (first | rfl | (simp only [noRef, noRefs, noRefs_append, Bool.and_self, Bool.and_true, Bool.true_and, noRefs_ints, noRefs_lsts, noRefs_pad, noRefs_tnC, noRefs_arcC, noRefs_rowF, noRefs_u8s]; done))) | (refine Rn.fn ?_ ?_ <;> (repeat' (first | exact RnL.nil | refine RnL.cons ?_ ?_ | exact Rn.same rfl | exact Rn.x6 rfl | exact Rn.x2 rfl rfl | exact Rn.x5 rfl | exact Rn.x1 rfl rfl)))))))⟩⟩
            rw [List.any_eq_false]
            intro y hy
            obtain ⟨j, hj, hjl⟩ := mem_at hy
            rw [hbk j y (by omega) hj]; decide
        rintro _ hwb
        simp (maxSteps := 1000000) (disch := first | omega | exact PairsOK.mk rfl | (simp only [lenW] <;> omega)) only [wordsN, Int.reduceGT, wordsR, ne_eq, wS_regionP, aAppend_slF, aAppend_slN, aSlice_fslL, aSlice_fslH, aSlice_fslB, aSlice_slL, aSlice_slH, aSlice_slB, setL_cons, setL_nil, words, Nat.reduceAdd, Nat.reduceEqDiff, Nat.reduceBEq, ↓reduceIte, reduceCtorEq, SX.exit.injEq, if_true, if_false, Int.reduceAdd, Int.reduceSub, Int.reduceMul, Int.reduceLT, Int.reduceLE, Int.reduceEq, Int.reduceNe, Int.reduceNeg, Int.reduceToNat, Nat.reduceMul, Nat.reduceLT, Nat.reduceSub, Nat.reduceLeDiff]
        refine ⟨i + 1, by omega, ⟨by omega, fun j y hj hy => ?_⟩, ⟨[], rfl, (by repeat (first | exact RO.zero | exact RO.e | refine RO.set rfl ?_)), (by repeat' (first | exact RB.nil | (refine RnL.same ?_; first | rfl | (simp only [noRef, noRefs, noRefs_append, Bool.and_self, Bool.and_true, Bool.true_and, noRefs_ints, noRefs_lsts, noRefs_pad, noRefs_tnC, noRefs_arcC, noRefs_rowF, noRefs_u8s]; done)) | exact RnM.keyM rfl | exact RnL.nil | refine RnL.cons ?_ ?_ | (refine Rn.same ?_; first | rfl | (simp only [noRef, noRefs, noRefs_append, Bool.and_self, Bool.and_true, Bool.true_and, noRefs_ints, noRefs_lsts, noRefs_pad, noRefs_tnC, noRefs_arcC, noRefs_rowF, noRefs_u8s]; done)) | exact Rn.x1 rfl rfl | exact Rn.x2 rfl rfl | exact Rn.x3 rfl rfl | exact Rn.x4 rfl rfl | exact Rn.x5 rfl | exact Rn.x6 rfl | exact Rn.x7 rfl | refine RB.newnil rfl rfl ?_ | refine RB.cells rfl rfl rfl ?_ ?_ | refine RB.map rfl rfl rfl ?_ ?_ | refine RB.cellsB rfl rfl ?_ ?_ | refine RB.mapB rfl rfl ?_ ?_)), (by repeat (first | exact RT.nil | (refine RT.cons ?_ ?_; · (first | exact Rn.any | exact Rn.x1 rfl rfl | exact Rn.x2 rfl rfl | exact Rn.x3 rfl rfl | exact Rn.x4 rfl rfl | exact Rn.x5 rfl | exact Rn.x6 rfl | exact Rn.x7 rfl | (refine Rn.slot ?_ ?_; (first | rfl | (rw [Int.natCast_add]; rfl)); (first | rfl | (simp only [noRef, noRefs, noRefs_append, Bool.and_self, Bool.and_true, Bool.true_and, noRefs_ints, noRefs_lsts, noRefs_pad, noRefs_tnC, noRefs_arcC, noRefs_rowF, noRefs_u8s]; done))) | (refine Rn.fn ?_ ?_ <;> (repeat' (first | exact RnL.nil | refine RnL.cons ?_ ?_ | exact Rn.same rfl | exact Rn.x6 rfl | exact Rn.x2 rfl rfl | exact Rn.x5 rfl | exact Rn.x1 rfl rfl)))))))⟩⟩
        by_cases e : j = i
        · subst e; rw [hw] at hy; cases hy; exact hwb
        · exact hb j y (by omega) hy
      · simp (maxSteps := 1000000) (disch := first | omega | exact PairsOK.mk rfl | (simp only [lenW] <;> omega)) only [hlt, wordsN, Int.reduceGT, wordsR, ne_eq, wS_regionP, aAppend_slF, aAppend_slN, aSlice_fslL, aSlice_fslH, aSlice_fslB, aSlice_slL, aSlice_slH, aSlice_slB, setL_cons, setL_nil, words, Nat.reduceAdd, Nat.reduceEqDiff, Nat.reduceBEq, ↓reduceIte, reduceCtorEq, SX.exit.injEq, if_true, if_false, Int.reduceAdd, Int.reduceSub, Int.reduceMul, Int.reduceLT, Int.reduceLE, Int.reduceEq, Int.reduceNe, Int.reduceNeg, Int.reduceToNat, Nat.reduceMul, Nat.reduceLT, Nat.reduceSub, Nat.reduceLeDiff]
        exact ⟨(), fun w hw => by obtain ⟨j, hj, hjl⟩ := mem_at hw; exact hb j w (by omega) hj, ⟨[], rfl, (by repeat (first | exact RO.zero | exact RO.e | refine RO.set rfl ?_)), (by repeat' (first | exact RB.nil | (refine RnL.same ?_; first | rfl | (simp only [noRef, noRefs, noRefs_append, Bool.and_self, Bool.and_true, Bool.true_and, noRefs_ints, noRefs_lsts, noRefs_pad, noRefs_tnC, noRefs_arcC, noRefs_rowF, noRefs_u8s]; done)) | exact RnM.keyM rfl | exact RnL.nil | refine RnL.cons ?_ ?_ | (refine Rn.same ?_; first | rfl | (simp only [noRef, noRefs, noRefs_append, Bool.and_self, Bool.and_true, Bool.true_and, noRefs_ints, noRefs_lsts, noRefs_pad, noRefs_tnC, noRefs_arcC, noRefs_rowF, noRefs_u8s]; done)) | exact Rn.x1 rfl rfl | exact Rn.x2 rfl rfl | exact Rn.x3 rfl rfl | exact Rn.x4 rfl rfl | exact Rn.x5 rfl | exact Rn.x6 rfl | exact Rn.x7 rfl | refine RB.newnil rfl rfl ?_ | refine RB.cells rfl rfl rfl ?_ ?_ | refine RB.map rfl rfl rfl ?_ ?_ | refine RB.cellsB rfl rfl ?_ ?_ | refine RB.mapB rfl rfl ?_ ?_)), (by repeat (first | exact RT.nil | (refine RT.cons ?_ ?_; · (first | exact Rn.any | exact Rn.x1 rfl rfl | exact Rn.x2 rfl rfl | exact Rn.x3 rfl rfl | exact Rn.x4 rfl rfl | exact Rn.x5 rfl | exact Rn.x6 rfl | exact Rn.x7 rfl | (refine Rn.slot ?_ ?_; (first | rfl | (rw [Int.natCast_add]; rfl)); (first | rfl | (simp only [noRef, noRefs, noRefs_append, Bool.and_self, Bool.and_true, Bool.true_and, noRefs_ints, noRefs_lsts, noRefs_pad, noRefs_tnC, noRefs_arcC, noRefs_rowF, noRefs_u8s]; done))) | (refine Rn.fn ?_ ?_ <;> (repeat' (first | exact RnL.nil | refine RnL.cons ?_ ?_ | exact Rn.same rfl | exact Rn.x6 rfl | exact Rn.x2 rfl rfl | exact Rn.x5 rfl | exact Rn.x1 rfl rfl)))))))⟩⟩
    rintro _ hlb
    have hsmw : ∀ w ∈ l, ∀ y ∈ w, 0 ≤ y ∧ y ≤ 65536 := fun w hw y hy => by
      have h1 := List.any_eq_false.1 (hlb w hw) y hy
      simp only [badW, decide_eq_true_eq] at h1
      omega
    have hsml : ∀ r ∈ l, ∀ x ∈ r, sm x := fun r hr x hx => by have := hsmw r hr x hx; unfold sm; omega
    have hlany : l.any (fun w => w.any badW) = false := by
      rw [List.any_eq_false]; intro w hw; rw [hlb w hw]; decide
    rw [hlany] at hE
    have hwd : wid l ≤ 1000 := by
      cases l with
      | nil => exact absurd rfl h0
      | cons a l => exact hll a (by simp)
    have hk8 : (8 : Int) * (wid l : Int) ≤ 1099511627776 := by omega
    have hk1 : (wid l : Int) ≤ 1099511627776 := by omega
    simp (maxSteps := 1000000) (disch := first | omega | exact PairsOK.mk rfl | (simp only [lenW] <;> omega)) only [hl0, hhd, hk8, hk1, rowF_zero, wordsN, Int.reduceGT, wordsR, ne_eq, wS_regionP, aAppend_slF, aAppend_slN, aSlice_fslL, aSlice_fslH, aSlice_fslB, aSlice_slL, aSlice_slH, aSlice_slB, setL_cons, setL_nil, words, Nat.reduceAdd, Nat.reduceEqDiff, Nat.reduceBEq, ↓reduceIte, reduceCtorEq, SX.exit.injEq, if_true, if_false, Int.reduceAdd, Int.reduceSub, Int.reduceMul, Int.reduceLT, Int.reduceLE, Int.reduceEq, Int.reduceNe, Int.reduceNeg, Int.reduceToNat, Nat.reduceMul, Nat.reduceLT, Nat.reduceSub, Nat.reduceLeDiff]
    refine wS_loopX 700 (fun k : Nat => [(0, lsts l), (1, sli f), (9, .sl 52 0 0 (wid l) 1), (10, .int .i64 k)])
      (fun k => [(52, .cells 0 (rowF (wid l) fun c => colSum (l.take k) (f.take k) c))]) (fun k => k ≤ l.length ∧ ∀ (j : Nat) y, j < k → f[j]? = some y → badW y = false) (fun k => l.length - k) 0 6 800
      (fun _ : Unit => [(9, .sl 52 0 0 (wid l) 1)]) (fun _ => [(52, .cells 0 (rowF (wid l) fun c => colSum l f c))]) (fun _ => cmbE l f = 0) ?_ ⟨Nat.zero_le _, fun j y hj => absurd hj (Nat.not_lt_zero _)⟩ ?_ ?_
    · exact ⟨[(52, .blk 404 0)], rfl, (by repeat (first | exact RO.zero | exact RO.e | refine RO.set rfl ?_)), (by repeat' (first | exact RB.nil | (refine RnL.same ?_; first | rfl | (simp only [noRef, noRefs, noRefs_append, Bool.and_self, Bool.and_true, Bool.true_and, noRefs_ints, noRefs_lsts, noRefs_pad, noRefs_tnC, noRefs_arcC, noRefs_rowF, noRefs_u8s]; done)) | exact RnM.keyM rfl | exact RnL.nil | refine RnL.cons ?_ ?_ | (refine Rn.same ?_; first | rfl | (simp only [noRef, noRefs, noRefs_append, Bool.and_self, Bool.and_true, Bool.true_and, noRefs_ints, noRefs_lsts, noRefs_pad, noRefs_tnC, noRefs_arcC, noRefs_rowF, noRefs_u8s]; done)) | exact Rn.x1 rfl rfl | exact Rn.x2 rfl rfl | exact Rn.x3 rfl rfl | exact Rn.x4 rfl rfl | exact Rn.x5 rfl | exact Rn.x6 rfl | exact Rn.x7 rfl | refine RB.newnil rfl rfl ?_ | refine RB.cells rfl rfl rfl ?_ ?_ | refine RB.map rfl rfl rfl ?_ ?_ | refine RB.cellsB rfl rfl ?_ ?_ | refine RB.mapB rfl rfl ?_ ?_)), (by repeat (first | exact RT.nil | (refine RT.cons ?_ ?_; · (first | exact Rn.any | exact Rn.x1 rfl rfl | exact Rn.x2 rfl rfl | exact Rn.x3 rfl rfl | exact Rn.x4 rfl rfl | exact Rn.x5 rfl | exact Rn.x6 rfl | exact Rn.x7 rfl | (refine Rn.slot ?_ ?_; (first | rfl | (rw [Int.natCast_add]; rfl)); (first | rfl | (simp only [noRef, noRefs, noRefs_append, Bool.and_self, Bool.and_true, Bool.true_and, noRefs_ints, noRefs_lsts, noRefs_pad, noRefs_tnC, noRefs_arcC, noRefs_rowF, noRefs_u8s]; done))) | (refine Rn.fn ?_ ?_ <;> (repeat' (first | exact RnL.nil | refine RnL.cons ?_ ?_ | exact Rn.same rfl | exact Rn.x6 rfl | exact Rn.x2 rfl rfl | exact Rn.x5 rfl | exact Rn.x1 rfl rfl)))))))⟩
    · rintro k ⟨hk, hbk⟩
      by_cases hlt : k < l.length
      · obtain ⟨w, hw⟩ := get_ex hlt
        have hwm := List.mem_of_getElem? hw
        have hwl := hw' w hwm
        obtain ⟨fk, hfk⟩ := get_ex (l := f) (i := k) (by omega)
        have hkf : k < f.length := by omega
        have hsm := small fk
        cases hbf : badW fk with
        | true =>
          rw [hbf] at hsm
          have hE2 : cmbE l f = 2 := by
            rw [hE, if_pos]
            exact .inr (List.any_eq_true.2 ⟨fk, List.mem_of_getElem? hfk, hbf⟩)
          simp (maxSteps := 1000000) (disch := first | omega | exact PairsOK.mk rfl | (simp only [lenW] <;> omega)) only [hlt, hkf, head_ints hfk, wordsN, Int.reduceGT, wordsR, ne_eq, wS_regionP, aAppend_slF, aAppend_slN, aSlice_fslL, aSlice_fslH, aSlice_fslB, aSlice_slL, aSlice_slH, aSlice_slB, setL_cons, setL_nil, words, Nat.reduceAdd, Nat.reduceEqDiff, Nat.reduceBEq, ↓reduceIte, reduceCtorEq, SX.exit.injEq, if_true, if_false, Int.reduceAdd, Int.reduceSub, Int.reduceMul, Int.reduceLT, Int.reduceLE, Int.reduceEq, Int.reduceNe, Int.reduceNeg, Int.reduceToNat, Nat.reduceMul, Nat.reduceLT, Nat.reduceSub, Nat.reduceLeDiff]
          refine cp hsm ?_
          simp (maxSteps := 1000000) (disch := first | omega | exact PairsOK.mk rfl | (simp only [lenW] <;> omega)) only [wordsN, Int.reduceGT, wordsR, ne_eq, wS_regionP, aAppend_slF, aAppend_slN, aSlice_fslL, aSlice_fslH, aSlice_fslB, aSlice_slL, aSlice_slH, aSlice_slB, setL_cons, setL_nil, words, Nat.reduceAdd, Nat.reduceEqDiff, Nat.reduceBEq, ↓reduceIte, reduceCtorEq, SX.exit.injEq, if_true, if_false, Int.reduceAdd, Int.reduceSub, Int.reduceMul, Int.reduceLT, Int.reduceLE, Int.reduceEq, Int.reduceNe, Int.reduceNeg, Int.reduceToNat, Nat.reduceMul, Nat.reduceLT, Nat.reduceSub, Nat.reduceLeDiff]
          exact ⟨.inr trivial, _, rfl, hdone 2 hE2 (by decide) _⟩
        | false =>
          rw [hbf] at hsm
          have hfkb : 0 ≤ fk ∧ fk ≤ 65536 := by
            simp only [badW, decide_eq_false_iff_not] at hbf; omega
          have hst := fun c => colSum_take (k := c) hw hfk
          have hcb := fun c => colSum_bound (l := l.take k) (w := f.take k) (k := c) (fun r hr => hsml r (List.mem_of_mem_take hr)) (fun x hx => by
            obtain ⟨j, hj, hjl⟩ := mem_at hx
            rw [List.length_take] at hjl
            rw [List.getElem?_take_of_lt (by omega)] at hj
            have := hbk j x (by omega) hj
            simp only [badW, decide_eq_false_iff_not] at this
            unfold sm; omega)
          have hkl : ((l.take k).length : Int) ≤ 127 := by rw [List.length_take]; omega
          simp (maxSteps := 1000000) (disch := first | omega | exact PairsOK.mk rfl | (simp only [lenW] <;> omega)) only [hlt, hkf, head_ints hfk, wordsN, Int.reduceGT, wordsR, ne_eq, wS_regionP, aAppend_slF, aAppend_slN, aSlice_fslL, aSlice_fslH, aSlice_fslB, aSlice_slL, aSlice_slH, aSlice_slB, setL_cons, setL_nil, words, Nat.reduceAdd, Nat.reduceEqDiff, Nat.reduceBEq, ↓reduceIte, reduceCtorEq, SX.exit.injEq, if_true, if_false, Int.reduceAdd, Int.reduceSub, Int.reduceMul, Int.reduceLT, Int.reduceLE, Int.reduceEq, Int.reduceNe, Int.reduceNeg, Int.reduceToNat, Nat.reduceMul, Nat.reduceLT, Nat.reduceSub, Nat.reduceLeDiff]
          refine cp hsm ?_
          simp (maxSteps := 1000000) (disch := first | omega | exact PairsOK.mk rfl | (simp only [lenW] <;> omega)) only [wordsN, Int.reduceGT, wordsR, ne_eq, wS_regionP, aAppend_slF, aAppend_slN, aSlice_fslL, aSlice_fslH, aSlice_fslB, aSlice_slL, aSlice_slH, aSlice_slB, setL_cons, setL_nil, words, Nat.reduceAdd, Nat.reduceEqDiff, Nat.reduceBEq, ↓reduceIte, reduceCtorEq, SX.exit.injEq, if_true, if_false, Int.reduceAdd, Int.reduceSub, Int.reduceMul, Int.reduceLT, Int.reduceLE, Int.reduceEq, Int.reduceNe, Int.reduceNeg, Int.reduceToNat, Nat.reduceMul, Nat.reduceLT, Nat.reduceSub, Nat.reduceLeDiff]
          refine wS_loopX 900 (fun i : Nat => [(0, lsts l), (1, sli f), (9, .sl 52 0 0 (wid l) 1), (10, .int .i64 k), (11, .int .i64 i)])
            (fun i => [(52, .cells 0 (rowF (wid l) fun c => if c < i then colSum (l.take (k + 1)) (f.take (k + 1)) c else colSum (l.take k) (f.take k) c))]) (fun i => i ≤ wid l) (fun i => wid l - i) 0 8 1000
            (fun _ : Unit => [(0, lsts l), (1, sli f), (9, .sl 52 0 0 (wid l) 1), (10, .int .i64 k)]) (fun _ => [(52, .cells 0 (rowF (wid l) fun c => colSum (l.take (k + 1)) (f.take (k + 1)) c))]) (fun _ => True) ?_ (Nat.zero_le _) ?_ ?_
          · refine ⟨[(52, .blk 52 0)], rfl, (by repeat (first | exact RO.zero | exact RO.e | refine RO.set rfl ?_)), ?_, (by repeat (first | exact RT.nil | (refine RT.cons ?_ ?_; · (first | exact Rn.any | exact Rn.x1 rfl rfl | exact Rn.x2 rfl rfl | exact Rn.x3 rfl rfl | exact Rn.x4 rfl rfl | exact Rn.x5 rfl | exact Rn.x6 rfl | exact Rn.x7 rfl | (refine Rn.slot ?_ ?_; (first | rfl | (rw [Int.natCast_add]; rfl)); (first | rfl | (simp only [noRef, noRefs, noRefs_append, Bool.and_self, Bool.and_true, Bool.true_and, noRefs_ints, noRefs_lsts, noRefs_pad, noRefs_tnC, noRefs_arcC, noRefs_rowF, noRefs_u8s]; done))) | (refine Rn.fn ?_ ?_ <;> (repeat' (first | exact RnL.nil | refine RnL.cons ?_ ?_ | exact Rn.same rfl | exact Rn.x6 rfl | exact Rn.x2 rfl rfl | exact Rn.x5 rfl | exact Rn.x1 rfl rfl)))))))⟩
            refine RB.cells rfl rfl rfl (RnL.eq (rowF_congr fun c _ => by rw [if_neg (Nat.not_lt_zero _)]) (noRefs_rowF _ _)) RB.nil
          · intro i hi
            by_cases hil : i < wid l
            · obtain ⟨y, hy⟩ := get_ex (l := w) (i := i) (by omega)
              have hiw : i < w.length := by omega
              have hyb := hsmw w hwm y (List.mem_of_getElem? hy)
              have hyD : w.getD i 0 = y := by rw [List.getD_eq_getElem?_getD, hy]; rfl
              have hsti := hst i
              rw [hyD] at hsti
              have hcbi := hcb i
              have hg := rowF_get (fun c => if c < i then colSum (l.take (k + 1)) (f.take (k + 1)) c else colSum (l.take k) (f.take k) c) hil
              rw [if_neg (Nat.lt_irrefl i)] at hg
              have hset : ∀ v, (rowF (wid l) fun c => if c < i then colSum (l.take (k + 1)) (f.take (k + 1)) c else colSum (l.take k) (f.take k) c).set i (.int .i64 v) = rowF (wid l) (fun c => if c = i then v else if c < i then colSum (l.take (k + 1)) (f.take (k + 1)) c else colSum (l.take k) (f.take k) c) := fun v => rowF_set _ v
              have hm := mul_sm (x := fk) (y := y) (by unfold sm; omega) (by unfold sm; omega)
              generalize hP : fk * y = P at hm hsti
              generalize colSum (l.take k) (f.take k) i = C at hg hsti hcbi
              have hb1 : -(127 * 4294967296) ≤ C ∧ C ≤ 127 * 4294967296 := by
                have h3 : ((l.take k).length : Int) * 4294967296 ≤ 127 * 4294967296 := Int.mul_le_mul_of_nonneg_right hkl (by decide)
                omega
              have hi1 : i + 1 ≤ wid l := hil
              simp (maxSteps := 1000000) (disch := first | omega | exact PairsOK.mk rfl | (simp only [lenW] <;> omega)) only [hil, hg, head_lsts hw, hlt, hiw, head_ints hy, head_ints hfk, hkf, hP, hset, rowF_len, hi1, wordsN, Int.reduceGT, wordsR, ne_eq, wS_regionP, aAppend_slF, aAppend_slN, aSlice_fslL, aSlice_fslH, aSlice_fslB, aSlice_slL, aSlice_slH, aSlice_slB, setL_cons, setL_nil, words, Nat.reduceAdd, Nat.reduceEqDiff, Nat.reduceBEq, ↓reduceIte, reduceCtorEq, SX.exit.injEq, if_true, if_false, Int.reduceAdd, Int.reduceSub, Int.reduceMul, Int.reduceLT, Int.reduceLE, Int.reduceEq, Int.reduceNe, Int.reduceNeg, Int.reduceToNat, Nat.reduceMul, Nat.reduceLT, Nat.reduceSub, Nat.reduceLeDiff]
              refine ⟨i + 1, by omega, by omega, ?_⟩
              refine ⟨[(52, .blk 52 0)], rfl, (by repeat (first | exact RO.zero | exact RO.e | refine RO.set rfl ?_)), ?_, (by repeat (first | exact RT.nil | (refine RT.cons ?_ ?_; · (first | exact Rn.any | exact Rn.x1 rfl rfl | exact Rn.x2 rfl rfl | exact Rn.x3 rfl rfl | exact Rn.x4 rfl rfl | exact Rn.x5 rfl | exact Rn.x6 rfl | exact Rn.x7 rfl | (refine Rn.slot ?_ ?_; (first | rfl | (rw [Int.natCast_add]; rfl)); (first | rfl | (simp only [noRef, noRefs, noRefs_append, Bool.and_self, Bool.and_true, Bool.true_and, noRefs_ints, noRefs_lsts, noRefs_pad, noRefs_tnC, noRefs_arcC, noRefs_rowF, noRefs_u8s]; done))) | (refine Rn.fn ?_ ?_ <;> (repeat' (first | exact RnL.nil | refine RnL.cons ?_ ?_ | exact Rn.same rfl | exact Rn.x6 rfl | exact Rn.x2 rfl rfl | exact Rn.x5 rfl | exact Rn.x1 rfl rfl)))))))⟩
              refine RB.cells rfl rfl rfl (RnL.eq (rowF_congr fun c _ => ?_) (noRefs_rowF _ _)) RB.nil
              by_cases e : c = i
              · subst e; rw [if_pos (Nat.lt_succ_self _), if_pos rfl, hsti]
              · by_cases e2 : c < i
                · rw [if_pos (by omega), if_neg e, if_pos e2]
                · rw [if_neg (by omega), if_neg e, if_neg e2]
            · simp (maxSteps := 1000000) (disch := first | omega | exact PairsOK.mk rfl | (simp only [lenW] <;> omega)) only [hil, wordsN, Int.reduceGT, wordsR, ne_eq, wS_regionP, aAppend_slF, aAppend_slN, aSlice_fslL, aSlice_fslH, aSlice_fslB, aSlice_slL, aSlice_slH, aSlice_slB, setL_cons, setL_nil, words, Nat.reduceAdd, Nat.reduceEqDiff, Nat.reduceBEq, ↓reduceIte, reduceCtorEq, SX.exit.injEq, if_true, if_false, Int.reduceAdd, Int.reduceSub, Int.reduceMul, Int.reduceLT, Int.reduceLE, Int.reduceEq, Int.reduceNe, Int.reduceNeg, Int.reduceToNat, Nat.reduceMul, Nat.reduceLT, Nat.reduceSub, Nat.reduceLeDiff]
              refine ⟨(), ?_⟩
              refine ⟨[(52, .blk 52 0)], rfl, (by repeat (first | exact RO.zero | exact RO.e | refine RO.set rfl ?_)), ?_, (by repeat (first | exact RT.nil | (refine RT.cons ?_ ?_; · (first | exact Rn.any | exact Rn.x1 rfl rfl | exact Rn.x2 rfl rfl | exact Rn.x3 rfl rfl | exact Rn.x4 rfl rfl | exact Rn.x5 rfl | exact Rn.x6 rfl | exact Rn.x7 rfl | (refine Rn.slot ?_ ?_; (first | rfl | (rw [Int.natCast_add]; rfl)); (first | rfl | (simp only [noRef, noRefs, noRefs_append, Bool.and_self, Bool.and_true, Bool.true_and, noRefs_ints, noRefs_lsts, noRefs_pad, noRefs_tnC, noRefs_arcC, noRefs_rowF, noRefs_u8s]; done))) | (refine Rn.fn ?_ ?_ <;> (repeat' (first | exact RnL.nil | refine RnL.cons ?_ ?_ | exact Rn.same rfl | exact Rn.x6 rfl | exact Rn.x2 rfl rfl | exact Rn.x5 rfl | exact Rn.x1 rfl rfl)))))))⟩
              refine RB.cells rfl rfl rfl (RnL.eq (rowF_congr fun c hc => by rw [if_pos (by omega)]) (noRefs_rowF _ _)) RB.nil
          rintro _ -
          simp (maxSteps := 1000000) (disch := first | omega | exact PairsOK.mk rfl | (simp only [lenW] <;> omega)) only [wordsN, Int.reduceGT, wordsR, ne_eq, wS_regionP, aAppend_slF, aAppend_slN, aSlice_fslL, aSlice_fslH, aSlice_fslB, aSlice_slL, aSlice_slH, aSlice_slB, setL_cons, setL_nil, words, Nat.reduceAdd, Nat.reduceEqDiff, Nat.reduceBEq, ↓reduceIte, reduceCtorEq, SX.exit.injEq, if_true, if_false, Int.reduceAdd, Int.reduceSub, Int.reduceMul, Int.reduceLT, Int.reduceLE, Int.reduceEq, Int.reduceNe, Int.reduceNeg, Int.reduceToNat, Nat.reduceMul, Nat.reduceLT, Nat.reduceSub, Nat.reduceLeDiff]
          refine ⟨k + 1, by omega, ⟨by omega, fun j z hj hz => ?_⟩, ⟨[(52, .blk 52 0)], rfl, (by repeat (first | exact RO.zero | exact RO.e | refine RO.set rfl ?_)), (by repeat' (first | exact RB.nil | (refine RnL.same ?_; first | rfl | (simp only [noRef, noRefs, noRefs_append, Bool.and_self, Bool.and_true, Bool.true_and, noRefs_ints, noRefs_lsts, noRefs_pad, noRefs_tnC, noRefs_arcC, noRefs_rowF, noRefs_u8s]; done)) | exact RnM.keyM rfl | exact RnL.nil | refine RnL.cons ?_ ?_ | (refine Rn.same ?_; first | rfl | (simp only [noRef, noRefs, noRefs_append, Bool.and_self, Bool.and_true, Bool.true_and, noRefs_ints, noRefs_lsts, noRefs_pad, noRefs_tnC, noRefs_arcC, noRefs_rowF, noRefs_u8s]; done)) | exact Rn.x1 rfl rfl | exact Rn.x2 rfl rfl | exact Rn.x3 rfl rfl | exact Rn.x4 rfl rfl | exact Rn.x5 rfl | exact Rn.x6 rfl | exact Rn.x7 rfl | refine RB.newnil rfl rfl ?_ | refine RB.cells rfl rfl rfl ?_ ?_ | refine RB.map rfl rfl rfl ?_ ?_ | refine RB.cellsB rfl rfl ?_ ?_ | refine RB.mapB rfl rfl ?_ ?_)), (by repeat (first | exact RT.nil | (refine RT.cons ?_ ?_; · (first | exact Rn.any | exact Rn.x1 rfl rfl | exact Rn.x2 rfl rfl | exact Rn.x3 rfl rfl | exact Rn.x4 rfl rfl | exact Rn.x5 rfl | exact Rn.x6 rfl | exact Rn.x7 rfl | (refine Rn.slot ?_ ?_; (first | rfl | (rw [Int.natCast_add]; rfl)); (first | rfl | (simp only [noRef, noRefs, noRefs_append, Bool.and_self, Bool.and_true, Bool.true_and, noRefs_ints, noRefs_lsts, noRefs_pad, noRefs_tnC, noRefs_arcC, noRefs_rowF, noRefs_u8s]; done))) | (refine Rn.fn ?_ ?_ <;> (repeat' (first | exact RnL.nil | refine RnL.cons ?_ ?_ | exact Rn.same rfl | exact Rn.x6 rfl | exact Rn.x2 rfl rfl | exact Rn.x5 rfl | exact Rn.x1 rfl rfl)))))))⟩⟩
          by_cases e : j = k
          · subst e; rw [hfk] at hz; cases hz; simpa using hbf
          · simpa using hbk j z (by omega) hz
      · simp (maxSteps := 1000000) (disch := first | omega | exact PairsOK.mk rfl | (simp only [lenW] <;> omega)) only [hlt, wordsN, Int.reduceGT, wordsR, ne_eq, wS_regionP, aAppend_slF, aAppend_slN, aSlice_fslL, aSlice_fslH, aSlice_fslB, aSlice_slL, aSlice_slH, aSlice_slB, setL_cons, setL_nil, words, Nat.reduceAdd, Nat.reduceEqDiff, Nat.reduceBEq, ↓reduceIte, reduceCtorEq, SX.exit.injEq, if_true, if_false, Int.reduceAdd, Int.reduceSub, Int.reduceMul, Int.reduceLT, Int.reduceLE, Int.reduceEq, Int.reduceNe, Int.reduceNeg, Int.reduceToNat, Nat.reduceMul, Nat.reduceLT, Nat.reduceSub, Nat.reduceLeDiff]
        have e : k = l.length := by omega
        refine ⟨(), ?_, ?_⟩
        · rw [hE, if_neg]
          rintro (h | h)
          · cases h
          · obtain ⟨y, hy, hy2⟩ := List.any_eq_true.1 h
            obtain ⟨j, hj, hjl⟩ := mem_at hy
            rw [hbk j y (by omega) hj] at hy2; cases hy2
        · refine ⟨[(52, .blk 52 0)], rfl, (by repeat (first | exact RO.zero | exact RO.e | refine RO.set rfl ?_)), ?_, (by repeat (first | exact RT.nil | (refine RT.cons ?_ ?_; · (first | exact Rn.any | exact Rn.x1 rfl rfl | exact Rn.x2 rfl rfl | exact Rn.x3 rfl rfl | exact Rn.x4 rfl rfl | exact Rn.x5 rfl | exact Rn.x6 rfl | exact Rn.x7 rfl | (refine Rn.slot ?_ ?_; (first | rfl | (rw [Int.natCast_add]; rfl)); (first | rfl | (simp only [noRef, noRefs, noRefs_append, Bool.and_self, Bool.and_true, Bool.true_and, noRefs_ints, noRefs_lsts, noRefs_pad, noRefs_tnC, noRefs_arcC, noRefs_rowF, noRefs_u8s]; done))) | (refine Rn.fn ?_ ?_ <;> (repeat' (first | exact RnL.nil | refine RnL.cons ?_ ?_ | exact Rn.same rfl | exact Rn.x6 rfl | exact Rn.x2 rfl rfl | exact Rn.x5 rfl | exact Rn.x1 rfl rfl)))))))⟩
          refine RB.cells rfl rfl rfl (RnL.eq (by rw [e, List.take_length, ← h1, List.take_length]) (noRefs_rowF _ _)) RB.nil
    rintro _ hE0
    have hV : cmbT l f = cmbV l f := if_pos hE0
    rw [hV, hE0]
    simp (maxSteps := 1000000) (disch := first | omega | exact PairsOK.mk rfl | (simp only [lenW] <;> omega)) only [wordsN, Int.reduceGT, wordsR, ne_eq, wS_regionP, aAppend_slF, aAppend_slN, aSlice_fslL, aSlice_fslH, aSlice_fslB, aSlice_slL, aSlice_slH, aSlice_slB, setL_cons, setL_nil, words, Nat.reduceAdd, Nat.reduceEqDiff, Nat.reduceBEq, ↓reduceIte, reduceCtorEq, SX.exit.injEq, if_true, if_false, Int.reduceAdd, Int.reduceSub, Int.reduceMul, Int.reduceLT, Int.reduceLE, Int.reduceEq, Int.reduceNe, Int.reduceNeg, Int.reduceToNat, Nat.reduceMul, Nat.reduceLT, Nat.reduceSub, Nat.reduceLeDiff]
    refine ⟨.inr trivial, _, rfl, ?_⟩
    refine Rn.tup (RnL.cons (Rn.same rfl) (RnL.cons ?_ RnL.nil))
    show Rn 0 π0 _ (.fsl (rowF (wid l) fun c => colSum l f c) (cmbV l f).length 1) _
    rw [show (cmbV l f).length = wid l by simp [cmbV]]
    exact Rn.fz0 rfl (by rw [rowF_len, Nat.mul_one]) (RnL.same (noRefs_rowF _ _))
  · have hE : cmbE l f = 4 := by unfold cmbE; rw [if_neg h0, if_pos (.inl h1)]
    have h1' : ¬ (f.length : Int) = l.length := by omega
    simp (maxSteps := 1000000) (disch := first | omega | exact PairsOK.mk rfl | (simp only [lenW] <;> omega)) only [h1', wordsN, Int.reduceGT, wordsR, ne_eq, wS_regionP, aAppend_slF, aAppend_slN, aSlice_fslL, aSlice_fslH, aSlice_fslB, aSlice_slL, aSlice_slH, aSlice_slB, setL_cons, setL_nil, words, Nat.reduceAdd, Nat.reduceEqDiff, Nat.reduceBEq, ↓reduceIte, reduceCtorEq, SX.exit.injEq, if_true, if_false, Int.reduceAdd, Int.reduceSub, Int.reduceMul, Int.reduceLT, Int.reduceLE, Int.reduceEq, Int.reduceNe, Int.reduceNeg, Int.reduceToNat, Nat.reduceMul, Nat.reduceLT, Nat.reduceSub, Nat.reduceLeDiff]
    exact ⟨.inr trivial, _, rfl, hdone 4 hE (by decide) _⟩
end Go.AM.SN
namespace Go.AM.SN
open Go.Proofs
set_option linter.unusedSimpArgs false
set_option linter.unusedVariables false
theorem rowSum_comm : ∀ (a b : List Int), rowSum a b = rowSum b a
  | [], [] => rfl
  | [], _ :: _ => rfl
  | _ :: _, [] => rfl
  | x :: a, y :: b => by simp only [rowSum]; rw [rowSum_comm a b, Int.mul_comm]
end Go.AM.SN
set_option maxRecDepth 100000
namespace Go.AM.SV
open Go.Proofs
def s12 : SFn := ⟨106, [.tmp 0],
 (.seq (.region [⟨(some 0), .mov (.c (.bool false)), [], none⟩] [] [0])
 (.seq (.region [⟨(some 14), .call .pure (.f 38) [], [], none⟩,
 ⟨(some 15), .call .pure (.f 14) [(.t 14), (.c (.int .i64 1))], [0, 0], none⟩,
 ⟨(some 13), .mov (.t 15), [1], none⟩,
 ⟨(some 16), .extract 0 (.t 13), [2], none⟩,
 ⟨(some 17), .extract 1 (.t 13), [2], none⟩,
 ⟨(some 1), .mov (.t 16), [3, 1, 0, 1, 2, 3], none⟩,
 ⟨(some 2), .mov (.t 17), [4, 5, 0, 1, 2, 3, 4, 5], none⟩] [] [14, 15, 13, 16, 17])
 (.seq (.region [⟨(some 19), .call .pure (.f 38) [], [], none⟩,
 ⟨(some 20), .bslice true .dyn 1 2 [(.int .i64 0), (.int .i64 0)] [(0, 1, (.c (.int .i64 1))), (1, 1, (.c (.int .i64 1)))], [], none⟩,
 ⟨(some 21), .bslice true .dyn 1 1 [.nilsl] [(0, 1, (.t 20))], [1], none⟩,
 ⟨(some 22), .call .pure (.f 23) [(.t 19), (.t 21)], [0, 2, 0], none⟩,
 ⟨(some 18), .mov (.t 22), [3], none⟩,
 ⟨(some 23), .extract 0 (.t 18), [4], none⟩,
 ⟨(some 24), .extract 1 (.t 18), [4], none⟩,
 ⟨(some 3), .mov (.t 23), [5, 3, 0, 1, 2, 3, 4, 5], none⟩,
 ⟨(some 4), .mov (.t 24), [6, 7, 0, 1, 2, 3, 4, 5, 6, 7], none⟩] [] [19, 20, 21, 22, 18, 23, 24])
 (.seq (.region [⟨(some 26), .call .pure (.f 38) [], [], none⟩,
 ⟨(some 27), .bslice true .dyn 1 2 [(.int .i64 0), (.int .i64 0)] [(0, 1, (.c (.int .i64 1))), (1, 1, (.c (.int .i64 1)))], [], none⟩,
 ⟨(some 28), .bslice true .dyn 1 1 [.nilsl] [(0, 1, (.t 27))], [1], none⟩,
 ⟨(some 29), .bslice true .dyn 1 2 [(.int .i64 0), (.int .i64 0)] [(0, 1, (.c (.int .i64 1))), (1, 1, (.c (.int .i64 1)))], [], none⟩,
 ⟨(some 30), .call .pure (.f 24) [(.t 26), (.t 28), (.t 29)], [0, 2, 3, 0], none⟩,
 ⟨(some 25), .mov (.t 30), [4], none⟩,
 ⟨(some 31), .extract 0 (.t 25), [5], none⟩,
 ⟨(some 32), .extract 1 (.t 25), [5], none⟩,
 ⟨(some 33), .extract 2 (.t 25), [5], none⟩,
 ⟨(some 5), .mov (.t 31), [6, 4, 0, 1, 2, 3, 4, 5, 6], none⟩,
 ⟨(some 6), .mov (.t 32), [7, 9, 0, 1, 2, 3, 4, 5, 6, 7, 9], none⟩,
 ⟨(some 7), .mov (.t 33), [8, 10, 0, 1, 2, 3, 4, 5, 6, 7, 8, 9, 10], none⟩] [] [26, 27, 28, 29, 30, 25, 31, 32, 33, 5])
 (.seq (.region [⟨(some 34), .bslice true .dyn 1 2 [(.int .i64 0), (.int .i64 0)] [(0, 1, (.c (.int .i64 4))), (1, 1, (.c (.int .i64 0)))], [], none⟩,
 ⟨(some 35), .build [(.int .i64 0), (.int .i64 0)] [(0, 1, (.c (.int .i64 0))), (1, 1, (.c (.int .i64 2)))], [], none⟩,
 ⟨(some 36), .bslice true .dyn 2 1 [(.int .i64 0), (.int .i64 0)] [(0, 2, (.t 35))], [1], none⟩,
 ⟨(some 37), .build [(.int .i64 0), (.int .i64 0)] [(0, 1, (.c (.int .i64 1))), (1, 1, (.c (.int .i64 3)))], [], none⟩,
 ⟨(some 38), .bslice true .dyn 2 1 [(.int .i64 0), (.int .i64 0)] [(0, 2, (.t 37))], [3], none⟩,
 ⟨(some 39), .build [(.int .i64 0), .nilsl, .nilsl] [(1, 1, (.t 36)), (2, 1, (.t 38))], [2, 4], none⟩,
 ⟨(some 40), .bslice true .dyn 3 1 [(.int .i64 0), .nilsl, .nilsl] [(0, 3, (.t 39))], [5], none⟩,
 ⟨(some 41), .build [.nilsl, .nilsl] [(0, 1, (.t 34)), (1, 1, (.t 40))], [0, 6], none⟩,
 ⟨(some 8), .alloc .dyn (.agg [.nilsl, .nilsl]), [], none⟩,
 ⟨none, .store 2 (.t 8) (.t 41), [8, 7, 0, 1, 2, 3, 4, 5, 6, 7, 8], none⟩] [] [34, 35, 36, 37, 38, 39, 40, 41])
 (.seq (.region [⟨(some 43), .load (some 2) (.t 8), [], none⟩,
 ⟨(some 44), .call .pure (.f 14) [(.t 43), (.c (.int .i64 1))], [0], none⟩,
 ⟨(some 42), .mov (.t 44), [1], none⟩,
 ⟨(some 45), .extract 0 (.t 42), [2], none⟩,
 ⟨(some 46), .extract 1 (.t 42), [2], none⟩,
 ⟨(some 9), .mov (.t 45), [3, 1, 0, 1, 2, 3], none⟩,
 ⟨(some 10), .mov (.t 46), [4, 5, 0, 1, 2, 3, 4, 5], none⟩] [] [43, 44, 42, 45, 46])
 (.seq (.region [⟨(some 48), .load (some 2) (.t 8), [], none⟩,
 ⟨(some 49), .call .pure (.f 15) [(.t 48), (.c (.int .i64 2))], [0], none⟩,
 ⟨(some 47), .mov (.t 49), [1], none⟩,
 ⟨(some 50), .extract 0 (.t 47), [2], none⟩,
 ⟨(some 51), .extract 1 (.t 47), [2], none⟩,
 ⟨(some 11), .mov (.t 50), [3, 1, 0, 1, 2, 3], none⟩,
 ⟨(some 12), .mov (.t 51), [4, 5, 0, 1, 2, 3, 4, 5], none⟩] [] [8, 48, 49, 47, 50, 51])
 (.seq (.region [⟨(some 52), .mov (.t 2), [], none⟩,
 ⟨(some 53), .bin .eql (.t 52) (.c (.int .i64 0)), [0], none⟩,
 ⟨(some 54), .mov (.t 53), [1], none⟩,
 ⟨(some 55), .mov (.t 1), [2], (some (54, true))⟩,
 ⟨(some 56), .len 1 (.t 55), [3, 2], (some (54, true))⟩,
 ⟨(some 57), .bin .eql (.t 56) (.c (.int .i64 1)), [4, 2], (some (54, true))⟩,
 ⟨(some 58), .pick (.t 54) (.t 57) (.c (.bool false)), [2, 5], none⟩,
 ⟨(some 59), .mov (.t 58), [6, 2], none⟩,
 ⟨(some 60), .mov (.t 1), [7], (some (59, true))⟩,
 ⟨(some 61), .iaddr none 1 (.t 60) (.c (.int .i64 0)), [8, 7], (some (59, true))⟩,
 ⟨(some 62), .load none (.t 61), [9, 7], (some (59, true))⟩,
 ⟨(some 63), .bslice true .dyn 1 2 [(.int .i64 0), (.int .i64 0)] [(0, 1, (.c (.int .i64 1))), (1, 1, (.c (.int .i64 1)))], [7], (some (59, true))⟩,
 ⟨(some 64), .call .pure (.f 29) [(.t 62), (.t 63)], [10, 11, 7, 7], (some (59, true))⟩,
 ⟨(some 65), .pick (.t 59) (.t 64) (.c (.bool false)), [7, 12], none⟩,
 ⟨(some 66), .mov (.t 65), [13, 12], none⟩,
 ⟨(some 67), .mov (.t 4), [14], (some (66, true))⟩,
 ⟨(some 68), .bin .eql (.t 67) (.c (.int .i64 0)), [15, 14], (some (66, true))⟩,
 ⟨(some 69), .pick (.t 66) (.t 68) (.c (.bool false)), [14, 16], none⟩,
 ⟨(some 70), .mov (.t 69), [17, 14], none⟩,
 ⟨(some 71), .mov (.t 3), [18], (some (70, true))⟩,
 ⟨(some 72), .bslice true .dyn 1 2 [(.int .i64 0), (.int .i64 0)] [(0, 1, (.c (.int .i64 1))), (1, 1, (.c (.int .i64 1)))], [18], (some (70, true))⟩,
 ⟨(some 73), .call .pure (.f 29) [(.t 71), (.t 72)], [19, 20, 18, 18], (some (70, true))⟩,
 ⟨(some 74), .pick (.t 70) (.t 73) (.c (.bool false)), [18, 21], none⟩,
 ⟨(some 75), .mov (.t 74), [22, 21], none⟩,
 ⟨(some 76), .mov (.t 7), [23], (some (75, true))⟩,
 ⟨(some 77), .bin .eql (.t 76) (.c (.int .i64 0)), [24, 23], (some (75, true))⟩,
 ⟨(some 78), .pick (.t 75) (.t 77) (.c (.bool false)), [23, 25], none⟩,
 ⟨(some 79), .mov (.t 78), [26, 23], none⟩,
 ⟨(some 80), .mov (.t 6), [27], (some (79, true))⟩,
 ⟨(some 81), .pick (.t 79) (.t 80) (.c (.bool false)), [27, 28], none⟩,
 ⟨(some 82), .mov (.t 81), [29, 27], none⟩,
 ⟨(some 83), .mov (.t 10), [30], (some (82, true))⟩,
 ⟨(some 84), .bin .eql (.t 83) (.c (.int .i64 0)), [31, 30], (some (82, true))⟩,
 ⟨(some 85), .pick (.t 82) (.t 84) (.c (.bool false)), [30, 32], none⟩,
 ⟨(some 86), .mov (.t 85), [33, 30], none⟩,
 ⟨(some 87), .mov (.t 9), [34], (some (86, true))⟩,
 ⟨(some 88), .len 1 (.t 87), [35, 34], (some (86, true))⟩,
 ⟨(some 89), .bin .eql (.t 88) (.c (.int .i64 1)), [36, 34], (some (86, true))⟩,
 ⟨(some 90), .pick (.t 86) (.t 89) (.c (.bool false)), [34, 37], none⟩,
 ⟨(some 91), .mov (.t 90), [38, 34], none⟩,
 ⟨(some 92), .mov (.t 9), [39], (some (91, true))⟩,
 ⟨(some 93), .iaddr none 1 (.t 92) (.c (.int .i64 0)), [40, 39], (some (91, true))⟩,
 ⟨(some 94), .load none (.t 93), [41, 39], (some (91, true))⟩,
 ⟨(some 95), .bslice true .dyn 1 2 [(.int .i64 0), (.int .i64 0)] [(0, 1, (.c (.int .i64 3))), (1, 1, (.c (.int .i64 2)))], [39], (some (91, true))⟩,
 ⟨(some 96), .call .pure (.f 29) [(.t 94), (.t 95)], [42, 43, 39, 39], (some (91, true))⟩,
 ⟨(some 97), .pick (.t 91) (.t 96) (.c (.bool false)), [39, 44], none⟩,
 ⟨(some 98), .mov (.t 97), [45, 44], none⟩,
 ⟨(some 99), .mov (.t 12), [46], (some (98, true))⟩,
 ⟨(some 100), .bin .eql (.t 99) (.c (.int .i64 0)), [47, 46], (some (98, true))⟩,
 ⟨(some 101), .pick (.t 98) (.t 100) (.c (.bool false)), [46, 48], none⟩,
 ⟨(some 102), .mov (.t 101), [49, 46], none⟩,
 ⟨(some 103), .mov (.t 11), [50], (some (102, true))⟩,
 ⟨(some 104), .un .not (.t 103), [51, 50], (some (102, true))⟩,
 ⟨(some 105), .pick (.t 102) (.t 104) (.c (.bool false)), [50, 52], none⟩,
 ⟨(some 0), .mov (.t 105), [53, 50, 0, 1, 2, 3, 4, 5, 6, 7, 8, 9, 10, 11, 12, 13, 14, 15, 16, 17, 18, 19, 20, 21, 22, 23, 24, 25, 26, 27, 28, 29, 30, 31, 32, 33, 34, 35, 36, 37, 38, 39, 40, 41, 42, 43, 44, 45, 46, 47, 48, 49, 50, 51, 52, 53], none⟩] [] [1, 2, 3, 4, 6, 7, 9, 10, 11, 12, 52, 53, 54, 55, 56, 57, 58, 59, 60, 61, 62, 63, 64, 65, 66, 67, 68, 69, 70, 71, 72, 73, 74, 75, 76, 77, 78, 79, 80, 81, 82, 83, 84, 85, 86, 87, 88, 89, 90, 91, 92, 93, 94, 95, 96, 97, 98, 99, 100, 101, 102, 103, 104, 105])
 .ret))))))))⟩
def s38 : SFn := ⟨14, [.cell 0 (some 2)],
 (.seq (.region [⟨(some 0), .alloc .dyn (.agg [.nilsl, .nilsl]), [], none⟩] [] [])
 (.seq (.region [⟨(some 1), .bslice true .dyn 1 2 [(.int .i64 0), (.int .i64 0)] [(0, 1, (.c (.int .i64 1))), (1, 1, (.c (.int .i64 0)))], [], none⟩,
 ⟨(some 2), .build [(.int .i64 0), (.int .i64 0)] [(0, 1, (.c (.int .i64 0))), (1, 1, (.c (.int .i64 1)))], [], none⟩,
 ⟨(some 3), .bslice true .dyn 2 1 [(.int .i64 0), (.int .i64 0)] [(0, 2, (.t 2))], [1], none⟩,
 ⟨(some 4), .build [(.int .i64 0), (.int .i64 0)] [(0, 1, (.c (.int .i64 1))), (1, 1, (.c (.int .i64 1)))], [], none⟩,
 ⟨(some 5), .bslice true .dyn 2 1 [(.int .i64 0), (.int .i64 0)] [(0, 2, (.t 4))], [3], none⟩,
 ⟨(some 6), .build [(.int .i64 0), .nilsl, .nilsl] [(0, 1, (.c (.int .i64 0))), (1, 1, (.t 3)), (2, 1, (.t 5))], [2, 4], none⟩,
 ⟨(some 7), .build [(.int .i64 0), (.int .i64 0)] [(0, 1, (.c (.int .i64 1))), (1, 1, (.c (.int .i64 1)))], [], none⟩,
 ⟨(some 8), .bslice true .dyn 2 1 [(.int .i64 0), (.int .i64 0)] [(0, 2, (.t 7))], [6], none⟩,
 ⟨(some 9), .build [(.int .i64 0), (.int .i64 0)] [(0, 1, (.c (.int .i64 0))), (1, 1, (.c (.int .i64 1)))], [], none⟩,
 ⟨(some 10), .bslice true .dyn 2 1 [(.int .i64 0), (.int .i64 0)] [(0, 2, (.t 9))], [8], none⟩,
 ⟨(some 11), .build [(.int .i64 0), .nilsl, .nilsl] [(0, 1, (.c (.int .i64 1))), (1, 1, (.t 8)), (2, 1, (.t 10))], [7, 9], none⟩,
 ⟨(some 12), .bslice true .dyn 3 2 [(.int .i64 0), .nilsl, .nilsl, (.int .i64 0), .nilsl, .nilsl] [(0, 3, (.t 6)), (3, 3, (.t 11))], [5, 10], none⟩,
 ⟨(some 13), .build [.nilsl, .nilsl] [(0, 1, (.t 1)), (1, 1, (.t 12))], [0, 11], none⟩,
 ⟨none, .store 2 (.t 0) (.t 13), [12, 0, 1, 2, 3, 4, 5, 6, 7, 8, 9, 10, 11, 12], none⟩] [] [1, 2, 3, 4, 5, 6, 7, 8, 9, 10, 11, 12, 13])
 .ret))⟩
theorem ok12 : okFn Try.prog 12 s12 = true := by kernel_rfl
theorem ok38 : okFn Try.prog 38 s38 = true := by kernel_rfl
end Go.AM.SV
