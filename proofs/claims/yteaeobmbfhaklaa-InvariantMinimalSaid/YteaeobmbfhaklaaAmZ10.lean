/- A part of the proof of InvariantMinimal: lemmas on the way (AmKf, AmKg, AmKh, AmKj, AmPw, AmNq, AmKk). Conditions: none of ours. -/
import Derived.Test.YteaeobmbfhaklaaProg
import Derived.KernelRfl
import Derived.Test.YteaeobmbfhaklaaAmZ9
set_option linter.unusedSectionVars false
namespace Go.AM.SN
open Go.Proofs
set_option maxRecDepth 100000
set_option linter.unusedSimpArgs false
set_option linter.unusedVariables false
def solR (R : List (List Int)) (cols : List Nat) : Option (List Int) :=
  match kerR R cols with
  | none => none
  | some l => if (l.any fun x => decide (x < 0)) = true then none else some l
def solV : Option (List Int) → AV
  | none => .tup [.nilsl, .bool false]
  | some l => .tup [sli l, .bool true]
theorem solR_gen {R : List (List Int)} {cols : List Nat} (hn0 : 0 < cols.length) (hn : cols.length ≤ 5) {v : Nat → Int} (G : Gen R cols v) : solR R cols = some ((List.range cols.length).map v) := by
  unfold solR
  rw [gen_ker hn0 hn G]
  dsimp only
  rw [if_neg]
  intro h
  obtain ⟨y, hy, h2⟩ := List.any_eq_true.1 h
  obtain ⟨c, hc, rfl⟩ := List.mem_map.1 hy
  have := G.pos c (by simpa using hc)
  simp at h2; omega
theorem solR_none {R : List (List Int)} {cols : List Nat} (hn0 : 0 < cols.length) (hn : cols.length ≤ 5) (hB : ∀ r ∈ R, ∀ x ∈ r, x.natAbs ≤ 2) (h : ∀ v, ¬ Gen R cols v) : solR R cols = none := by
  unfold solR
  cases hk : kerR R cols with
  | none => rfl
  | some l =>
    dsimp only
    by_cases hneg : (l.any fun x => decide (x < 0)) = true
    · rw [if_pos hneg]
    · exfalso
      obtain ⟨_, h2, _⟩ := ker_prop hn0 hn hB hk
      refine h _ (ker_gen hn0 hn hk fun x hx => ?_)
      have := (h2 x hx).1
      have : ¬ x < 0 := fun hlt => hneg (List.any_eq_true.2 ⟨x, hx, by simpa using hlt⟩)
      omega
def mat0 (l : List (List Int)) (set : List Nat) (E : Nat) : List (List Int) := (List.range E).map fun k => set.map fun c => (l.getD c []).getD k 0
theorem mat0_EI {l R : List (List Int)} {set : List Nat} {E K : Nat} (hR : R.length = E) (hRk : ∀ r ∈ R, r.length = K) (hs : ∀ c ∈ set, c < K) (hlR : ∀ k, k < E → ∀ c, c < K → (l.getD c []).getD k 0 = (R.getD k []).getD c 0) (hB : ∀ r ∈ R, ∀ x ∈ r, x.natAbs ≤ 2) :
    EI set.length E 0 (InKer R set) (mat0 l set E) [] := by
  have e : mat0 l set E = R.map (rrow set) := by
    refine List.ext_getElem? fun k => ?_
    unfold mat0
    by_cases hk : k < E
    · obtain ⟨r, hr⟩ := get_ex (l := R) (i := k) (by omega)
      rw [List.getElem?_map, List.getElem?_map, List.getElem?_range hk, hr]
      simp only [Option.map_some, Option.some.injEq]
      unfold rrow
      refine List.map_congr_left fun c hc => ?_
      rw [hlR k hk c (hs c hc)]
      simp [List.getD_eq_getElem?_getD, hr]
    · rw [List.getElem?_eq_none (by simp; omega), List.getElem?_eq_none (by simp; omega)]
  have hld : ∀ i d, (ld (R.map (rrow set)) i d).natAbs ≤ 2 := fun i d => by
    unfold ld
    rw [List.getD_eq_getElem?_getD (l := R.map (rrow set)), List.getElem?_map]
    cases hi : R[i]? with
    | none => simp
    | some r =>
      simp only [Option.map_some, Option.getD_some, rrow]
      rw [List.getD_eq_getElem?_getD, List.getElem?_map]
      cases hd : set[d]? with
      | none => simp
      | some c =>
        simp only [Option.map_some, Option.getD_some]
        rw [List.getD_eq_getElem?_getD]
        cases hc : r[c]? with
        | none => simp
        | some y => simpa using hB r (List.mem_of_getElem? hi) y (List.mem_of_getElem? hc)
  rw [e]
  refine ⟨by simp [hR], fun r hr => ?_, fun u => ?_, Nat.zero_le _, by simp, by simp, fun i p hp => by simp at hp, fun i p j hp => by simp at hp, fun j d _ _ hd => absurd hd (Nat.not_lt_zero _), hld, fun i _ => .inl (hld i)⟩
  · obtain ⟨q, _, rfl⟩ := List.mem_map.1 hr; simp [rrow]
  · have hrow : ∀ i r, R[i]? = some r → ld (R.map (rrow set)) i = fun c => (rrow set r).getD c 0 := fun i r hr => by
      funext c; unfold ld
      rw [List.getD_eq_getElem?_getD (l := R.map (rrow set)), List.getElem?_map, hr]; rfl
    constructor
    · intro hk r hr
      obtain ⟨i, hi, hil⟩ := mem_at hr
      have := hk i (by simpa using hil)
      rw [hrow i r hi] at this; exact this
    · intro hk i hi
      obtain ⟨r, hr⟩ := get_ex (l := R) (i := i) (by simpa using hi)
      rw [hrow i r hr]; exact hk r (List.mem_of_getElem? hr)
theorem ld_get {L : List (List Int)} {i : Nat} {r : List Int} (h : L[i]? = some r) (c : Nat) : ld L i c = r.getD c 0 := by
  unfold ld; rw [List.getD_eq_getElem?_getD (l := L), h]; rfl
theorem sli_get {L : List (List Int)} {i : Nat} {r : List Int} (h : L[i]? = some r) : (L.map sli)[i]? = some (sli r) := by rw [List.getElem?_map, h]; rfl
theorem getD_of {r : List Int} {c : Nat} (h : c < r.length) : r[c]? = some (r.getD c 0) := by
  rw [List.getD_eq_getElem?_getD, List.getElem?_eq_getElem h]; rfl
set_option maxHeartbeats 32000000 in
theorem solution44 (l R : List (List Int)) (set : List Nat) (E K : Nat) (hK : K ≤ 5) (hE : E ≤ 5) (hlK : l.length = K) (hlE : ∀ r ∈ l, r.length = E) (hR : R.length = E) (hRk : ∀ r ∈ R, r.length = K) (hs : ∀ c ∈ set, c < K) (hn0 : 0 < set.length) (hn5 : set.length ≤ 5)
    (hlR : ∀ k, k < E → ∀ c, c < K → (l.getD c []).getD k 0 = (R.getD k []).getD c 0) (hB : ∀ r ∈ R, ∀ x ∈ r, x.natAbs ≤ 2) (hl2 : ∀ r ∈ l, ∀ x ∈ r, x.natAbs ≤ 2) :
    PSpec Try.prog 44 [lsts l, sli (colI set)] (solV (solR R set)) := by
  refine PSpec.of_rn 64 SJ.ok44 rfl (by simp only [noRefs, noRef, noRefs_ints, noRefs_lsts]; rfl) (by unfold solV; split <;> simp only [noRef, noRefs, noRefs_ints] <;> rfl) ?_
  have hcl := colI_len set
  have hK0 : 0 < l.length := by
    cases set with
    | nil => cases hn0
    | cons c s => have := hs c (by simp); omega
  obtain ⟨l0, hl0⟩ := get_ex hK0
  have hl0E := hlE l0 (List.mem_of_getElem? hl0)
  have hhd : (l.map sli).head? = some (sli l0) := by
    cases l with
    | nil => cases hK0
    | cons a l => simp at hl0; subst hl0; rfl
  have hEI0 := mat0_EI (l := l) hR hRk hs hlR hB
  have hnone : (∀ v, ¬ Gen R set v) → ∀ (h : Heap), Rn 0 π0 h (solV (solR R set)) (.tup [.nilsl, .bool false]) := fun hh h => by
    rw [solR_none hn0 hn5 hB hh]; exact Rn.same rfl
  simp (maxSteps := 1000000) (disch := first | omega | exact PairsOK.mk rfl | (simp only [lenW] <;> omega)) only [SJ.s44, wordsN, Int.reduceGT, wordsR, ne_eq, wS_regionP, aAppend_slF, words, Nat.reduceAdd, Nat.reduceEqDiff, Nat.reduceBEq, ↓reduceIte, reduceCtorEq, SX.exit.injEq, if_true, if_false, Int.reduceAdd, Int.reduceSub, Int.reduceMul, Int.reduceLT, Int.reduceLE, Int.reduceEq, Int.reduceNe, Int.reduceNeg, Int.reduceToNat, Nat.reduceMul, Nat.reduceLT, Nat.reduceSub, Nat.reduceLeDiff]
  refine wS_loopX 100 (fun k : Nat => [(0, lsts l), (1, sli (colI set)), (6, .sl 50 0 0 k 1), (7, .int .i64 k)]) (fun k => [(50, .cells 0 ((mat0 l set k).map sli))]) (fun k => k ≤ E) (fun k => E - k) 0 0 200
    (fun _ : Unit => [(1, sli (colI set)), (6, .sl 50 0 0 E 1)]) (fun _ => [(50, .cells 0 ((mat0 l set E).map sli))]) (fun _ => True) ?_ (Nat.zero_le _) ?_ ?_
  · refine ⟨[(50, .nil)], rfl, au0, ?_, au4⟩
    exact RB.newnil rfl rfl RB.nil
  · intro k hk
    have hm1 : mat0 l set (k + 1) = mat0 l set k ++ [set.map fun c => (l.getD c []).getD k 0] := by simp [mat0, List.range_succ]
    have hml : (mat0 l set k).length = k := by simp [mat0]
    by_cases hkl : k < E
    · have hkl' : (k : Int) < (l0.length : Int) := by omega
      simp (maxSteps := 1000000) (disch := first | omega | exact PairsOK.mk rfl | (simp only [lenW] <;> omega)) only [hK0, hhd, hkl', wordsN, Int.reduceGT, wordsR, ne_eq, wS_regionP, aAppend_slF, words, Nat.reduceAdd, Nat.reduceEqDiff, Nat.reduceBEq, ↓reduceIte, reduceCtorEq, SX.exit.injEq, if_true, if_false, Int.reduceAdd, Int.reduceSub, Int.reduceMul, Int.reduceLT, Int.reduceLE, Int.reduceEq, Int.reduceNe, Int.reduceNeg, Int.reduceToNat, Nat.reduceMul, Nat.reduceLT, Nat.reduceSub, Nat.reduceLeDiff]
      refine wS_loopX 300 (fun i : Nat => [(0, lsts l), (1, sli (colI set)), (6, .sl 50 0 0 k 1), (7, .int .i64 k), (8, .sl 51 0 0 i 1), (9, .int .i64 i)]) (fun i => [(50, .cells 0 ((mat0 l set k).map sli)), (51, .cells 0 (ints ((set.take i).map fun c => (l.getD c []).getD k 0)))]) (fun i => i ≤ set.length) (fun i => set.length - i) 0 2 400
        (fun _ : Unit => [(0, lsts l), (1, sli (colI set)), (6, .sl 50 0 0 k 1), (7, .int .i64 k), (8, sli (set.map fun c => (l.getD c []).getD k 0))]) (fun _ => [(50, .cells 0 ((mat0 l set k).map sli))]) (fun _ => True) ?_ (Nat.zero_le _) ?_ ?_
      · refine ⟨[(50, .blk 50 0), (51, .nil)], rfl, au0, ?_, au4⟩
        exact RB.cells rfl rfl rfl (RnL.same (noRefs_lsts _)) (RB.newnil rfl rfl RB.nil)
      · intro i hi
        by_cases hil : i < set.length
        · obtain ⟨c, hc⟩ := get_ex hil
          have hcK := hs c (List.mem_of_getElem? hc)
          obtain ⟨r, hr⟩ := get_ex (l := l) (i := c) (by omega)
          have hrE := hlE r (List.mem_of_getElem? hr)
          have hg := getD_of (r := r) (c := k) (by omega)
          have hrD : l.getD c [] = r := by rw [List.getD_eq_getElem?_getD, hr]; rfl
          have hcl2 : c < l.length := by omega
          have hkr : k < r.length := by omega
          have htk : (set.take (i + 1)).map (fun c => (l.getD c []).getD k 0) = (set.take i).map (fun c => (l.getD c []).getD k 0) ++ [r.getD k 0] := by
            rw [List.take_add_one, hc, List.map_append]; simp [hr, List.getD_eq_getElem?_getD]
          have htl : ((set.take i).map fun c => (l.getD c []).getD k 0).length = i := by simp; omega
          generalize (set.take i).map (fun c => (l.getD c []).getD k 0) = acc at htk htl
          simp (maxSteps := 1000000) (disch := first | omega | exact PairsOK.mk rfl | (simp only [lenW] <;> omega)) only [hil, hcl, head_ints (colI_get hc), hcl2, head_lsts hr, hkr, head_ints hg, ints_len, htl, wordsN, Int.reduceGT, wordsR, ne_eq, wS_regionP, aAppend_slF, words, Nat.reduceAdd, Nat.reduceEqDiff, Nat.reduceBEq, ↓reduceIte, reduceCtorEq, SX.exit.injEq, if_true, if_false, Int.reduceAdd, Int.reduceSub, Int.reduceMul, Int.reduceLT, Int.reduceLE, Int.reduceEq, Int.reduceNe, Int.reduceNeg, Int.reduceToNat, Nat.reduceMul, Nat.reduceLT, Nat.reduceSub, Nat.reduceLeDiff]
          refine ⟨i + 1, by omega, by omega, ?_⟩
          refine ⟨[(50, .blk 50 0), (51, .blk 51 1)], rfl, au0, ?_, au4⟩
          refine RB.cells rfl rfl rfl (RnL.same (noRefs_lsts _)) (RB.cells rfl rfl rfl (RnL.eq (by rw [htk, ints_append]; rfl) (noRefs_ints _)) RB.nil)
        · simp (maxSteps := 1000000) (disch := first | omega | exact PairsOK.mk rfl | (simp only [lenW] <;> omega)) only [hil, hcl, wordsN, Int.reduceGT, wordsR, ne_eq, wS_regionP, aAppend_slF, words, Nat.reduceAdd, Nat.reduceEqDiff, Nat.reduceBEq, ↓reduceIte, reduceCtorEq, SX.exit.injEq, if_true, if_false, Int.reduceAdd, Int.reduceSub, Int.reduceMul, Int.reduceLT, Int.reduceLE, Int.reduceEq, Int.reduceNe, Int.reduceNeg, Int.reduceToNat, Nat.reduceMul, Nat.reduceLT, Nat.reduceSub, Nat.reduceLeDiff]
          have e : i = set.length := by omega
          refine ⟨(), ⟨[(50, .blk 50 0)], rfl, RO.zero, RB.cells rfl rfl rfl (RnL.same (noRefs_lsts _)) RB.nil, ?_⟩⟩
          refine RT.cons' rfl ?_ (RT.cons' rfl ?_ (RT.cons' rfl ?_ (RT.cons' rfl ?_ (RT.cons' rfl (Rn.fzm rfl rfl rfl (by simp [e]) (by rw [ints_len]; simp; omega) (RnL.eq (by rw [e, List.take_length]) (noRefs_ints _))) RT.nil)))) <;> repeat' (first | exact RB.nil | (refine RnL.same ?_; first | rfl | (simp only [noRef, noRefs, noRefs_append, Bool.and_self, Bool.and_true, Bool.true_and, noRefs_ints, noRefs_lsts, noRefs_pad, noRefs_tnC, noRefs_arcC, noRefs_rowF]; done)) | exact RnM.keyM rfl | exact RnL.nil | refine RnL.cons ?_ ?_ | (refine Rn.same ?_; first | rfl | (simp only [noRef, noRefs, noRefs_append, Bool.and_self, Bool.and_true, Bool.true_and, noRefs_ints, noRefs_lsts, noRefs_pad, noRefs_tnC, noRefs_arcC, noRefs_rowF]; done)) | exact Rn.x1 rfl rfl | exact Rn.x2 rfl rfl | exact Rn.x3 rfl rfl | exact Rn.x4 rfl rfl | exact Rn.x5 rfl | exact Rn.x6 rfl | exact Rn.x7 rfl | refine RB.newnil rfl rfl ?_ | refine RB.cells rfl rfl rfl ?_ ?_ | refine RB.map rfl rfl rfl ?_ ?_ | refine RB.cellsB rfl rfl ?_ ?_ | refine RB.mapB rfl rfl ?_ ?_)
      rintro _ -
      have hls : (mat0 l set k).map sli ++ [sli (set.map fun c => (l.getD c []).getD k 0)] = (mat0 l set (k + 1)).map sli := by rw [hm1, List.map_append]; rfl
      simp (maxSteps := 1000000) (disch := first | omega | exact PairsOK.mk rfl | (simp only [lenW] <;> omega)) only [hml, wordsN, Int.reduceGT, wordsR, ne_eq, wS_regionP, aAppend_slF, words, Nat.reduceAdd, Nat.reduceEqDiff, Nat.reduceBEq, ↓reduceIte, reduceCtorEq, SX.exit.injEq, if_true, if_false, Int.reduceAdd, Int.reduceSub, Int.reduceMul, Int.reduceLT, Int.reduceLE, Int.reduceEq, Int.reduceNe, Int.reduceNeg, Int.reduceToNat, Nat.reduceMul, Nat.reduceLT, Nat.reduceSub, Nat.reduceLeDiff]
      refine ⟨k + 1, by omega, by omega, ?_⟩
      refine ⟨[(50, .blk 50 1)], rfl, au0, ?_, au4⟩
      refine RB.cells rfl rfl rfl (RnL.eq ?_ (noRefs_lsts _)) RB.nil
      rw [← hls]; simp [sli]
    · have hkl' : ¬ (k : Int) < (l0.length : Int) := by omega
      simp (maxSteps := 1000000) (disch := first | omega | exact PairsOK.mk rfl | (simp only [lenW] <;> omega)) only [hK0, hhd, hkl', wordsN, Int.reduceGT, wordsR, ne_eq, wS_regionP, aAppend_slF, words, Nat.reduceAdd, Nat.reduceEqDiff, Nat.reduceBEq, ↓reduceIte, reduceCtorEq, SX.exit.injEq, if_true, if_false, Int.reduceAdd, Int.reduceSub, Int.reduceMul, Int.reduceLT, Int.reduceLE, Int.reduceEq, Int.reduceNe, Int.reduceNeg, Int.reduceToNat, Nat.reduceMul, Nat.reduceLT, Nat.reduceSub, Nat.reduceLeDiff]
      have e : k = E := by omega
      refine ⟨(), ?_⟩
      subst e
      exact ⟨[(50, .blk 50 0)], rfl, au0, au5, au4⟩
  rintro _ -
  have hmlE : (mat0 l set E).length = E := by simp [mat0]
  generalize hn : set.length = n at *
  generalize hL0 : mat0 l set E = L0 at hEI0 hmlE
  simp (maxSteps := 1000000) (disch := first | omega | exact PairsOK.mk rfl | (simp only [lenW] <;> omega)) only [wordsN, Int.reduceGT, wordsR, ne_eq, wS_regionP, aAppend_slF, words, Nat.reduceAdd, Nat.reduceEqDiff, Nat.reduceBEq, ↓reduceIte, reduceCtorEq, SX.exit.injEq, if_true, if_false, Int.reduceAdd, Int.reduceSub, Int.reduceMul, Int.reduceLT, Int.reduceLE, Int.reduceEq, Int.reduceNe, Int.reduceNeg, Int.reduceToNat, Nat.reduceMul, Nat.reduceLT, Nat.reduceSub, Nat.reduceLeDiff]
  refine wS_loopX 600 (fun a : Nat × List (List Int) × List Nat => [(1, sli (colI set)), (6, .sl 50 0 0 E 1), (10, .sl 51 0 0 a.2.2.length 1), (11, .int .i64 a.1), (12, .int .i64 a.2.2.length)])
    (fun a => [(50, .cells 0 (a.2.1.map sli)), (51, .cells 0 (ints (colI a.2.2)))]) (fun a => a.1 ≤ n ∧ EI n E a.1 (InKer R set) a.2.1 a.2.2) (fun a => n - a.1) (0, L0, []) 4 700
    (fun b : List (List Int) × List Nat => [(1, sli (colI set)), (6, .sl 50 0 0 E 1), (10, .sl 51 0 0 b.2.length 1)]) (fun b => [(50, .cells 0 (b.1.map sli)), (51, .cells 0 (ints (colI b.2)))]) (fun b => EI n E n (InKer R set) b.1 b.2) ?_ ⟨Nat.zero_le _, hEI0⟩ ?_ ?_
  · refine ⟨[(50, .blk 50 0), (51, .nil)], rfl, au0, ?_, au4⟩
    exact RB.cells rfl rfl rfl (RnL.same (noRefs_lsts _)) (RB.newnil rfl rfl RB.nil)
  · rintro ⟨c, L, pv⟩ ⟨hc, hEI⟩
    dsimp only at hc hEI
    have hLl := hEI.len
    by_cases hcn : c < n
    · have hcn' : (c : Int) < (n : Int) := by omega
      have hpvE := hEI.pvl
      have hpvc := len_le hEI.pinc hEI.plt
      simp (maxSteps := 1000000) (disch := first | omega | exact PairsOK.mk rfl | (simp only [lenW] <;> omega)) only [hcl, hn, hcn', wordsN, Int.reduceGT, wordsR, ne_eq, wS_regionP, aAppend_slF, words, Nat.reduceAdd, Nat.reduceEqDiff, Nat.reduceBEq, ↓reduceIte, reduceCtorEq, SX.exit.injEq, if_true, if_false, Int.reduceAdd, Int.reduceSub, Int.reduceMul, Int.reduceLT, Int.reduceLE, Int.reduceEq, Int.reduceNe, Int.reduceNeg, Int.reduceToNat, Nat.reduceMul, Nat.reduceLT, Nat.reduceSub, Nat.reduceLeDiff]
      refine wS_loopX 800 (fun p : Nat => [(1, sli (colI set)), (6, .sl 50 0 0 E 1), (10, .sl 51 0 0 pv.length 1), (11, .int .i64 c), (12, .int .i64 pv.length), (13, .int .i64 p)])
        (fun _ => [(50, .cells 0 (L.map sli)), (51, .cells 0 (ints (colI pv)))]) (fun p => pv.length ≤ p ∧ p ≤ E ∧ ∀ j, pv.length ≤ j → j < p → ld L j c = 0) (fun p => E - p) pv.length 6 900
        (fun p : Nat => [(1, sli (colI set)), (6, .sl 50 0 0 E 1), (10, .sl 51 0 0 pv.length 1), (11, .int .i64 c), (12, .int .i64 pv.length), (13, .int .i64 p)]) (fun _ => [(50, .cells 0 (L.map sli)), (51, .cells 0 (ints (colI pv)))])
        (fun p => pv.length ≤ p ∧ p ≤ E ∧ (∀ j, pv.length ≤ j → j < p → ld L j c = 0) ∧ (p < E → ld L p c ≠ 0)) ⟨[(50, .blk 50 0), (51, .blk 51 0)], rfl, au0, au5, au4⟩ ⟨Nat.le_refl _, hpvE, fun j h1 h2 => by omega⟩ ?_ ?_
      · rintro p ⟨hp1, hp2, hp3⟩
        by_cases hpE : p < E
        · obtain ⟨r, hr⟩ := get_ex (l := L) (i := p) (by omega)
          have hrn := hEI.rl r (List.mem_of_getElem? hr)
          have hg := getD_of (r := r) (c := c) (by omega)
          have hldr := ld_get hr c
          have hcr : c < r.length := by omega
          have hLs := sli_get hr
          by_cases h0 : r.getD c 0 = 0
          · rw [h0] at hg hldr
            simp (maxSteps := 1000000) (disch := first | omega | exact PairsOK.mk rfl | (simp only [lenW] <;> omega)) only [hpE, hLs, hcr, head_ints hg, wordsN, Int.reduceGT, wordsR, ne_eq, wS_regionP, aAppend_slF, words, Nat.reduceAdd, Nat.reduceEqDiff, Nat.reduceBEq, ↓reduceIte, reduceCtorEq, SX.exit.injEq, if_true, if_false, Int.reduceAdd, Int.reduceSub, Int.reduceMul, Int.reduceLT, Int.reduceLE, Int.reduceEq, Int.reduceNe, Int.reduceNeg, Int.reduceToNat, Nat.reduceMul, Nat.reduceLT, Nat.reduceSub, Nat.reduceLeDiff]
            refine ⟨p + 1, by omega, ⟨by omega, by omega, fun j h1 h2 => ?_⟩, ⟨[(50, .blk 50 0), (51, .blk 51 0)], rfl, au0, au5, au4⟩⟩
            by_cases e : j = p
            · subst e; exact hldr
            · exact hp3 j h1 (by omega)
          · simp (maxSteps := 1000000) (disch := first | omega | exact PairsOK.mk rfl | (simp only [lenW] <;> omega)) only [hpE, hLs, hcr, head_ints hg, h0, wordsN, Int.reduceGT, wordsR, ne_eq, wS_regionP, aAppend_slF, words, Nat.reduceAdd, Nat.reduceEqDiff, Nat.reduceBEq, ↓reduceIte, reduceCtorEq, SX.exit.injEq, if_true, if_false, Int.reduceAdd, Int.reduceSub, Int.reduceMul, Int.reduceLT, Int.reduceLE, Int.reduceEq, Int.reduceNe, Int.reduceNeg, Int.reduceToNat, Nat.reduceMul, Nat.reduceLT, Nat.reduceSub, Nat.reduceLeDiff]
            exact ⟨p, ⟨hp1, hp2, hp3, fun _ => by rw [hldr]; exact h0⟩, ⟨[(50, .blk 50 0), (51, .blk 51 0)], rfl, au0, au5, au4⟩⟩
        · simp (maxSteps := 1000000) (disch := first | omega | exact PairsOK.mk rfl | (simp only [lenW] <;> omega)) only [hpE, wordsN, Int.reduceGT, wordsR, ne_eq, wS_regionP, aAppend_slF, words, Nat.reduceAdd, Nat.reduceEqDiff, Nat.reduceBEq, ↓reduceIte, reduceCtorEq, SX.exit.injEq, if_true, if_false, Int.reduceAdd, Int.reduceSub, Int.reduceMul, Int.reduceLT, Int.reduceLE, Int.reduceEq, Int.reduceNe, Int.reduceNeg, Int.reduceToNat, Nat.reduceMul, Nat.reduceLT, Nat.reduceSub, Nat.reduceLeDiff]
          exact ⟨p, ⟨hp1, hp2, hp3, fun h => absurd h hpE⟩, ⟨[(50, .blk 50 0), (51, .blk 51 0)], rfl, au0, au5, au4⟩⟩
      rintro p ⟨hp1, hp2, hp3, hp4⟩
      by_cases hpE : p < E
      · have hpE' : ¬ (p : Int) = (E : Int) := by omega
        obtain ⟨rp, hrp⟩ := get_ex (l := L) (i := p) (by omega)
        obtain ⟨ra, hra⟩ := get_ex (l := L) (i := pv.length) (by omega)
        have hLp := sli_get hrp
        have hLa := sli_get hra
        have hEM := hEI.swap hp1 hpE (hp4 hpE)
        have hswL : ((L.map sli).set p (sli ra)).set pv.length (sli rp) = (swapL L p pv.length).map sli := by
          unfold swapL
          rw [List.map_set, List.map_set, show L.getD pv.length [] = ra by rw [List.getD_eq_getElem?_getD, hra]; rfl, show L.getD p [] = rp by rw [List.getD_eq_getElem?_getD, hrp]; rfl]
        have hatE : pv.length < E := by omega
        have hat1 : pv.length + 1 ≤ E := hatE
        have hpE1 : p + 1 ≤ E := hpE
        have hlm : (L.map sli).length = E := by rw [List.length_map, hLl]
        simp (maxSteps := 1000000) (disch := first | omega | exact PairsOK.mk rfl | (simp only [lenW] <;> omega)) only [hpE', hpE, hLp, hLa, hatE, hat1, hpE1, hlm, hLl, List.length_set, wordsN, Int.reduceGT, wordsR, ne_eq, wS_regionP, aAppend_slF, words, Nat.reduceAdd, Nat.reduceEqDiff, Nat.reduceBEq, ↓reduceIte, reduceCtorEq, SX.exit.injEq, if_true, if_false, Int.reduceAdd, Int.reduceSub, Int.reduceMul, Int.reduceLT, Int.reduceLE, Int.reduceEq, Int.reduceNe, Int.reduceNeg, Int.reduceToNat, Nat.reduceMul, Nat.reduceLT, Nat.reduceSub, Nat.reduceLeDiff]
        have hnm := bnd_mono pv.length (hEM.at4 hn5 hcn)
        refine wS_loopX 1000 (fun a : Nat × List (List Int) => [(1, sli (colI set)), (6, .sl 50 0 0 E 1), (10, .sl 51 0 0 pv.length 1), (11, .int .i64 c), (12, .int .i64 pv.length), (14, .int .i64 a.1)])
          (fun a => [(50, .cells 0 (a.2.map sli)), (51, .cells 0 (ints (colI pv)))]) (fun a => a.1 ≤ E ∧ EM n E c (InKer R set) pv a.1 a.2) (fun a => E - a.1) (0, swapL L p pv.length) 8 1100
          (fun b : List (List Int) => [(1, sli (colI set)), (6, .sl 50 0 0 E 1), (10, .sl 51 0 0 pv.length 1), (11, .int .i64 c), (12, .int .i64 pv.length)]) (fun b => [(50, .cells 0 (b.map sli)), (51, .cells 0 (ints (colI pv)))]) (fun b => EM n E c (InKer R set) pv E b) ?_ ⟨Nat.zero_le _, hEM⟩ ?_ ?_
        · refine ⟨[(50, .blk 50 0), (51, .blk 51 0)], rfl, au0, ?_, au4⟩
          exact RB.cells rfl rfl rfl (RnL.eq hswL.symm (noRefs_lsts _)) (RB.cells rfl rfl rfl (RnL.same (noRefs_ints _)) RB.nil)
        · rintro ⟨i, M⟩ ⟨hi, hM⟩
          dsimp only at hi hM
          have hMl := hM.len
          by_cases hiE : i < E
          · obtain ⟨ri, hri⟩ := get_ex (l := M) (i := i) (by omega)
            obtain ⟨rq, hrq⟩ := get_ex (l := M) (i := pv.length) (by omega)
            have hMi := sli_get hri
            have hMq := sli_get hrq
            have hrin := hM.rl ri (List.mem_of_getElem? hri)
            have hrqn := hM.rl rq (List.mem_of_getElem? hrq)
            have hgi := getD_of (r := ri) (c := c) (by omega)
            have hgq := getD_of (r := rq) (c := c) (by omega)
            have hci : c < ri.length := by omega
            have hcq : c < rq.length := by omega
            have hldi := fun d => ld_get hri d
            have hldq := fun d => ld_get hrq d
            by_cases hip : i = pv.length
            · have hsk := hM.skip (.inl hip) hnm
              subst hip
              simp (maxSteps := 1000000) (disch := first | omega | exact PairsOK.mk rfl | (simp only [lenW] <;> omega)) only [hiE, wordsN, Int.reduceGT, wordsR, ne_eq, wS_regionP, aAppend_slF, words, Nat.reduceAdd, Nat.reduceEqDiff, Nat.reduceBEq, ↓reduceIte, reduceCtorEq, SX.exit.injEq, if_true, if_false, Int.reduceAdd, Int.reduceSub, Int.reduceMul, Int.reduceLT, Int.reduceLE, Int.reduceEq, Int.reduceNe, Int.reduceNeg, Int.reduceToNat, Nat.reduceMul, Nat.reduceLT, Nat.reduceSub, Nat.reduceLeDiff]
              exact ⟨(pv.length + 1, M), by dsimp only; omega, ⟨by dsimp only; omega, hsk⟩, ⟨[(50, .blk 50 0), (51, .blk 51 0)], rfl, au0, au5, au4⟩⟩
            by_cases h0 : ri.getD c 0 = 0
            · have hsk := hM.skip (.inr (by rw [hldi]; exact h0)) hnm
              rw [h0] at hgi
              have hip' : ¬ (i : Int) = (pv.length : Int) := by omega
              simp (maxSteps := 1000000) (disch := first | omega | exact PairsOK.mk rfl | (simp only [lenW] <;> omega)) only [hiE, hip', hMi, hci, head_ints hgi, wordsN, Int.reduceGT, wordsR, ne_eq, wS_regionP, aAppend_slF, words, Nat.reduceAdd, Nat.reduceEqDiff, Nat.reduceBEq, ↓reduceIte, reduceCtorEq, SX.exit.injEq, if_true, if_false, Int.reduceAdd, Int.reduceSub, Int.reduceMul, Int.reduceLT, Int.reduceLE, Int.reduceEq, Int.reduceNe, Int.reduceNeg, Int.reduceToNat, Nat.reduceMul, Nat.reduceLT, Nat.reduceSub, Nat.reduceLeDiff]
              exact ⟨(i + 1, M), by dsimp only; omega, ⟨by dsimp only; omega, hsk⟩, ⟨[(50, .blk 50 0), (51, .blk 51 0)], rfl, au0, au5, au4⟩⟩
            have hst := hM.step hn5 hcn hiE hip (by rw [hldi]; exact h0)
            have hip' : ¬ (i : Int) = (pv.length : Int) := by omega
            have hprod := fun k => hM.prods hn5 hcn (k := k)
            have hrbd := fun k => hM.rowE_bd hn5 hcn hiE hip k
            have hrel : (rowE n M i pv.length c).length = n := by simp [rowE]
            have hregt := fun k (hk : k < n) => rowE_get (n := n) (L := M) (i := i) (a := pv.length) (c := c) hk
            have htop := bnd_top (pv.length + 1)
            simp only [hldi, hldq] at hprod hregt
            generalize rowE n M i pv.length c = re at *
            simp (maxSteps := 1000000) (disch := first | omega | exact PairsOK.mk rfl | (simp only [lenW] <;> omega)) only [hiE, hip', hMi, hci, head_ints hgi, h0, hMq, hcq, head_ints hgq, hatE, wordsN, Int.reduceGT, wordsR, ne_eq, wS_regionP, aAppend_slF, words, Nat.reduceAdd, Nat.reduceEqDiff, Nat.reduceBEq, ↓reduceIte, reduceCtorEq, SX.exit.injEq, if_true, if_false, Int.reduceAdd, Int.reduceSub, Int.reduceMul, Int.reduceLT, Int.reduceLE, Int.reduceEq, Int.reduceNe, Int.reduceNeg, Int.reduceToNat, Nat.reduceMul, Nat.reduceLT, Nat.reduceSub, Nat.reduceLeDiff]
            refine wS_loopX 1200 (fun k : Nat => [(1, sli (colI set)), (6, .sl 50 0 0 E 1), (10, .sl 51 0 0 pv.length 1), (11, .int .i64 c), (12, .int .i64 pv.length), (14, .int .i64 i), (15, .int .i64 (rq.getD c 0)), (16, .int .i64 (ri.getD c 0)), (17, .sl 52 0 0 k 1), (18, .int .i64 k)])
              (fun k => [(50, .cells 0 (M.map sli)), (51, .cells 0 (ints (colI pv))), (52, .cells 0 (ints (re.take k)))]) (fun k => k ≤ n) (fun k => n - k) 0 10 1300
              (fun _ : Unit => [(1, sli (colI set)), (6, .sl 50 0 0 E 1), (10, .sl 51 0 0 pv.length 1), (11, .int .i64 c), (12, .int .i64 pv.length), (14, .int .i64 i), (17, sli re)]) (fun _ => [(50, .cells 0 (M.map sli)), (51, .cells 0 (ints (colI pv)))]) (fun _ => True) ?_ (Nat.zero_le _) ?_ ?_
            · refine ⟨[(50, .blk 50 0), (51, .blk 51 0), (52, .nil)], rfl, au0, ?_, au4⟩
              exact RB.cells rfl rfl rfl (RnL.same (noRefs_lsts _)) (RB.cells rfl rfl rfl (RnL.same (noRefs_ints _)) (RB.newnil rfl rfl RB.nil))
            · intro k hk
              by_cases hkn : k < n
              · have hgik := getD_of (r := ri) (c := k) (by omega)
                have hgqk := getD_of (r := rq) (c := k) (by omega)
                have hki : k < ri.length := by omega
                have hkq : k < rq.length := by omega
                obtain ⟨p1, p2⟩ := hprod k
                have hb := hrbd k
                have hv := hregt k hkn
                have htk : re.take (k + 1) = re.take k ++ [re.getD k 0] := by
                  rw [List.take_add_one, getD_of (r := re) (c := k) (by omega)]; rfl
                have htl : (re.take k).length = k := by rw [List.length_take]; omega
                generalize hP1 : rq.getD c 0 * ri.getD k 0 = P1 at p1 hv
                generalize hP2 : ri.getD c 0 * rq.getD k 0 = P2 at p2 hv
                have b1 : -9223372036854775808 ≤ P1 ∧ P1 ≤ 9223372036854775807 := by omega
                have b2 : -9223372036854775808 ≤ P2 ∧ P2 ≤ 9223372036854775807 := by omega
                have b3 : -9223372036854775808 ≤ P1 - P2 ∧ P1 - P2 ≤ 9223372036854775807 := by omega
                generalize re.take k = acc at htk htl
                simp (maxSteps := 1000000) (disch := first | omega | exact PairsOK.mk rfl | (simp only [lenW] <;> omega)) only [hkn, hcl, hn, hiE, hMi, hMq, hatE, hki, hkq, head_ints hgik, head_ints hgqk, hP1, hP2, ints_len, htl, wordsN, Int.reduceGT, wordsR, ne_eq, wS_regionP, aAppend_slF, words, Nat.reduceAdd, Nat.reduceEqDiff, Nat.reduceBEq, ↓reduceIte, reduceCtorEq, SX.exit.injEq, if_true, if_false, Int.reduceAdd, Int.reduceSub, Int.reduceMul, Int.reduceLT, Int.reduceLE, Int.reduceEq, Int.reduceNe, Int.reduceNeg, Int.reduceToNat, Nat.reduceMul, Nat.reduceLT, Nat.reduceSub, Nat.reduceLeDiff]
                refine ⟨k + 1, by omega, by omega, ?_⟩
                refine ⟨[(50, .blk 50 0), (51, .blk 51 0), (52, .blk 52 1)], rfl, au0, ?_, au4⟩
                refine RB.cells rfl rfl rfl (RnL.same (noRefs_lsts _)) (RB.cells rfl rfl rfl (RnL.same (noRefs_ints _)) (RB.cells rfl rfl rfl (RnL.eq (by rw [htk, ints_append, hv]; rfl) (noRefs_ints _)) RB.nil))
              · simp (maxSteps := 1000000) (disch := first | omega | exact PairsOK.mk rfl | (simp only [lenW] <;> omega)) only [hkn, hcl, hn, wordsN, Int.reduceGT, wordsR, ne_eq, wS_regionP, aAppend_slF, words, Nat.reduceAdd, Nat.reduceEqDiff, Nat.reduceBEq, ↓reduceIte, reduceCtorEq, SX.exit.injEq, if_true, if_false, Int.reduceAdd, Int.reduceSub, Int.reduceMul, Int.reduceLT, Int.reduceLE, Int.reduceEq, Int.reduceNe, Int.reduceNeg, Int.reduceToNat, Nat.reduceMul, Nat.reduceLT, Nat.reduceSub, Nat.reduceLeDiff]
                have e : k = n := by omega
                refine ⟨(), ⟨[(50, .blk 50 0), (51, .blk 51 0)], rfl, RO.zero, RB.cells rfl rfl rfl (RnL.same (noRefs_lsts _)) (RB.cells rfl rfl rfl (RnL.same (noRefs_ints _)) RB.nil), ?_⟩⟩
                refine RT.cons' rfl ?_ (RT.cons' rfl ?_ (RT.cons' rfl ?_ (RT.cons' rfl ?_ (RT.cons' rfl ?_ (RT.cons' rfl ?_ (RT.cons' rfl (Rn.fzm rfl rfl rfl (by rw [hrel, e]) (by rw [ints_len, List.length_take]; omega) (RnL.eq (by rw [e, ← hrel, List.take_length]) (noRefs_ints _))) RT.nil)))))) <;> repeat' (first | exact RB.nil | (refine RnL.same ?_; first | rfl | (simp only [noRef, noRefs, noRefs_append, Bool.and_self, Bool.and_true, Bool.true_and, noRefs_ints, noRefs_lsts, noRefs_pad, noRefs_tnC, noRefs_arcC, noRefs_rowF]; done)) | exact RnM.keyM rfl | exact RnL.nil | refine RnL.cons ?_ ?_ | (refine Rn.same ?_; first | rfl | (simp only [noRef, noRefs, noRefs_append, Bool.and_self, Bool.and_true, Bool.true_and, noRefs_ints, noRefs_lsts, noRefs_pad, noRefs_tnC, noRefs_arcC, noRefs_rowF]; done)) | exact Rn.x1 rfl rfl | exact Rn.x2 rfl rfl | exact Rn.x3 rfl rfl | exact Rn.x4 rfl rfl | exact Rn.x5 rfl | exact Rn.x6 rfl | exact Rn.x7 rfl | refine RB.newnil rfl rfl ?_ | refine RB.cells rfl rfl rfl ?_ ?_ | refine RB.map rfl rfl rfl ?_ ?_ | refine RB.cellsB rfl rfl ?_ ?_ | refine RB.mapB rfl rfl ?_ ?_)
            rintro _ -
            have h64 := reduced64 re (by omega) (fun x hx => by
              obtain ⟨j, hj, hjl⟩ := mem_at hx
              have := hrbd j
              rw [List.getD_eq_getElem?_getD, hj] at this
              exact Nat.le_trans this htop)
            have hi1 : i + 1 ≤ E := hiE
            have hlm2 : (M.map sli).length = E := by rw [List.length_map, hMl]
            have hse : (M.map sli).set i (sli (redR re)) = (M.set i (redR re)).map sli := by rw [List.map_set]
            simp (maxSteps := 1000000) (disch := first | omega | exact PairsOK.mk rfl | (simp only [lenW] <;> omega)) only [wordsN, Int.reduceGT, wordsR, ne_eq, wS_regionP, aAppend_slF, words, Nat.reduceAdd, Nat.reduceEqDiff, Nat.reduceBEq, ↓reduceIte, reduceCtorEq, SX.exit.injEq, if_true, if_false, Int.reduceAdd, Int.reduceSub, Int.reduceMul, Int.reduceLT, Int.reduceLE, Int.reduceEq, Int.reduceNe, Int.reduceNeg, Int.reduceToNat, Nat.reduceMul, Nat.reduceLT, Nat.reduceSub, Nat.reduceLeDiff]
            refine cp h64 ?_
            simp (maxSteps := 1000000) (disch := first | omega | exact PairsOK.mk rfl | (simp only [lenW] <;> omega)) only [hiE, hi1, hlm2, hMl, wordsN, Int.reduceGT, wordsR, ne_eq, wS_regionP, aAppend_slF, words, Nat.reduceAdd, Nat.reduceEqDiff, Nat.reduceBEq, ↓reduceIte, reduceCtorEq, SX.exit.injEq, if_true, if_false, Int.reduceAdd, Int.reduceSub, Int.reduceMul, Int.reduceLT, Int.reduceLE, Int.reduceEq, Int.reduceNe, Int.reduceNeg, Int.reduceToNat, Nat.reduceMul, Nat.reduceLT, Nat.reduceSub, Nat.reduceLeDiff]
            refine ⟨(i + 1, M.set i (redR re)), by dsimp only; omega, ⟨by dsimp only; omega, hst⟩, ?_⟩
            refine ⟨[(50, .blk 50 0), (51, .blk 51 0)], rfl, au0, ?_, au4⟩
            exact RB.cells rfl rfl rfl (RnL.eq hse.symm (noRefs_lsts _)) (RB.cells rfl rfl rfl (RnL.same (noRefs_ints _)) RB.nil)
          · simp (maxSteps := 1000000) (disch := first | omega | exact PairsOK.mk rfl | (simp only [lenW] <;> omega)) only [hiE, wordsN, Int.reduceGT, wordsR, ne_eq, wS_regionP, aAppend_slF, words, Nat.reduceAdd, Nat.reduceEqDiff, Nat.reduceBEq, ↓reduceIte, reduceCtorEq, SX.exit.injEq, if_true, if_false, Int.reduceAdd, Int.reduceSub, Int.reduceMul, Int.reduceLT, Int.reduceLE, Int.reduceEq, Int.reduceNe, Int.reduceNeg, Int.reduceToNat, Nat.reduceMul, Nat.reduceLT, Nat.reduceSub, Nat.reduceLeDiff]
            have e : i = E := by omega
            refine ⟨M, ?_, ⟨[(50, .blk 50 0), (51, .blk 51 0)], rfl, au0, au5, au4⟩⟩
            rw [e] at hM; exact hM
        rintro M hM
        have hdn := hM.done' hn5 hcn
        have hpl : (colI pv).length = pv.length := colI_len pv
        simp (maxSteps := 1000000) (disch := first | omega | exact PairsOK.mk rfl | (simp only [lenW] <;> omega)) only [ints_len, hpl, wordsN, Int.reduceGT, wordsR, ne_eq, wS_regionP, aAppend_slF, words, Nat.reduceAdd, Nat.reduceEqDiff, Nat.reduceBEq, ↓reduceIte, reduceCtorEq, SX.exit.injEq, if_true, if_false, Int.reduceAdd, Int.reduceSub, Int.reduceMul, Int.reduceLT, Int.reduceLE, Int.reduceEq, Int.reduceNe, Int.reduceNeg, Int.reduceToNat, Nat.reduceMul, Nat.reduceLT, Nat.reduceSub, Nat.reduceLeDiff]
        refine ⟨(c + 1, M, pv ++ [c]), by dsimp only; omega, ⟨by dsimp only; omega, hdn⟩, ?_⟩
        dsimp only
        rw [List.length_append]
        refine ⟨[(50, .blk 50 0), (51, .blk 51 1)], rfl, au0, ?_, au4⟩
        refine RB.cells rfl rfl rfl (RnL.same (noRefs_lsts _)) (RB.cells rfl rfl rfl (RnL.eq (by unfold colI; rw [List.map_append, ints_append]; rfl) (noRefs_ints _)) RB.nil)
      · have e : p = E := by omega
        have hsk := hEI.skip fun j h1 h2 => hp3 j h1 (by omega)
        have hEE : (p : Int) = (E : Int) := by omega
        simp (maxSteps := 1000000) (disch := first | omega | exact PairsOK.mk rfl | (simp only [lenW] <;> omega)) only [hEE, wordsN, Int.reduceGT, wordsR, ne_eq, wS_regionP, aAppend_slF, words, Nat.reduceAdd, Nat.reduceEqDiff, Nat.reduceBEq, ↓reduceIte, reduceCtorEq, SX.exit.injEq, if_true, if_false, Int.reduceAdd, Int.reduceSub, Int.reduceMul, Int.reduceLT, Int.reduceLE, Int.reduceEq, Int.reduceNe, Int.reduceNeg, Int.reduceToNat, Nat.reduceMul, Nat.reduceLT, Nat.reduceSub, Nat.reduceLeDiff]
        refine ⟨(c + 1, L, pv), by dsimp only; omega, ⟨by dsimp only; omega, hsk⟩, ⟨[(50, .blk 50 0), (51, .blk 51 0)], rfl, au0, au5, au4⟩⟩
    · have hcn' : ¬ (c : Int) < (n : Int) := by omega
      have e : c = n := by omega
      simp (maxSteps := 1000000) (disch := first | omega | exact PairsOK.mk rfl | (simp only [lenW] <;> omega)) only [hcl, hn, hcn', wordsN, Int.reduceGT, wordsR, ne_eq, wS_regionP, aAppend_slF, words, Nat.reduceAdd, Nat.reduceEqDiff, Nat.reduceBEq, ↓reduceIte, reduceCtorEq, SX.exit.injEq, if_true, if_false, Int.reduceAdd, Int.reduceSub, Int.reduceMul, Int.reduceLT, Int.reduceLE, Int.reduceEq, Int.reduceNe, Int.reduceNeg, Int.reduceToNat, Nat.reduceMul, Nat.reduceLT, Nat.reduceSub, Nat.reduceLeDiff]
      refine ⟨(L, pv), ?_, ⟨[(50, .blk 50 0), (51, .blk 51 0)], rfl, au0, au5, au4⟩⟩
      rw [e] at hEI; exact hEI
  rintro ⟨L, pv⟩ hEI
  dsimp only at hEI
  have hLl := hEI.len
  have hpvE := hEI.pvl
  have hpvn := len_le hEI.pinc hEI.plt
  by_cases hm : pv.length + 1 = n
  · have hm' : (pv.length : Int) = (n : Int) - 1 := by omega
    simp (maxSteps := 1000000) (disch := first | omega | exact PairsOK.mk rfl | (simp only [lenW] <;> omega)) only [hcl, hn, hm', wordsN, Int.reduceGT, wordsR, ne_eq, wS_regionP, aAppend_slF, words, Nat.reduceAdd, Nat.reduceEqDiff, Nat.reduceBEq, ↓reduceIte, reduceCtorEq, SX.exit.injEq, if_true, if_false, Int.reduceAdd, Int.reduceSub, Int.reduceMul, Int.reduceLT, Int.reduceLE, Int.reduceEq, Int.reduceNe, Int.reduceNeg, Int.reduceToNat, Nat.reduceMul, Nat.reduceLT, Nat.reduceSub, Nat.reduceLeDiff]
    have hcol := colI_len pv
    have hnat : ((n : Int) - 1) = ((pv.length : Nat) : Int) := by omega
    rw [hnat]
    refine wS_loopX 1400 (fun i : Nat => [(1, sli (colI set)), (6, .sl 50 0 0 E 1), (10, .sl 51 0 0 pv.length 1), (19, .int .i64 pv.length), (20, .int .i64 i)]) (fun _ => [(50, .cells 0 (L.map sli)), (51, .cells 0 (ints (colI pv)))])
      (fun i => i ≤ pv.length ∧ ∀ j, j < i → pv[j]? = some j) (fun i => pv.length - i) 0 12 1500
      (fun f : Nat => [(1, sli (colI set)), (6, .sl 50 0 0 E 1), (10, .sl 51 0 0 pv.length 1), (19, .int .i64 f)]) (fun _ => [(50, .cells 0 (L.map sli)), (51, .cells 0 (ints (colI pv)))]) (fun f => EF n pv.length E f R set L pv) ⟨[(50, .blk 50 0), (51, .blk 51 0)], rfl, au0, au5, au4⟩ ⟨Nat.zero_le _, fun j hj => absurd hj (Nat.not_lt_zero _)⟩ ?_ ?_
    · rintro i ⟨hi, hb⟩
      by_cases hil : i < pv.length
      · obtain ⟨p, hp⟩ := get_ex hil
        have hgp := colI_get hp
        have hgp2 : (ints (colI pv))[i]? = some (.int .i64 (p : Int)) := by rw [ints, List.getElem?_map, hgp]; rfl
        by_cases hpi : p = i
        · subst hpi
          simp (maxSteps := 1000000) (disch := first | omega | exact PairsOK.mk rfl | (simp only [lenW] <;> omega)) only [hil, hgp2, wordsN, Int.reduceGT, wordsR, ne_eq, wS_regionP, aAppend_slF, words, Nat.reduceAdd, Nat.reduceEqDiff, Nat.reduceBEq, ↓reduceIte, reduceCtorEq, SX.exit.injEq, if_true, if_false, Int.reduceAdd, Int.reduceSub, Int.reduceMul, Int.reduceLT, Int.reduceLE, Int.reduceEq, Int.reduceNe, Int.reduceNeg, Int.reduceToNat, Nat.reduceMul, Nat.reduceLT, Nat.reduceSub, Nat.reduceLeDiff]
          refine ⟨p + 1, by omega, ⟨by omega, fun j hj => ?_⟩, ⟨[(50, .blk 50 0), (51, .blk 51 0)], rfl, au0, au5, au4⟩⟩
          by_cases e : j = p
          · rw [e]; exact hp
          · exact hb j (by omega)
        · have hpi' : ¬ (p : Int) = (i : Int) := by omega
          simp (maxSteps := 1000000) (disch := first | omega | exact PairsOK.mk rfl | (simp only [lenW] <;> omega)) only [hil, hgp2, hpi', wordsN, Int.reduceGT, wordsR, ne_eq, wS_regionP, aAppend_slF, words, Nat.reduceAdd, Nat.reduceEqDiff, Nat.reduceBEq, ↓reduceIte, reduceCtorEq, SX.exit.injEq, if_true, if_false, Int.reduceAdd, Int.reduceSub, Int.reduceMul, Int.reduceLT, Int.reduceLE, Int.reduceEq, Int.reduceNe, Int.reduceNeg, Int.reduceToNat, Nat.reduceMul, Nat.reduceLT, Nat.reduceSub, Nat.reduceLeDiff]
          exact ⟨i, EF.of hEI hm.symm rfl hi hb (fun _ => by rw [hp]; intro h; cases h; exact hpi rfl), ⟨[(50, .blk 50 0), (51, .blk 51 0)], rfl, au0, au5, au4⟩⟩
      · have e : i = pv.length := by omega
        simp (maxSteps := 1000000) (disch := first | omega | exact PairsOK.mk rfl | (simp only [lenW] <;> omega)) only [hil, wordsN, Int.reduceGT, wordsR, ne_eq, wS_regionP, aAppend_slF, words, Nat.reduceAdd, Nat.reduceEqDiff, Nat.reduceBEq, ↓reduceIte, reduceCtorEq, SX.exit.injEq, if_true, if_false, Int.reduceAdd, Int.reduceSub, Int.reduceMul, Int.reduceLT, Int.reduceLE, Int.reduceEq, Int.reduceNe, Int.reduceNeg, Int.reduceToNat, Nat.reduceMul, Nat.reduceLT, Nat.reduceSub, Nat.reduceLeDiff]
        exact ⟨pv.length, EF.of hEI hm.symm rfl (Nat.le_refl _) (by rw [← e]; exact hb) (fun h => absurd h (Nat.lt_irrefl _)), ⟨[(50, .blk 50 0), (51, .blk 51 0)], rfl, au0, au5, au4⟩⟩
    rintro f hEF
    obtain ⟨D, hD0, hD768, hDd⟩ := hEF.small hn.symm hn5 hB
    have hf := hEF.hf
    have hmE := hEF.mE
    have hld2 : ∀ i d, (ld L i d).natAbs ≤ 2147483648 := fun i d => by
      refine Nat.le_trans (hEI.bd i d) ?_
      have : ∀ k, k ≤ 4 → bndK k ≤ 2147483648 := by decide
      exact this _ (by omega)
    have hrowi : ∀ i, i < pv.length → ∃ r, L[i]? = some r ∧ r.length = n ∧ (ints (colI pv))[i]? = some (.int .i64 (cl f i : Nat)) ∧ cl f i < n ∧ (∀ d, d < n → r[d]? = some (ld L i d)) := fun i hi => by
      obtain ⟨r, hr⟩ := get_ex (l := L) (i := i) (by omega)
      have hrn := hEI.rl r (List.mem_of_getElem? hr)
      refine ⟨r, hr, hrn, ?_, by unfold cl; split <;> omega, fun d hd => ?_⟩
      · rw [ints, List.getElem?_map, colI_get (hEF.hpv i hi)]; rfl
      · rw [ld_get hr]; exact getD_of (by omega)
    simp (maxSteps := 1000000) (disch := first | omega | exact PairsOK.mk rfl | (simp only [lenW] <;> omega)) only [wordsN, Int.reduceGT, wordsR, ne_eq, wS_regionP, aAppend_slF, words, Nat.reduceAdd, Nat.reduceEqDiff, Nat.reduceBEq, ↓reduceIte, reduceCtorEq, SX.exit.injEq, if_true, if_false, Int.reduceAdd, Int.reduceSub, Int.reduceMul, Int.reduceLT, Int.reduceLE, Int.reduceEq, Int.reduceNe, Int.reduceNeg, Int.reduceToNat, Nat.reduceMul, Nat.reduceLT, Nat.reduceSub, Nat.reduceLeDiff]
    refine wS_loopX 1600 (fun a : Nat × Int => [(1, sli (colI set)), (6, .sl 50 0 0 E 1), (10, .sl 51 0 0 pv.length 1), (19, .int .i64 f), (21, .int .i64 a.2), (22, .int .i64 a.1)]) (fun _ => [(50, .cells 0 (L.map sli)), (51, .cells 0 (ints (colI pv)))])
      (fun a => a.1 ≤ pv.length ∧ a.2 ≠ 0 ∧ a.2 ∣ D ∧ ∀ j, j < a.1 → ld L j (cl f j) ∣ a.2) (fun a => pv.length - a.1) (0, 1) 14 1700
      (fun F : Int => [(1, sli (colI set)), (6, .sl 50 0 0 E 1), (10, .sl 51 0 0 pv.length 1), (19, .int .i64 f), (21, .int .i64 F)]) (fun _ => [(50, .cells 0 (L.map sli)), (51, .cells 0 (ints (colI pv)))])
      (fun F => F ≠ 0 ∧ F.natAbs ≤ 768 ∧ ∀ j, j < pv.length → ld L j (cl f j) ∣ F) ⟨[(50, .blk 50 0), (51, .blk 51 0)], rfl, au0, au5, au4⟩ ⟨Nat.zero_le _, by decide, Int.one_dvd _, fun j hj => absurd hj (Nat.not_lt_zero _)⟩ ?_ ?_
    · rintro ⟨i, F⟩ ⟨hi, hF0, hFD, hFd⟩
      dsimp only at hi hF0 hFD hFd
      have hFb : F.natAbs ≤ 768 := by
        have := Nat.le_of_dvd (by omega) (Int.natAbs_dvd_natAbs.2 hFD)
        omega
      by_cases hil : i < pv.length
      · obtain ⟨r, hr, hrn, hgp, hcln, hgr⟩ := hrowi i hil
        have hLr := sli_get hr
        have hg1 := hgr _ hcln
        have hpne := hEF.pne hil
        have hpb := hld2 i (cl f i)
        obtain ⟨s1, s2, s3, s4⟩ := lcm_step hF0 hpne hFD (hDd i hil)
        have h65 := gcd65 F (ld L i (cl f i)) (by unfold big; omega) (by unfold big; omega)
        have hgne : ¬ ((Int.gcd F (ld L i (cl f i)) : Nat) : Int) = 0 := by
          intro e
          have := Int.gcd_dvd_left F (ld L i (cl f i))
          rw [e] at this
          exact hF0 (by simpa using this)
        have hnb : (F.tdiv (Int.gcd F (ld L i (cl f i)) : Nat) * ld L i (cl f i)).natAbs ≤ 768 := by
          have := Nat.le_of_dvd (by omega) (Int.natAbs_dvd_natAbs.2 s4)
          omega
        have hqb : (F.tdiv (Int.gcd F (ld L i (cl f i)) : Nat)).natAbs ≤ 768 := by
          rw [Int.natAbs_tdiv]; exact Nat.le_trans (Nat.div_le_self _ _) hFb
        have hiE : i < E := by omega
        have hclr : cl f i < r.length := by omega
        have hdone : ∀ j, j < i + 1 → ld L j (cl f j) ∣ F.tdiv (Int.gcd F (ld L i (cl f i)) : Nat) * ld L i (cl f i) := fun j hj => by
          by_cases e : j = i
          · rw [e]; exact s3
          · exact Int.dvd_trans (hFd j (by omega)) s2
        generalize ld L i (cl f i) = p at *
        generalize (Int.gcd F p : Nat) = g at *
        generalize hQ : F.tdiv (g : Int) = Q at *
        generalize hN : Q * p = N at *
        generalize cl f i = q at *
        have q1 : -9223372036854775808 ≤ Q ∧ Q ≤ 9223372036854775807 := by omega
        have q2 : -9223372036854775808 ≤ N ∧ N ≤ 9223372036854775807 := by omega
        simp (maxSteps := 1000000) (disch := first | omega | exact PairsOK.mk rfl | (simp only [lenW] <;> omega)) only [hil, hiE, hLr, hgp, hclr, head_ints hg1, wordsN, Int.reduceGT, wordsR, ne_eq, wS_regionP, aAppend_slF, words, Nat.reduceAdd, Nat.reduceEqDiff, Nat.reduceBEq, ↓reduceIte, reduceCtorEq, SX.exit.injEq, if_true, if_false, Int.reduceAdd, Int.reduceSub, Int.reduceMul, Int.reduceLT, Int.reduceLE, Int.reduceEq, Int.reduceNe, Int.reduceNeg, Int.reduceToNat, Nat.reduceMul, Nat.reduceLT, Nat.reduceSub, Nat.reduceLeDiff]
        refine cp h65 ?_
        simp (maxSteps := 1000000) (disch := first | omega | exact PairsOK.mk rfl | (simp only [lenW] <;> omega)) only [hil, hiE, hLr, hgp, hclr, head_ints hg1, hgne, hQ, hN, wordsN, Int.reduceGT, wordsR, ne_eq, wS_regionP, aAppend_slF, words, Nat.reduceAdd, Nat.reduceEqDiff, Nat.reduceBEq, ↓reduceIte, reduceCtorEq, SX.exit.injEq, if_true, if_false, Int.reduceAdd, Int.reduceSub, Int.reduceMul, Int.reduceLT, Int.reduceLE, Int.reduceEq, Int.reduceNe, Int.reduceNeg, Int.reduceToNat, Nat.reduceMul, Nat.reduceLT, Nat.reduceSub, Nat.reduceLeDiff]
        exact ⟨(i + 1, N), by dsimp only; omega, ⟨by dsimp only; omega, s1, s4, hdone⟩, ⟨[(50, .blk 50 0), (51, .blk 51 0)], rfl, au0, au5, au4⟩⟩
      · have e : i = pv.length := by omega
        simp (maxSteps := 1000000) (disch := first | omega | exact PairsOK.mk rfl | (simp only [lenW] <;> omega)) only [hil, wordsN, Int.reduceGT, wordsR, ne_eq, wS_regionP, aAppend_slF, words, Nat.reduceAdd, Nat.reduceEqDiff, Nat.reduceBEq, ↓reduceIte, reduceCtorEq, SX.exit.injEq, if_true, if_false, Int.reduceAdd, Int.reduceSub, Int.reduceMul, Int.reduceLT, Int.reduceLE, Int.reduceEq, Int.reduceNe, Int.reduceNeg, Int.reduceToNat, Nat.reduceMul, Nat.reduceLT, Nat.reduceSub, Nat.reduceLeDiff]
        exact ⟨F, ⟨hF0, hFb, by rw [← e]; exact hFd⟩, ⟨[(50, .blk 50 0), (51, .blk 51 0)], rfl, au0, au5, au4⟩⟩
    rintro F0 ⟨hF0, hF0b, hF0d⟩
    have hmax : ∃ F : Int, 0 < F ∧ F ≤ 768 ∧ (if F0 < 0 - F0 then 0 - F0 else F0) = F ∧ ∀ j, j < pv.length → ld L j (cl f j) ∣ F := by
      split
      · exact ⟨0 - F0, by omega, by omega, rfl, fun j hj => by rw [Int.zero_sub]; exact Int.dvd_neg.2 (hF0d j hj)⟩
      · exact ⟨F0, by omega, by omega, rfl, hF0d⟩
    obtain ⟨F, hF1, hF2, hFe, hFd⟩ := hmax
    have hb0 : -9223372036854775808 ≤ 0 - F0 ∧ 0 - F0 ≤ 9223372036854775807 := by omega
    have hk8 : (8 : Int) * (n : Int) ≤ 1099511627776 := by omega
    have hk1 : (n : Int) ≤ 1099511627776 := by omega
    have hfn : f < n := by omega
    have hf1 : f + 1 ≤ n := hfn
    have hset0 : ∀ v, (rowF n fun _ => 0).set f (.int .i64 v) = rowF n (fun j => if j = f then v else 0) := fun v => rowF_set _ v
    simp (maxSteps := 1000000) (disch := first | omega | exact PairsOK.mk rfl | (simp only [lenW] <;> omega)) only [aMax, hFe, hcl, hn, hk8, hk1, rowF_zero, hfn, hf1, rowF_len, hset0, wordsN, Int.reduceGT, wordsR, ne_eq, wS_regionP, aAppend_slF, words, Nat.reduceAdd, Nat.reduceEqDiff, Nat.reduceBEq, ↓reduceIte, reduceCtorEq, SX.exit.injEq, if_true, if_false, Int.reduceAdd, Int.reduceSub, Int.reduceMul, Int.reduceLT, Int.reduceLE, Int.reduceEq, Int.reduceNe, Int.reduceNeg, Int.reduceToNat, Nat.reduceMul, Nat.reduceLT, Nat.reduceSub, Nat.reduceLeDiff]
    have hicl : ∀ c i, c ≠ f → ic f c = i → c = cl f i := fun c i hc h => by
      subst h
      unfold cl ic
      by_cases e : c < f
      · rw [if_pos e, if_pos e]
      · rw [if_neg e, if_neg (by omega)]; omega
    have hyb : ∀ c, (yv L f F c).natAbs ≤ big := fun c => by
      unfold yv
      split
      · unfold big; omega
      · have h1 : ((ld L (ic f c) f * F).tdiv (ld L (ic f c) c)).natAbs ≤ (ld L (ic f c) f * F).natAbs := by rw [Int.natAbs_tdiv]; exact Nat.div_le_self _ _
        have h2 := mul_bd (hld2 (ic f c) f) (show F.natAbs ≤ 768 by omega)
        unfold big; omega
    refine wS_loopX 1800 (fun i : Nat => [(6, .sl 50 0 0 E 1), (10, .sl 51 0 0 pv.length 1), (19, .int .i64 f), (21, .int .i64 F), (23, .sl 52 0 0 n 1), (24, .int .i64 i)])
      (fun i => [(50, .cells 0 (L.map sli)), (51, .cells 0 (ints (colI pv))), (52, .cells 0 (rowF n fun c => if c = f then F else if ic f c < i then yv L f F c else 0))]) (fun i => i ≤ pv.length) (fun i => pv.length - i) 0 16 1900
      (fun _ : Unit => [(23, .sl 52 0 0 n 1)]) (fun _ => [(52, .cells 0 (rowF n (yv L f F)))]) (fun _ => True) ?_ (Nat.zero_le _) ?_ ?_
    · refine ⟨[(50, .blk 50 0), (51, .blk 51 0), (52, .blk 1707 0)], rfl, au0, ?_, au4⟩
      refine RB.cells rfl rfl rfl (RnL.same (noRefs_lsts _)) (RB.cells rfl rfl rfl (RnL.same (noRefs_ints _)) (RB.cells rfl rfl rfl (RnL.eq (rowF_congr fun c _ => ?_) (noRefs_rowF _ _)) RB.nil))
      by_cases e : c = f
      · rw [if_pos e, if_pos e]
      · rw [if_neg e, if_neg (Nat.not_lt_zero _), if_neg e]
    · intro i hi
      by_cases hil : i < pv.length
      · obtain ⟨r, hr, hrn, hgp, hcln, hgr⟩ := hrowi i hil
        have hLr := sli_get hr
        have hg1 := hgr _ hcln
        have hg2 := hgr _ hfn
        have hpne := hEF.pne hil
        have hiE : i < E := by omega
        have hclr : cl f i < r.length := by omega
        have hfr : f < r.length := by omega
        have hyv : 0 - (ld L i f * F).tdiv (ld L i (cl f i)) = yv L f F (cl f i) := by
          unfold yv; rw [if_neg (cl_ne f i), ic_cl]
        have hyb1 := hyb (cl f i)
        have h1 : ((ld L i f * F).tdiv (ld L i (cl f i))).natAbs ≤ (ld L i f * F).natAbs := by rw [Int.natAbs_tdiv]; exact Nat.div_le_self _ _
        have h2 := mul_bd (hld2 i f) (show F.natAbs ≤ 768 by omega)
        have hset : ∀ v, (rowF n fun c => if c = f then F else if ic f c < i then yv L f F c else 0).set (cl f i) (.int .i64 v) = rowF n (fun c => if c = cl f i then v else if c = f then F else if ic f c < i then yv L f F c else 0) := fun v => rowF_set _ v
        have hc1 : cl f i + 1 ≤ n := hcln
        generalize hA : ld L i f * F = A at h1 h2 hyv
        generalize hT : A.tdiv (ld L i (cl f i)) = T at h1 hyv
        have b1 : -9223372036854775808 ≤ A ∧ A ≤ 9223372036854775807 := by omega
        have b2 : -9223372036854775808 ≤ T ∧ T ≤ 9223372036854775807 := by omega
        have b3 : -9223372036854775808 ≤ 0 - T ∧ 0 - T ≤ 9223372036854775807 := by omega
        simp (maxSteps := 1000000) (disch := first | omega | exact PairsOK.mk rfl | (simp only [lenW] <;> omega)) only [hil, hiE, hLr, hgp, hclr, hfr, head_ints hg1, head_ints hg2, hpne, hA, hT, hset, rowF_len, hc1, hcln, wordsN, Int.reduceGT, wordsR, ne_eq, wS_regionP, aAppend_slF, words, Nat.reduceAdd, Nat.reduceEqDiff, Nat.reduceBEq, ↓reduceIte, reduceCtorEq, SX.exit.injEq, if_true, if_false, Int.reduceAdd, Int.reduceSub, Int.reduceMul, Int.reduceLT, Int.reduceLE, Int.reduceEq, Int.reduceNe, Int.reduceNeg, Int.reduceToNat, Nat.reduceMul, Nat.reduceLT, Nat.reduceSub, Nat.reduceLeDiff]
        refine ⟨i + 1, by omega, by omega, ?_⟩
        refine ⟨[(50, .blk 50 0), (51, .blk 51 0), (52, .blk 52 0)], rfl, au0, ?_, au4⟩
        refine RB.cells rfl rfl rfl (RnL.same (noRefs_lsts _)) (RB.cells rfl rfl rfl (RnL.same (noRefs_ints _)) (RB.cells rfl rfl rfl (RnL.eq (rowF_congr fun c _ => ?_) (noRefs_rowF _ _)) RB.nil))
        by_cases e : c = f
        · rw [if_pos e, if_neg (show ¬ c = cl f i from fun h => cl_ne f i (by rw [← h]; exact e)), if_pos e]
        · rw [if_neg e]
          by_cases e2 : c = cl f i
          · rw [if_pos e2, if_pos (by rw [e2, ic_cl]; omega), hyv, e2]
          · rw [if_neg e2, if_neg e]
            by_cases e3 : ic f c < i
            · rw [if_pos e3, if_pos (by omega)]
            · rw [if_neg e3, if_neg (by
                intro h
                exact e2 (hicl c i e (by omega)))]
      · have e : i = pv.length := by omega
        simp (maxSteps := 1000000) (disch := first | omega | exact PairsOK.mk rfl | (simp only [lenW] <;> omega)) only [hil, wordsN, Int.reduceGT, wordsR, ne_eq, wS_regionP, aAppend_slF, words, Nat.reduceAdd, Nat.reduceEqDiff, Nat.reduceBEq, ↓reduceIte, reduceCtorEq, SX.exit.injEq, if_true, if_false, Int.reduceAdd, Int.reduceSub, Int.reduceMul, Int.reduceLT, Int.reduceLE, Int.reduceEq, Int.reduceNe, Int.reduceNeg, Int.reduceToNat, Nat.reduceMul, Nat.reduceLT, Nat.reduceSub, Nat.reduceLeDiff]
        refine ⟨(), ?_⟩
        refine ⟨[(52, .blk 52 0)], rfl, au0, ?_, au4⟩
        refine RB.cells rfl rfl rfl (RnL.eq (rowF_congr fun c hc => ?_) (noRefs_rowF _ _)) RB.nil
        by_cases e1 : c = f
        · rw [if_pos e1]; unfold yv; rw [if_pos e1]
        · rw [if_neg e1, if_pos (by unfold ic; split <;> omega)]
    rintro _ -
    simp (maxSteps := 1000000) (disch := first | omega | exact PairsOK.mk rfl | (simp only [lenW] <;> omega)) only [wordsN, Int.reduceGT, wordsR, ne_eq, wS_regionP, aAppend_slF, words, Nat.reduceAdd, Nat.reduceEqDiff, Nat.reduceBEq, ↓reduceIte, reduceCtorEq, SX.exit.injEq, if_true, if_false, Int.reduceAdd, Int.reduceSub, Int.reduceMul, Int.reduceLT, Int.reduceLE, Int.reduceEq, Int.reduceNe, Int.reduceNeg, Int.reduceToNat, Nat.reduceMul, Nat.reduceLT, Nat.reduceSub, Nat.reduceLeDiff]
    refine wS_loopX 2000 (fun i : Nat => [(23, .sl 52 0 0 n 1), (25, .int .i64 i)]) (fun _ => [(52, .cells 0 (rowF n (yv L f F)))]) (fun i => i ≤ n ∧ ∀ c, c < i → 0 < yv L f F c) (fun i => n - i) 0 18 2100
      (fun _ : Unit => [(23, sli ((List.range n).map (yv L f F)))]) (fun _ => []) (fun _ => ∀ c, c < n → 0 < yv L f F c) ⟨[(52, .blk 52 0)], rfl, au0, au5, au4⟩ ⟨Nat.zero_le _, fun j hj => absurd hj (Nat.not_lt_zero _)⟩ ?_ ?_
    · rintro i ⟨hi, hb⟩
      by_cases hil : i < n
      · have hg := rowF_get (yv L f F) hil
        by_cases h0 : yv L f F i ≤ 0
        · simp (maxSteps := 1000000) (disch := first | omega | exact PairsOK.mk rfl | (simp only [lenW] <;> omega)) only [hil, hg, h0, wordsN, Int.reduceGT, wordsR, ne_eq, wS_regionP, aAppend_slF, words, Nat.reduceAdd, Nat.reduceEqDiff, Nat.reduceBEq, ↓reduceIte, reduceCtorEq, SX.exit.injEq, if_true, if_false, Int.reduceAdd, Int.reduceSub, Int.reduceMul, Int.reduceLT, Int.reduceLE, Int.reduceEq, Int.reduceNe, Int.reduceNeg, Int.reduceToNat, Nat.reduceMul, Nat.reduceLT, Nat.reduceSub, Nat.reduceLeDiff]
          exact ⟨.inr trivial, _, rfl, hnone (sol_none hEF hn.symm hFd hF1 hil h0) _⟩
        · simp (maxSteps := 1000000) (disch := first | omega | exact PairsOK.mk rfl | (simp only [lenW] <;> omega)) only [hil, hg, h0, wordsN, Int.reduceGT, wordsR, ne_eq, wS_regionP, aAppend_slF, words, Nat.reduceAdd, Nat.reduceEqDiff, Nat.reduceBEq, ↓reduceIte, reduceCtorEq, SX.exit.injEq, if_true, if_false, Int.reduceAdd, Int.reduceSub, Int.reduceMul, Int.reduceLT, Int.reduceLE, Int.reduceEq, Int.reduceNe, Int.reduceNeg, Int.reduceToNat, Nat.reduceMul, Nat.reduceLT, Nat.reduceSub, Nat.reduceLeDiff]
          refine ⟨i + 1, by omega, ⟨by omega, fun c hc => ?_⟩, ⟨[(52, .blk 52 0)], rfl, au0, au5, au4⟩⟩
          by_cases e : c = i
          · rw [e]; omega
          · exact hb c (by omega)
      · have e : i = n := by omega
        simp (maxSteps := 1000000) (disch := first | omega | exact PairsOK.mk rfl | (simp only [lenW] <;> omega)) only [hil, wordsN, Int.reduceGT, wordsR, ne_eq, wS_regionP, aAppend_slF, words, Nat.reduceAdd, Nat.reduceEqDiff, Nat.reduceBEq, ↓reduceIte, reduceCtorEq, SX.exit.injEq, if_true, if_false, Int.reduceAdd, Int.reduceSub, Int.reduceMul, Int.reduceLT, Int.reduceLE, Int.reduceEq, Int.reduceNe, Int.reduceNeg, Int.reduceToNat, Nat.reduceMul, Nat.reduceLT, Nat.reduceSub, Nat.reduceLeDiff]
        refine ⟨(), by rw [← e]; exact hb, ⟨[], rfl, RO.zero, trivial, RT.cons' rfl ?_ RT.nil⟩⟩
        show Rn 0 _ _ (.fsl (rowF n (yv L f F)) ((List.range n).map (yv L f F)).length 1) _
        exact Rn.fzm rfl rfl rfl (by simp) (by rw [rowF_len, Nat.mul_one]) (RnL.same (noRefs_rowF _ _))
    rintro _ hpos
    have G := sol_some hEF hn.symm hFd hF1 hpos
    have hsol := solR_gen (by omega) (by omega) G
    have h64 := reduced64 ((List.range n).map (yv L f F)) (by simp; omega) (fun x hx => by
      obtain ⟨c, _, rfl⟩ := List.mem_map.1 hx; exact hyb c)
    have hre : (List.range set.length).map (fun c => (redR ((List.range n).map (yv L f F))).getD c 0) = redR ((List.range n).map (yv L f F)) := by
      have hl : (redR ((List.range n).map (yv L f F))).length = n := by rw [redR_len]; simp
      rw [hn]
      refine List.ext_getElem? fun j => ?_
      by_cases hj : j < n
      · rw [List.getElem?_map, List.getElem?_range hj, getD_of (c := j) (by omega)]; rfl
      · rw [List.getElem?_eq_none (by simp; omega), List.getElem?_eq_none (by omega)]
    rw [hre] at hsol
    rw [hsol]
    simp (maxSteps := 1000000) (disch := first | omega | exact PairsOK.mk rfl | (simp only [lenW] <;> omega)) only [wordsN, Int.reduceGT, wordsR, ne_eq, wS_regionP, aAppend_slF, words, Nat.reduceAdd, Nat.reduceEqDiff, Nat.reduceBEq, ↓reduceIte, reduceCtorEq, SX.exit.injEq, if_true, if_false, Int.reduceAdd, Int.reduceSub, Int.reduceMul, Int.reduceLT, Int.reduceLE, Int.reduceEq, Int.reduceNe, Int.reduceNeg, Int.reduceToNat, Nat.reduceMul, Nat.reduceLT, Nat.reduceSub, Nat.reduceLeDiff]
    refine cp h64 ?_
    simp (maxSteps := 1000000) (disch := first | omega | exact PairsOK.mk rfl | (simp only [lenW] <;> omega)) only [wordsN, Int.reduceGT, wordsR, ne_eq, wS_regionP, aAppend_slF, words, Nat.reduceAdd, Nat.reduceEqDiff, Nat.reduceBEq, ↓reduceIte, reduceCtorEq, SX.exit.injEq, if_true, if_false, Int.reduceAdd, Int.reduceSub, Int.reduceMul, Int.reduceLT, Int.reduceLE, Int.reduceEq, Int.reduceNe, Int.reduceNeg, Int.reduceToNat, Nat.reduceMul, Nat.reduceLT, Nat.reduceSub, Nat.reduceLeDiff]
    refine ⟨.inr trivial, _, rfl, Rn.same ?_⟩
    show noRef (.tup [sli _, .bool true]) = true
    simp only [noRef, noRefs, noRefs_ints]; rfl
  · have hm' : ¬ (pv.length : Int) = (n : Int) - 1 := by omega
    simp (maxSteps := 1000000) (disch := first | omega | exact PairsOK.mk rfl | (simp only [lenW] <;> omega)) only [hcl, hn, hm', wordsN, Int.reduceGT, wordsR, ne_eq, wS_regionP, aAppend_slF, words, Nat.reduceAdd, Nat.reduceEqDiff, Nat.reduceBEq, ↓reduceIte, reduceCtorEq, SX.exit.injEq, if_true, if_false, Int.reduceAdd, Int.reduceSub, Int.reduceMul, Int.reduceLT, Int.reduceLE, Int.reduceEq, Int.reduceNe, Int.reduceNeg, Int.reduceToNat, Nat.reduceMul, Nat.reduceLT, Nat.reduceSub, Nat.reduceLeDiff]
    exact ⟨.inr trivial, _, rfl, hnone (noGen_len hn.symm hn0 hEI hm) _⟩
end Go.AM.SN
namespace Go.AM.SN
open Go.Proofs
set_option maxRecDepth 100000
set_option linter.unusedSimpArgs false
set_option linter.unusedVariables false
theorem Rn.nilK {m : Nat} {π : Nat → Option Src} {h : Heap} {sz : Nat} : Rn m π h (.fsl [] 0 sz) .nilsl := fun c w v H M hv => by
  simp only [VRel] at hv
  subst hv
  simp [VRel]
theorem setsF_len : ∀ (s c a b : Nat), (setsF s c a).length = (setsF s c b).length
  | 0, _, _, _ => by simp [setsF]
  | s + 1, 0, _, _ => by simp [setsF]
  | s + 1, c + 1, a, b => by
    simp only [setsF, List.length_append, List.length_map]
    rw [setsF_len s c (a + 1) (b + 1), setsF_len (s + 1) c (a + 1) (b + 1)]
theorem setsF_ten {s c : Nat} (a : Nat) (hs : s < 6) (hc : c < 6) : (setsF s c a).length ≤ 10 := by
  rw [setsF_len s c a 0]; exact sets_small c hc s hs
theorem setsF_mlen : ∀ (s c a : Nat), ∀ x ∈ setsF s c a, x.length = s
  | 0, _, _, x, hx => by simp [setsF] at hx; simp [hx]
  | s + 1, 0, _, x, hx => by simp [setsF] at hx
  | s + 1, c + 1, a, x, hx => by
    simp only [setsF] at hx
    rcases List.mem_append.1 hx with hx | hx
    · obtain ⟨y, hy, rfl⟩ := List.mem_map.1 hx
      simp [setsF_mlen s c (a + 1) y hy]
    · exact setsF_mlen (s + 1) c (a + 1) x hx
abbrev nlsts (l : List (List Nat)) : AV := lsts (l.map colI)
theorem colI_cons (a : Nat) (l : List Nat) : colI (a :: l) = (a : Int) :: colI l := rfl
set_option maxHeartbeats 8000000 in
theorem sets42 : ∀ (s c a : Nat), s < 6 → a + c < 6 → PSpec Try.prog 42 [.int .i64 a, .int .i64 ((a + c : Nat) : Int), .int .i64 s] (nlsts (setsF s c a)) := by
  intro s
  induction s with
  | zero =>
    intro c a _ hac
    refine PSpec.of_rn 64 SJ.ok42 rfl rfl (noRef_lsts _) ?_
    simp (maxSteps := 1000000) (disch := first | omega | exact PairsOK.mk rfl | (simp only [lenW] <;> omega)) only [SJ.s42, wordsN, Int.reduceGT, wordsR, ne_eq, wS_regionP, aAppend_slF, words, Nat.reduceAdd, Nat.reduceEqDiff, Nat.reduceBEq, ↓reduceIte, reduceCtorEq, SX.exit.injEq, if_true, if_false, Int.reduceAdd, Int.reduceSub, Int.reduceMul, Int.reduceLT, Int.reduceLE, Int.reduceEq, Int.reduceNe, Int.reduceNeg, Int.reduceToNat, Nat.reduceMul, Nat.reduceLT, Nat.reduceSub, Nat.reduceLeDiff]
    refine ⟨.inr trivial, _, rfl, ?_⟩
    rw [show setsF 0 c a = [[]] by simp [setsF]]
    show Rn 0 π0 _ (.fsl [sli []] 1 1) _
    exact Rn.fz0 rfl rfl (RnL.cons Rn.nilK RnL.nil)
  | succ s ih =>
    intro c a hs hac
    have hc : c < 6 := by omega
    have ha : a ≤ 6 := by omega
    refine PSpec.of_rn 64 SJ.ok42 rfl rfl (noRef_lsts _) ?_
    have hs0 : ¬ ((s + 1 : Nat) : Int) = 0 := by omega
    have hs0' : ¬ (s : Int) + 1 = 0 := by omega
    simp (maxSteps := 1000000) (disch := first | omega | exact PairsOK.mk rfl | (simp only [lenW] <;> omega)) only [SJ.s42, hs0, hs0', wordsN, Int.reduceGT, wordsR, ne_eq, wS_regionP, aAppend_slF, words, Nat.reduceAdd, Nat.reduceEqDiff, Nat.reduceBEq, ↓reduceIte, reduceCtorEq, SX.exit.injEq, if_true, if_false, Int.reduceAdd, Int.reduceSub, Int.reduceMul, Int.reduceLT, Int.reduceLE, Int.reduceEq, Int.reduceNe, Int.reduceNeg, Int.reduceToNat, Nat.reduceMul, Nat.reduceLT, Nat.reduceSub, Nat.reduceLeDiff]
    refine wS_loopX 100 (fun q : Nat × List (List Nat) => [(1, .int .i64 ((a + c : Nat) : Int)), (2, .int .i64 ((s + 1 : Nat) : Int)), (7, .sl 50 0 0 q.2.length 1), (8, .int .i64 ((a + q.1 : Nat) : Int))]) (fun q => [(50, .cells 0 ((q.2.map colI).map sli))])
      (fun q => q.1 ≤ c ∧ setsF (s + 1) c a = q.2 ++ setsF (s + 1) (c - q.1) (a + q.1)) (fun q => c - q.1) (0, []) 0 200
      (fun _ : Unit => [(7, nlsts (setsF (s + 1) c a))]) (fun _ => []) (fun _ => True) ?_ ⟨Nat.zero_le _, rfl⟩ ?_ ?_
    · refine ⟨[(50, .nil)], rfl, au0, ?_, au4⟩
      exact RB.newnil rfl rfl RB.nil
    · rintro ⟨j, acc⟩ ⟨hj, hacc⟩
      dsimp only at hj hacc
      have hal : acc.length ≤ 10 := by
        have := setsF_ten (s := s + 1) (c := c) a hs hc
        rw [hacc, List.length_append] at this; omega
      by_cases hjc : j < c
      · have hjc' : ((a + j : Nat) : Int) < ((a + c : Nat) : Int) := by omega
        have hjc2 : (a : Int) + j < (a : Int) + c := by omega
        obtain ⟨m, hm⟩ : ∃ m, c - j = m + 1 := ⟨c - j - 1, by omega⟩
        have hI := ih m (a + j + 1) (by omega) (by omega)
        rw [show a + j + 1 + m = a + c by omega] at hI
        have hsf : setsF (s + 1) (c - j) (a + j) = (setsF s m (a + j + 1)).map ((a + j) :: ·) ++ setsF (s + 1) m (a + j + 1) := by rw [hm, setsF]
        have hl1 := setsF_ten (s := s) (c := m) (a + j + 1) (by omega) (by omega)
        have hml := setsF_mlen s m (a + j + 1)
        generalize setsF s m (a + j + 1) = Ls at hI hsf hl1 hml
        have hsub : (((s + 1 : Nat) : Int) - 1) = ((s : Nat) : Int) := by omega
        have hsub2 : ((s : Int) + 1 - 1) = (s : Int) := by omega
        have hadd : (((a + j : Nat) : Int) + 1) = ((a + j + 1 : Nat) : Int) := by omega
        have hI2 : PSpec Try.prog 42 [.int .i64 ((a : Int) + j + 1), .int .i64 ((a : Int) + c), .int .i64 s] (nlsts Ls) := by
          have e1 : (a : Int) + j + 1 = ((a + j + 1 : Nat) : Int) := by omega
          have e2 : (a : Int) + c = ((a + c : Nat) : Int) := by omega
          rw [e1, e2]; exact hI
        simp (maxSteps := 1000000) (disch := first | omega | exact PairsOK.mk rfl | (simp only [lenW] <;> omega)) only [hjc', hjc2, hsub, hsub2, wordsN, Int.reduceGT, wordsR, ne_eq, wS_regionP, aAppend_slF, words, Nat.reduceAdd, Nat.reduceEqDiff, Nat.reduceBEq, ↓reduceIte, reduceCtorEq, SX.exit.injEq, if_true, if_false, Int.reduceAdd, Int.reduceSub, Int.reduceMul, Int.reduceLT, Int.reduceLE, Int.reduceEq, Int.reduceNe, Int.reduceNeg, Int.reduceToNat, Nat.reduceMul, Nat.reduceLT, Nat.reduceSub, Nat.reduceLeDiff]
        refine cp hI2 ?_
        simp (maxSteps := 1000000) (disch := first | omega | exact PairsOK.mk rfl | (simp only [lenW] <;> omega)) only [wordsN, Int.reduceGT, wordsR, ne_eq, wS_regionP, aAppend_slF, words, Nat.reduceAdd, Nat.reduceEqDiff, Nat.reduceBEq, ↓reduceIte, reduceCtorEq, SX.exit.injEq, if_true, if_false, Int.reduceAdd, Int.reduceSub, Int.reduceMul, Int.reduceLT, Int.reduceLE, Int.reduceEq, Int.reduceNe, Int.reduceNeg, Int.reduceToNat, Nat.reduceMul, Nat.reduceLT, Nat.reduceSub, Nat.reduceLeDiff]
        refine wS_loopX 300 (fun k : Nat => [(1, .int .i64 ((a + c : Nat) : Int)), (2, .int .i64 ((s + 1 : Nat) : Int)), (7, .sl 50 0 0 (acc.length + k) 1), (8, .int .i64 ((a + j : Nat) : Int)), (9, nlsts Ls), (10, .int .i64 k)]) (fun k => [(50, .cells 0 (((acc ++ (Ls.take k).map ((a + j) :: ·)).map colI).map sli))])
          (fun k => k ≤ Ls.length) (fun k => Ls.length - k) 0 2 400
          (fun _ : Unit => [(1, .int .i64 ((a + c : Nat) : Int)), (2, .int .i64 ((s + 1 : Nat) : Int)), (7, .sl 50 0 0 (acc.length + Ls.length) 1), (8, .int .i64 ((a + j : Nat) : Int))]) (fun _ => [(50, .cells 0 (((acc ++ Ls.map ((a + j) :: ·)).map colI).map sli))]) (fun _ => True) ?_ (Nat.zero_le _) ?_ ?_
        · refine ⟨[(50, .blk 50 0)], rfl, au0, ?_, au4⟩
          refine RB.cells rfl rfl rfl (RnL.eq (by rw [List.take_zero, List.map_nil, List.append_nil]) (noRefs_lsts _)) RB.nil
        · intro k hk
          by_cases hkl : k < Ls.length
          · obtain ⟨x, hx⟩ := get_ex hkl
            have hxl := hml x (List.mem_of_getElem? hx)
            have hxg : (Ls.map colI)[k]? = some (colI x) := by rw [List.getElem?_map, hx]; rfl
            have hone : (ints (colI x)).all AV.one = true := by rw [ints, List.all_map]; simp [AV.one]
            have hxc := colI_len x
            have hlc : ((acc ++ (Ls.take k).map ((a + j) :: ·)).map colI).length = acc.length + k := by rw [List.length_map, List.length_append, List.length_map, List.length_take]; omega
            have htk : (acc ++ (Ls.take (k + 1)).map ((a + j) :: ·)) = (acc ++ (Ls.take k).map ((a + j) :: ·)) ++ [(a + j) :: x] := by
              rw [List.take_add_one, hx, List.map_append, ← List.append_assoc]; rfl
            generalize acc ++ (Ls.take k).map ((a + j) :: ·) = acc2 at htk hlc
            have hal2 : acc2.length = acc.length + k := by have h := hlc; rw [List.length_map] at h; exact h
            simp (maxSteps := 1000000) (disch := first | omega | exact PairsOK.mk rfl | (simp only [lenW] <;> omega)) only [hkl, head_lsts hxg, hone, hxc, hlc, hal2, ints_len, wordsN, Int.reduceGT, wordsR, ne_eq, wS_regionP, aAppend_slF, words, Nat.reduceAdd, Nat.reduceEqDiff, Nat.reduceBEq, ↓reduceIte, reduceCtorEq, SX.exit.injEq, if_true, if_false, Int.reduceAdd, Int.reduceSub, Int.reduceMul, Int.reduceLT, Int.reduceLE, Int.reduceEq, Int.reduceNe, Int.reduceNeg, Int.reduceToNat, Nat.reduceMul, Nat.reduceLT, Nat.reduceSub, Nat.reduceLeDiff]
            refine ⟨k + 1, by omega, by omega, ?_⟩
            refine ⟨[(50, .blk 50 1)], rfl, au0, ?_, au4⟩
            refine RB.cells rfl rfl rfl ?_ RB.nil
            rw [htk, List.map_append, List.map_append]
            refine RnL.append (RnL.same (noRefs_lsts _)) (RnL.cons ?_ RnL.nil)
            show Rn 0 _ _ (.fsl (ints (colI ((a + j) :: x))) (colI ((a + j) :: x)).length 1) _
            refine Rn.fzm rfl rfl rfl (by rw [colI_len]; simp [Nat.add_comm]) (by rw [List.length_cons, ints_len, hxc]; omega) (RnL.eq ?_ (noRefs_ints _))
            rw [colI_cons]; rfl
          · simp (maxSteps := 1000000) (disch := first | omega | exact PairsOK.mk rfl | (simp only [lenW] <;> omega)) only [hkl, wordsN, Int.reduceGT, wordsR, ne_eq, wS_regionP, aAppend_slF, words, Nat.reduceAdd, Nat.reduceEqDiff, Nat.reduceBEq, ↓reduceIte, reduceCtorEq, SX.exit.injEq, if_true, if_false, Int.reduceAdd, Int.reduceSub, Int.reduceMul, Int.reduceLT, Int.reduceLE, Int.reduceEq, Int.reduceNe, Int.reduceNeg, Int.reduceToNat, Nat.reduceMul, Nat.reduceLT, Nat.reduceSub, Nat.reduceLeDiff]
            have e : k = Ls.length := by omega
            refine ⟨(), ?_⟩
            subst e
            refine ⟨[(50, .blk 50 0)], rfl, au0, ?_, au4⟩
            refine RB.cells rfl rfl rfl (RnL.eq (by rw [List.take_length]) (noRefs_lsts _)) RB.nil
        rintro _ -
        simp (maxSteps := 1000000) (disch := first | omega | exact PairsOK.mk rfl | (simp only [lenW] <;> omega)) only [wordsN, Int.reduceGT, wordsR, ne_eq, wS_regionP, aAppend_slF, words, Nat.reduceAdd, Nat.reduceEqDiff, Nat.reduceBEq, ↓reduceIte, reduceCtorEq, SX.exit.injEq, if_true, if_false, Int.reduceAdd, Int.reduceSub, Int.reduceMul, Int.reduceLT, Int.reduceLE, Int.reduceEq, Int.reduceNe, Int.reduceNeg, Int.reduceToNat, Nat.reduceMul, Nat.reduceLT, Nat.reduceSub, Nat.reduceLeDiff]
        refine ⟨(j + 1, acc ++ Ls.map ((a + j) :: ·)), by dsimp only; omega, ⟨by dsimp only; omega, ?_⟩, ?_⟩
        · dsimp only
          rw [hacc, hsf, ← List.append_assoc, show c - (j + 1) = m by omega, show a + (j + 1) = a + j + 1 by omega]
        · dsimp only
          rw [List.length_append, List.length_map]
          refine ⟨[(50, .blk 50 0)], rfl, au0, ?_, au4⟩
          exact RB.cells rfl rfl rfl (RnL.same (noRefs_lsts _)) RB.nil
      · have hjc' : ¬ ((a + j : Nat) : Int) < ((a + c : Nat) : Int) := by omega
        have hjc2 : ¬ (a : Int) + j < (a : Int) + c := by omega
        have e : j = c := by omega
        simp (maxSteps := 1000000) (disch := first | omega | exact PairsOK.mk rfl | (simp only [lenW] <;> omega)) only [hjc', hjc2, wordsN, Int.reduceGT, wordsR, ne_eq, wS_regionP, aAppend_slF, words, Nat.reduceAdd, Nat.reduceEqDiff, Nat.reduceBEq, ↓reduceIte, reduceCtorEq, SX.exit.injEq, if_true, if_false, Int.reduceAdd, Int.reduceSub, Int.reduceMul, Int.reduceLT, Int.reduceLE, Int.reduceEq, Int.reduceNe, Int.reduceNeg, Int.reduceToNat, Nat.reduceMul, Nat.reduceLT, Nat.reduceSub, Nat.reduceLeDiff]
        rw [e, Nat.sub_self, show setsF (s + 1) 0 (a + c) = [] by simp [setsF], List.append_nil] at hacc
        refine ⟨(), ⟨[], rfl, RO.zero, trivial, RT.cons' rfl ?_ RT.nil⟩⟩
        rw [hacc]
        show Rn 0 _ _ (.fsl ((acc.map colI).map sli) (acc.map colI).length 1) _
        exact Rn.fzm rfl rfl rfl (by simp) (by simp) (RnL.same (noRefs_lsts _))
    rintro _ -
    simp (maxSteps := 1000000) (disch := first | omega | exact PairsOK.mk rfl | (simp only [lenW] <;> omega)) only [wordsN, Int.reduceGT, wordsR, ne_eq, wS_regionP, aAppend_slF, words, Nat.reduceAdd, Nat.reduceEqDiff, Nat.reduceBEq, ↓reduceIte, reduceCtorEq, SX.exit.injEq, if_true, if_false, Int.reduceAdd, Int.reduceSub, Int.reduceMul, Int.reduceLT, Int.reduceLE, Int.reduceEq, Int.reduceNe, Int.reduceNeg, Int.reduceToNat, Nat.reduceMul, Nat.reduceLT, Nat.reduceSub, Nat.reduceLeDiff]
    exact ⟨.inr trivial, _, rfl, Rn.same (noRef_lsts _)⟩
end Go.AM.SN
namespace Go.AM.SN
open Go.Proofs
set_option maxRecDepth 100000
set_option linter.unusedSimpArgs false
set_option linter.unusedVariables false
def subs (a b : List Nat) : Bool := a.all fun x => b.any (· == x)
theorem within43 (a b : List Nat) (ha : a.length ≤ 1000) (hb : b.length ≤ 1000) : PSpec Try.prog 43 [sli (colI a), sli (colI b)] (.bool (subs a b)) := by
  refine PSpec.of_rn 64 SJ.ok43 rfl (by simp only [noRefs, noRef, noRefs_ints]; rfl) rfl ?_
  have hal := colI_len a
  have hbl := colI_len b
  simp (maxSteps := 1000000) (disch := first | omega | exact PairsOK.mk rfl | (simp only [lenW] <;> omega)) only [SJ.s43, wordsN, Int.reduceGT, wordsR, ne_eq, wS_regionP, aAppend_slF, words, Nat.reduceAdd, Nat.reduceEqDiff, Nat.reduceBEq, ↓reduceIte, reduceCtorEq, SX.exit.injEq, if_true, if_false, Int.reduceAdd, Int.reduceSub, Int.reduceMul, Int.reduceLT, Int.reduceLE, Int.reduceEq, Int.reduceNe, Int.reduceNeg, Int.reduceToNat, Nat.reduceMul, Nat.reduceLT, Nat.reduceSub, Nat.reduceLeDiff]
  refine wS_loopX 100 (fun i : Nat => [(0, sli (colI a)), (1, sli (colI b)), (5, .int .i64 i)]) (fun _ => []) (fun i => i ≤ a.length ∧ ∀ (j : Nat) x, j < i → a[j]? = some x → b.any (· == x) = true) (fun i => a.length - i) 0 0 200
    (fun _ : Unit => []) (fun _ => []) (fun _ => subs a b = true) ⟨[], rfl, au0, au5, au4⟩ ⟨Nat.zero_le _, fun j x hj => absurd hj (Nat.not_lt_zero _)⟩ ?_ ?_
  · rintro i ⟨hi, hbb⟩
    by_cases hil : i < a.length
    · obtain ⟨x, hx⟩ := get_ex hil
      have hgx := colI_get hx
      simp (maxSteps := 1000000) (disch := first | omega | exact PairsOK.mk rfl | (simp only [lenW] <;> omega)) only [hil, hal, wordsN, Int.reduceGT, wordsR, ne_eq, wS_regionP, aAppend_slF, words, Nat.reduceAdd, Nat.reduceEqDiff, Nat.reduceBEq, ↓reduceIte, reduceCtorEq, SX.exit.injEq, if_true, if_false, Int.reduceAdd, Int.reduceSub, Int.reduceMul, Int.reduceLT, Int.reduceLE, Int.reduceEq, Int.reduceNe, Int.reduceNeg, Int.reduceToNat, Nat.reduceMul, Nat.reduceLT, Nat.reduceSub, Nat.reduceLeDiff]
      refine wS_loopX 300 (fun k : Nat => [(0, sli (colI a)), (1, sli (colI b)), (5, .int .i64 i), (6, .bool ((b.take k).any (· == x))), (7, .int .i64 k)]) (fun _ => []) (fun k => k ≤ b.length) (fun k => b.length - k) 0 2 400
        (fun _ : Unit => [(0, sli (colI a)), (1, sli (colI b)), (5, .int .i64 i), (6, .bool (b.any (· == x)))]) (fun _ => []) (fun _ => True) ⟨[], rfl, au0, au5, au4⟩ (Nat.zero_le _) ?_ ?_
      · intro k hk
        by_cases hkl : k < b.length
        · obtain ⟨y, hy⟩ := get_ex hkl
          have hgy := colI_get hy
          have htk : (b.take (k + 1)).any (· == x) = ((b.take k).any (· == x) || (y == x)) := by
            rw [List.take_add_one, hy, List.any_append]; simp
          generalize (b.take k).any (· == x) = bb at htk
          cases bb with
          | true =>
            rw [Bool.true_or] at htk
            simp (maxSteps := 1000000) (disch := first | omega | exact PairsOK.mk rfl | (simp only [lenW] <;> omega)) only [hkl, hbl, hal, hil, head_ints hgx, head_ints hgy, wordsN, Int.reduceGT, wordsR, ne_eq, wS_regionP, aAppend_slF, words, Nat.reduceAdd, Nat.reduceEqDiff, Nat.reduceBEq, ↓reduceIte, reduceCtorEq, SX.exit.injEq, if_true, if_false, Int.reduceAdd, Int.reduceSub, Int.reduceMul, Int.reduceLT, Int.reduceLE, Int.reduceEq, Int.reduceNe, Int.reduceNeg, Int.reduceToNat, Nat.reduceMul, Nat.reduceLT, Nat.reduceSub, Nat.reduceLeDiff]
            exact ⟨k + 1, by omega, by omega, by rw [htk]; exact ⟨[], rfl, au0, au5, au4⟩⟩
          | false =>
            rw [Bool.false_or] at htk
            by_cases e : x = y
            · have e' : (x : Int) = (y : Int) := by omega
              rw [show (y == x) = true by simp [e]] at htk
              simp (maxSteps := 1000000) (disch := first | omega | exact PairsOK.mk rfl | (simp only [lenW] <;> omega)) only [hkl, hbl, hal, hil, head_ints hgx, head_ints hgy, e', wordsN, Int.reduceGT, wordsR, ne_eq, wS_regionP, aAppend_slF, words, Nat.reduceAdd, Nat.reduceEqDiff, Nat.reduceBEq, ↓reduceIte, reduceCtorEq, SX.exit.injEq, if_true, if_false, Int.reduceAdd, Int.reduceSub, Int.reduceMul, Int.reduceLT, Int.reduceLE, Int.reduceEq, Int.reduceNe, Int.reduceNeg, Int.reduceToNat, Nat.reduceMul, Nat.reduceLT, Nat.reduceSub, Nat.reduceLeDiff]
              exact ⟨k + 1, by omega, by omega, by rw [htk]; exact ⟨[], rfl, au0, au5, au4⟩⟩
            · have e' : ¬ (x : Int) = (y : Int) := by omega
              rw [show (y == x) = false by simp; exact fun h => e h.symm] at htk
              simp (maxSteps := 1000000) (disch := first | omega | exact PairsOK.mk rfl | (simp only [lenW] <;> omega)) only [hkl, hbl, hal, hil, head_ints hgx, head_ints hgy, e', wordsN, Int.reduceGT, wordsR, ne_eq, wS_regionP, aAppend_slF, words, Nat.reduceAdd, Nat.reduceEqDiff, Nat.reduceBEq, ↓reduceIte, reduceCtorEq, SX.exit.injEq, if_true, if_false, Int.reduceAdd, Int.reduceSub, Int.reduceMul, Int.reduceLT, Int.reduceLE, Int.reduceEq, Int.reduceNe, Int.reduceNeg, Int.reduceToNat, Nat.reduceMul, Nat.reduceLT, Nat.reduceSub, Nat.reduceLeDiff]
              exact ⟨k + 1, by omega, by omega, by rw [htk]; exact ⟨[], rfl, au0, au5, au4⟩⟩
        · have e : k = b.length := by omega
          simp (maxSteps := 1000000) (disch := first | omega | exact PairsOK.mk rfl | (simp only [lenW] <;> omega)) only [hkl, hbl, wordsN, Int.reduceGT, wordsR, ne_eq, wS_regionP, aAppend_slF, words, Nat.reduceAdd, Nat.reduceEqDiff, Nat.reduceBEq, ↓reduceIte, reduceCtorEq, SX.exit.injEq, if_true, if_false, Int.reduceAdd, Int.reduceSub, Int.reduceMul, Int.reduceLT, Int.reduceLE, Int.reduceEq, Int.reduceNe, Int.reduceNeg, Int.reduceToNat, Nat.reduceMul, Nat.reduceLT, Nat.reduceSub, Nat.reduceLeDiff]
          exact ⟨(), by rw [e, List.take_length]; exact ⟨[], rfl, au0, au5, au4⟩⟩
      rintro _ -
      cases hf : b.any (· == x) with
      | true =>
        simp (maxSteps := 1000000) (disch := first | omega | exact PairsOK.mk rfl | (simp only [lenW] <;> omega)) only [wordsN, Int.reduceGT, wordsR, ne_eq, wS_regionP, aAppend_slF, words, Nat.reduceAdd, Nat.reduceEqDiff, Nat.reduceBEq, ↓reduceIte, reduceCtorEq, SX.exit.injEq, if_true, if_false, Int.reduceAdd, Int.reduceSub, Int.reduceMul, Int.reduceLT, Int.reduceLE, Int.reduceEq, Int.reduceNe, Int.reduceNeg, Int.reduceToNat, Nat.reduceMul, Nat.reduceLT, Nat.reduceSub, Nat.reduceLeDiff]
        refine ⟨i + 1, by omega, ⟨by omega, fun j z hj hz => ?_⟩, ⟨[], rfl, au0, au5, au4⟩⟩
        by_cases e : j = i
        · subst e; rw [hx] at hz; cases hz; simpa using hf
        · simpa using hbb j z (by omega) hz
      | false =>
        have hs : subs a b = false := by
          rw [Bool.eq_false_iff]
          intro h
          have := List.all_eq_true.1 h x (List.mem_of_getElem? hx)
          rw [hf] at this; cases this
        rw [hs]
        simp (maxSteps := 1000000) (disch := first | omega | exact PairsOK.mk rfl | (simp only [lenW] <;> omega)) only [wordsN, Int.reduceGT, wordsR, ne_eq, wS_regionP, aAppend_slF, words, Nat.reduceAdd, Nat.reduceEqDiff, Nat.reduceBEq, ↓reduceIte, reduceCtorEq, SX.exit.injEq, if_true, if_false, Int.reduceAdd, Int.reduceSub, Int.reduceMul, Int.reduceLT, Int.reduceLE, Int.reduceEq, Int.reduceNe, Int.reduceNeg, Int.reduceToNat, Nat.reduceMul, Nat.reduceLT, Nat.reduceSub, Nat.reduceLeDiff]
        exact ⟨.inr trivial, _, rfl, Rn.same rfl⟩
    · simp (maxSteps := 1000000) (disch := first | omega | exact PairsOK.mk rfl | (simp only [lenW] <;> omega)) only [hil, hal, wordsN, Int.reduceGT, wordsR, ne_eq, wS_regionP, aAppend_slF, words, Nat.reduceAdd, Nat.reduceEqDiff, Nat.reduceBEq, ↓reduceIte, reduceCtorEq, SX.exit.injEq, if_true, if_false, Int.reduceAdd, Int.reduceSub, Int.reduceMul, Int.reduceLT, Int.reduceLE, Int.reduceEq, Int.reduceNe, Int.reduceNeg, Int.reduceToNat, Nat.reduceMul, Nat.reduceLT, Nat.reduceSub, Nat.reduceLeDiff]
      refine ⟨(), ?_, ⟨[], rfl, au0, au5, au4⟩⟩
      unfold subs
      rw [List.all_eq_true]
      intro x hx
      obtain ⟨j, hj, hjl⟩ := mem_at hx
      exact hbb j x (by omega) hj
  rintro _ hs
  rw [hs]
  simp (maxSteps := 1000000) (disch := first | omega | exact PairsOK.mk rfl | (simp only [lenW] <;> omega)) only [wordsN, Int.reduceGT, wordsR, ne_eq, wS_regionP, aAppend_slF, words, Nat.reduceAdd, Nat.reduceEqDiff, Nat.reduceBEq, ↓reduceIte, reduceCtorEq, SX.exit.injEq, if_true, if_false, Int.reduceAdd, Int.reduceSub, Int.reduceMul, Int.reduceLT, Int.reduceLE, Int.reduceEq, Int.reduceNe, Int.reduceNeg, Int.reduceToNat, Nat.reduceMul, Nat.reduceLT, Nat.reduceSub, Nat.reduceLeDiff]
  exact ⟨.inr trivial, _, rfl, Rn.same rfl⟩
abbrev Zt := List (List Nat × List Int)
def visZ (R : List (List Int)) (Z : Zt) (s : List Nat) : Zt :=
  if Z.any (fun z => subs z.1 s) = true then Z else
  match solR R s with
  | none => Z
  | some l => Z ++ [(s, l)]
def folZ (R : List (List Int)) (Z : Zt) (S : List (List Nat)) : Zt := S.foldl (visZ R) Z
def minZ (R : List (List Int)) (K : Nat) : Nat → Zt
  | 0 => []
  | m + 1 => folZ R (minZ R K m) (setsF (m + 1) K 0)
def conv (z : List Nat × List Int) : Flow := (supOf z.1, scat z.1 z.2)
def ZOk (K : Nat) (Z : Zt) : Prop := ∀ z ∈ Z, ∃ k, 0 < k ∧ k < 6 ∧ z.1 ∈ setsF k K 0
theorem subs_sup : ∀ K, K < 6 → ∀ k, k < 6 → ∀ j, j < 6 → ∀ a ∈ setsF k K 0, ∀ b ∈ setsF j K 0, decide (supOf a &&& supOf b = supOf a) = subs a b := by decide +kernel
theorem vis_conv {R : List (List Int)} {K : Nat} (hK : K < 6) {Z : Zt} (hZ : ZOk K Z) {s : List Nat} {j : Nat} (hj0 : 0 < j) (hj : j < 6) (hs : s ∈ setsF j K 0) : visitR R (Z.map conv) s = (visZ R Z s).map conv ∧ ZOk K (visZ R Z s) := by
  have e : (Z.map conv).any (fun f => decide (f.1 &&& supOf s = f.1)) = Z.any (fun z => subs z.1 s) := by
    rw [List.any_map]
    have : ∀ W : Zt, ZOk K W → W.any ((fun f : Flow => decide (f.1 &&& supOf s = f.1)) ∘ conv) = W.any (fun z => subs z.1 s) := by
      intro W
      induction W with
      | nil => intro _; rfl
      | cons z W ih =>
        intro hW
        obtain ⟨k, _, hk, hz⟩ := hW z (by simp)
        rw [List.any_cons, List.any_cons, ih fun w hw => hW w (by simp [hw])]
        congr 1
        exact subs_sup K hK k hk j hj z.1 hz s hs
    exact this Z hZ
  unfold visitR visZ solR
  rw [e]
  by_cases h1 : Z.any (fun z => subs z.1 s) = true
  · rw [if_pos h1, if_pos h1]; exact ⟨rfl, hZ⟩
  · rw [if_neg h1, if_neg h1]
    cases hk : kerR R s with
    | none => exact ⟨rfl, hZ⟩
    | some l =>
      dsimp only
      by_cases h2 : (l.any fun x => decide (x < 0)) = true
      · rw [if_pos h2, if_pos h2]; exact ⟨rfl, hZ⟩
      · rw [if_neg h2, if_neg h2]
        refine ⟨by rw [List.map_append]; rfl, fun z hz => ?_⟩
        rcases List.mem_append.1 hz with hz | hz
        · exact hZ z hz
        · simp at hz; subst hz; exact ⟨j, hj0, hj, hs⟩
theorem fol_conv {R : List (List Int)} {K : Nat} (hK : K < 6) {j : Nat} (hj0 : 0 < j) (hj : j < 6) : ∀ (S : List (List Nat)) (Z : Zt), ZOk K Z → (∀ s ∈ S, s ∈ setsF j K 0) → foldV R (Z.map conv) S = (folZ R Z S).map conv ∧ ZOk K (folZ R Z S)
  | [], Z, hZ, _ => ⟨rfl, hZ⟩
  | s :: S, Z, hZ, hS => by
    obtain ⟨h1, h2⟩ := vis_conv (R := R) hK hZ hj0 hj (hS s (by simp))
    have := fol_conv (R := R) hK hj0 hj S (visZ R Z s) h2 fun t ht => hS t (by simp [ht])
    rw [← h1] at this
    exact this
theorem min_conv {R : List (List Int)} {K : Nat} (hK : K < 6) : ∀ m, m < 6 → minF R K m = (minZ R K m).map conv ∧ ZOk K (minZ R K m)
  | 0, _ => ⟨rfl, fun z hz => by cases hz⟩
  | m + 1, hm => by
    obtain ⟨h1, h2⟩ := min_conv (R := R) hK m (by omega)
    have := fol_conv (R := R) hK (j := m + 1) (by omega) hm (setsF (m + 1) K 0) (minZ R K m) h2 fun s hs => hs
    rw [← h1] at this
    exact this
theorem minZ_okl {R : List (List Int)} {K : Nat} (hK : K < 6) {m : Nat} (hm : m < 5) {S : List (List Nat)} (hS : ∀ s ∈ S, s ∈ setsF (m + 1) K 0) {z : List Nat × List Int} (hz : z ∈ folZ R (minZ R K m) S) : z.1.length ≤ 5 ∧ ∃ k, 0 < k ∧ k < 6 ∧ z.1 ∈ setsF k K 0 := by
  obtain ⟨_, h2⟩ := min_conv (R := R) hK m (by omega)
  obtain ⟨_, h4⟩ := fol_conv (R := R) hK (j := m + 1) (by omega) (by omega) S (minZ R K m) h2 hS
  obtain ⟨k, h5, h6, h7⟩ := h4 z hz
  exact ⟨by have := setsF_mlen k K 0 z.1 h7; omega, k, h5, h6, h7⟩
theorem visZ_len (R : List (List Int)) (Z : Zt) (s : List Nat) : Z.length ≤ (visZ R Z s).length ∧ (visZ R Z s).length ≤ Z.length + 1 := by
  unfold visZ
  split
  · omega
  · split
    · omega
    · simp
theorem folZ_len (R : List (List Int)) : ∀ (S : List (List Nat)) (Z : Zt), (folZ R Z S).length ≤ Z.length + S.length
  | [], Z => by simp [folZ]
  | s :: S, Z => by
    have h1 := visZ_len R Z s
    have h2 := folZ_len R S (visZ R Z s)
    show (folZ R (visZ R Z s) S).length ≤ _
    rw [List.length_cons]; omega
theorem minZ_len {R : List (List Int)} {K : Nat} (hK : K < 6) : ∀ m, m < 6 → (minZ R K m).length ≤ 10 * m
  | 0, _ => by simp [minZ]
  | m + 1, hm => by
    have h1 := minZ_len (R := R) hK m (by omega)
    have h2 := folZ_len R (setsF (m + 1) K 0) (minZ R K m)
    have h3 := sets_small K hK (m + 1) hm
    unfold minZ; omega
theorem visZ_mem {R : List (List Int)} {Z : Zt} {s : List Nat} {z : List Nat × List Int} (h : z ∈ visZ R Z s) : z ∈ Z ∨ (z.1 = s ∧ solR R s = some z.2) := by
  unfold visZ at h
  split at h
  · exact .inl h
  · split at h
    · exact .inl h
    · rename_i l hl
      rcases List.mem_append.1 h with h | h
      · exact .inl h
      · simp at h; subst h; exact .inr ⟨rfl, hl⟩
theorem visZ_sub {R : List (List Int)} {Z : Zt} {s : List Nat} {z : List Nat × List Int} (h : z ∈ Z) : z ∈ visZ R Z s := by
  unfold visZ
  split
  · exact h
  · split
    · exact h
    · exact List.mem_append_left _ h
theorem folZ_sub {R : List (List Int)} {z : List Nat × List Int} : ∀ {S : List (List Nat)} {Z : Zt}, z ∈ Z → z ∈ folZ R Z S
  | [], Z, h => h
  | s :: S, Z, h => folZ_sub (S := S) (visZ_sub h)
theorem folZ_cov {R : List (List Int)} {s : List Nat} {l : List Int} (hl : solR R s = some l) (hss : subs s s = true) : ∀ {S : List (List Nat)} {Z : Zt}, s ∈ S → (folZ R Z S).any (fun z => subs z.1 s) = true
  | [], Z, h => by cases h
  | t :: S, Z, h => by
    rcases List.mem_cons.1 h with rfl | h
    · show (folZ R (visZ R Z s) S).any _ = true
      have : ∃ z ∈ visZ R Z s, subs z.1 s = true := by
        unfold visZ
        split
        · rename_i ha; obtain ⟨z, hz, h2⟩ := List.any_eq_true.1 ha; exact ⟨z, hz, h2⟩
        · rw [hl]; exact ⟨(s, l), by simp, hss⟩
      obtain ⟨z, hz, h2⟩ := this
      exact List.any_eq_true.2 ⟨z, folZ_sub hz, h2⟩
    · exact folZ_cov hl hss (S := S) (Z := visZ R Z t) h
theorem sol_single (c : Nat) : solR [] [c] = some [1] := by
  refine solR_gen (v := fun _ => 1) (by simp) (by simp) ⟨fun _ _ => (by decide), fun r hr => (by cases hr), fun u _ d hd => ?_, fun d hd => ?_⟩
  · have : d = 0 := by simp at hd; exact hd
    rw [this]
  · have := hd 0 (by simp)
    exact Nat.dvd_one.1 (by simpa using Int.ofNat_dvd_left.1 this)
theorem singles : ∀ K, K < 6 → ∀ c, c < K → [c] ∈ setsF 1 K 0 := by decide +kernel
theorem sets_heads (K : Nat) (hK : K < 6) (k : Nat) (hk : k < 6) (hk0 : 0 < k) (s : List Nat) (hs : s ∈ setsF k K 0) : ∃ c, c < K ∧ s[0]? = some c := by
  obtain ⟨h1, h2, _⟩ := sets_props K hK k hk s hs
  obtain ⟨c, hc⟩ := get_ex (l := s) (i := 0) (by omega)
  exact ⟨c, h2 c (List.mem_of_getElem? hc), hc⟩
theorem no_eqs {K : Nat} (hK : K < 6) {m : Nat} (hm0 : 0 < m) (hm : m < 5) (S : List (List Nat)) {s : List Nat} (hs : s ∈ setsF (m + 1) K 0) : (folZ [] (minZ [] K m) S).any (fun z => subs z.1 s) = true := by
  obtain ⟨c, hc, hsc⟩ := sets_heads K hK (m + 1) (by omega) (by omega) s hs
  have h1 : (minZ [] K 1).any (fun z => subs z.1 [c]) = true := folZ_cov (sol_single c) (by simp [subs]) (singles K hK c hc)
  obtain ⟨z, hz, h2⟩ := List.any_eq_true.1 h1
  have hmz : ∀ m, 0 < m → z ∈ minZ [] K m := by
    intro m
    induction m with
    | zero => intro h; omega
    | succ m ih =>
      intro _
      by_cases e : m = 0
      · subst e; exact hz
      · exact folZ_sub (ih (by omega))
  refine List.any_eq_true.2 ⟨z, folZ_sub (hmz m hm0), ?_⟩
  unfold subs at h2 ⊢
  rw [List.all_eq_true] at h2 ⊢
  intro x hx
  have h3 := h2 x hx
  simp at h3
  exact List.any_eq_true.2 ⟨c, List.mem_of_getElem? hsc, by simp [h3]⟩
end Go.AM.SN
namespace Go.AM.SN
open Go.Proofs
set_option maxRecDepth 100000
set_option linter.unusedSimpArgs false
set_option linter.unusedVariables false
def outZ (K : Nat) (Z : Zt) : List (List Int) := Z.map fun z => (List.range K).map (scat z.1 z.2)
def supZ (Z : Zt) : List (List Int) := Z.map fun z => colI z.1
theorem outZ_len (K : Nat) (Z : Zt) : (outZ K Z).length = Z.length := by simp [outZ]
theorem supZ_len (Z : Zt) : (supZ Z).length = Z.length := by simp [supZ]
theorem visZ_some {R : List (List Int)} {Z : Zt} {s : List Nat} {l : List Int} (h1 : Z.any (fun z => subs z.1 s) = false) (h2 : solR R s = some l) : visZ R Z s = Z ++ [(s, l)] := by
  unfold visZ; rw [if_neg (by rw [h1]; decide), h2]
theorem visZ_none {R : List (List Int)} {Z : Zt} {s : List Nat} (h2 : solR R s = none) : visZ R Z s = Z := by
  unfold visZ; rw [h2]; split <;> rfl
theorem visZ_any {R : List (List Int)} {Z : Zt} {s : List Nat} (h1 : Z.any (fun z => subs z.1 s) = true) : visZ R Z s = Z := by
  unfold visZ; rw [if_pos h1]
theorem solR_len {R : List (List Int)} {s : List Nat} {l : List Int} (h : solR R s = some l) : l.length = s.length := by
  unfold solR at h
  split at h
  · cases h
  · rename_i y hk
    split at h
    · cases h
    · cases h; exact ker_len hk
set_option maxHeartbeats 32000000 in
theorem minimal16 (l R : List (List Int)) (E K : Nat) (hK : K ≤ 5) (hE : E ≤ 5) (hlK : l.length = K) (hlE : ∀ r ∈ l, r.length = E) (hR : R.length = E) (hRk : ∀ r ∈ R, r.length = K)
    (hlR : ∀ k, k < E → ∀ c, c < K → (l.getD c []).getD k 0 = (R.getD k []).getD c 0) (hB : ∀ r ∈ R, ∀ x ∈ r, x.natAbs ≤ 2) (hl2 : ∀ r ∈ l, ∀ x ∈ r, x.natAbs ≤ 2) :
    PSpec Try.prog 16 [lsts l] (lsts (outZ K (minZ R K K))) := by
  refine PSpec.of_rn 64 SJ.ok16 rfl (by simp only [noRefs, noRef, noRefs_ints, noRefs_lsts]; rfl) (noRef_lsts _) ?_
  have hzl := fun m (hm : m < 6) => minZ_len (R := R) (K := K) (by omega) m hm
  simp (maxSteps := 1000000) (disch := first | omega | exact PairsOK.mk rfl | (simp only [lenW] <;> omega)) only [SJ.s16, wordsN, Int.reduceGT, wordsR, ne_eq, wS_regionP, aAppend_slF, words, Nat.reduceAdd, Nat.reduceEqDiff, Nat.reduceBEq, ↓reduceIte, reduceCtorEq, SX.exit.injEq, if_true, if_false, Int.reduceAdd, Int.reduceSub, Int.reduceMul, Int.reduceLT, Int.reduceLE, Int.reduceEq, Int.reduceNe, Int.reduceNeg, Int.reduceToNat, Nat.reduceMul, Nat.reduceLT, Nat.reduceSub, Nat.reduceLeDiff]
  refine wS_loopX 100 (fun m : Nat => [(0, lsts l), (3, .sl 50 0 0 (minZ R K m).length 1), (4, .sl 51 0 0 (minZ R K m).length 1), (5, .int .i64 ((m : Int) + 1))]) (fun m => [(50, .cells 0 ((outZ K (minZ R K m)).map sli)), (51, .cells 0 ((supZ (minZ R K m)).map sli))]) (fun m => m ≤ K) (fun m => K - m) 0 0 200
    (fun _ : Unit => [(3, lsts (outZ K (minZ R K K)))]) (fun _ => []) (fun _ => True) ?_ (Nat.zero_le _) ?_ ?_
  · refine ⟨[(50, .nil), (51, .nil)], rfl, au0, ?_, au4⟩
    exact RB.newnil rfl rfl (RB.newnil rfl rfl RB.nil)
  · intro m hm
    by_cases hmK : m < K
    · have hmK' : (m : Int) + 1 ≤ (K : Int) := by omega
      have h42 := sets42 (m + 1) K 0 (by omega) (by omega)
      have hS10 := setsF_ten (s := m + 1) (c := K) 0 (by omega) (by omega)
      have hSp := sets_props K (by omega) (m + 1) (by omega)
      rw [Nat.zero_add] at h42
      have h42' : PSpec Try.prog 42 [.int .i64 0, .int .i64 (K : Nat), .int .i64 ((m : Int) + 1)] (nlsts (setsF (m + 1) K 0)) := h42
      have hfold : ∀ i, (folZ R (minZ R K m) ((setsF (m + 1) K 0).take i)).length ≤ 60 := fun i => by
        have h1 := folZ_len R ((setsF (m + 1) K 0).take i) (minZ R K m)
        have h2 := hzl m (by omega)
        rw [List.length_take] at h1; omega
      have hnoE : E = 0 → 0 < m → ∀ i s, s ∈ setsF (m + 1) K 0 → (folZ R (minZ R K m) ((setsF (m + 1) K 0).take i)).any (fun z => subs z.1 s) = true := fun h0 hm0 i s hs => by
        have hR0 : R = [] := List.eq_nil_of_length_eq_zero (by omega)
        rw [hR0]; exact no_eqs (by omega) hm0 (by omega) _ hs
      have hmin : minZ R K (m + 1) = folZ R (minZ R K m) (setsF (m + 1) K 0) := rfl
      have hsfold : ∀ i s, (setsF (m + 1) K 0)[i]? = some s → folZ R (minZ R K m) ((setsF (m + 1) K 0).take (i + 1)) = visZ R (folZ R (minZ R K m) ((setsF (m + 1) K 0).take i)) s := fun i s h => by
        unfold folZ; rw [List.take_add_one, List.foldl_append, h]; rfl
      generalize hS : setsF (m + 1) K 0 = S at *
      simp (maxSteps := 1000000) (disch := first | omega | exact PairsOK.mk rfl | (simp only [lenW] <;> omega)) only [hlK, hmK', wordsN, Int.reduceGT, wordsR, ne_eq, wS_regionP, aAppend_slF, words, Nat.reduceAdd, Nat.reduceEqDiff, Nat.reduceBEq, ↓reduceIte, reduceCtorEq, SX.exit.injEq, if_true, if_false, Int.reduceAdd, Int.reduceSub, Int.reduceMul, Int.reduceLT, Int.reduceLE, Int.reduceEq, Int.reduceNe, Int.reduceNeg, Int.reduceToNat, Nat.reduceMul, Nat.reduceLT, Nat.reduceSub, Nat.reduceLeDiff]
      refine cp h42' ?_
      simp (maxSteps := 1000000) (disch := first | omega | exact PairsOK.mk rfl | (simp only [lenW] <;> omega)) only [wordsN, Int.reduceGT, wordsR, ne_eq, wS_regionP, aAppend_slF, words, Nat.reduceAdd, Nat.reduceEqDiff, Nat.reduceBEq, ↓reduceIte, reduceCtorEq, SX.exit.injEq, if_true, if_false, Int.reduceAdd, Int.reduceSub, Int.reduceMul, Int.reduceLT, Int.reduceLE, Int.reduceEq, Int.reduceNe, Int.reduceNeg, Int.reduceToNat, Nat.reduceMul, Nat.reduceLT, Nat.reduceSub, Nat.reduceLeDiff]
      refine wS_loopX 300 (fun q : Nat × Zt => [(0, lsts l), (3, .sl 50 0 0 q.2.length 1), (4, .sl 51 0 0 q.2.length 1), (5, .int .i64 ((m : Int) + 1)), (6, nlsts S), (7, .int .i64 q.1)]) (fun q => [(50, .cells 0 ((outZ K q.2).map sli)), (51, .cells 0 ((supZ q.2).map sli))])
        (fun q => q.1 ≤ S.length ∧ q.2 = folZ R (minZ R K m) (S.take q.1)) (fun q => S.length - q.1) (0, minZ R K m) 2 400
        (fun _ : Unit => [(0, lsts l), (3, .sl 50 0 0 (minZ R K (m + 1)).length 1), (4, .sl 51 0 0 (minZ R K (m + 1)).length 1), (5, .int .i64 ((m : Int) + 1))]) (fun _ => [(50, .cells 0 ((outZ K (minZ R K (m + 1))).map sli)), (51, .cells 0 ((supZ (minZ R K (m + 1))).map sli))]) (fun _ => True) ?_ ⟨Nat.zero_le _, rfl⟩ ?_ ?_
      · exact ⟨[(50, .blk 50 0), (51, .blk 51 0)], rfl, au0, au5, au4⟩
      · rintro ⟨i, Z⟩ ⟨hi, hZ⟩
        dsimp only at hi hZ
        have hZl := hfold i
        rw [← hZ] at hZl
        have hol := outZ_len K Z
        have hsl := supZ_len Z
        by_cases hil : i < S.length
        · obtain ⟨s, hs⟩ := get_ex hil
          have hsm := List.mem_of_getElem? hs
          obtain ⟨hsl1, hsc, hsp⟩ := hSp s hsm
          have hsg : (S.map colI)[i]? = some (colI s) := by rw [List.getElem?_map, hs]; rfl
          have hstep := hsfold i s hs
          rw [← hZ] at hstep
          have hno := fun h0 hm0 => hnoE h0 hm0 i s hsm
          rw [← hZ] at hno
          have hcl := colI_len s
          simp (maxSteps := 1000000) (disch := first | omega | exact PairsOK.mk rfl | (simp only [lenW] <;> omega)) only [hil, wordsN, Int.reduceGT, wordsR, ne_eq, wS_regionP, aAppend_slF, words, Nat.reduceAdd, Nat.reduceEqDiff, Nat.reduceBEq, ↓reduceIte, reduceCtorEq, SX.exit.injEq, if_true, if_false, Int.reduceAdd, Int.reduceSub, Int.reduceMul, Int.reduceLT, Int.reduceLE, Int.reduceEq, Int.reduceNe, Int.reduceNeg, Int.reduceToNat, Nat.reduceMul, Nat.reduceLT, Nat.reduceSub, Nat.reduceLeDiff]
          refine wS_loopX 500 (fun k : Nat => [(0, lsts l), (3, .sl 50 0 0 Z.length 1), (4, .sl 51 0 0 Z.length 1), (5, .int .i64 ((m : Int) + 1)), (6, nlsts S), (7, .int .i64 i), (8, .bool (!(Z.take k).any fun z => subs z.1 s)), (9, .int .i64 k)]) (fun _ => [(50, .cells 0 ((outZ K Z).map sli)), (51, .cells 0 ((supZ Z).map sli))])
            (fun k => k ≤ Z.length) (fun k => Z.length - k) 0 4 600
            (fun _ : Unit => [(0, lsts l), (3, .sl 50 0 0 Z.length 1), (4, .sl 51 0 0 Z.length 1), (5, .int .i64 ((m : Int) + 1)), (6, nlsts S), (7, .int .i64 i), (8, .bool (!Z.any fun z => subs z.1 s))]) (fun _ => [(50, .cells 0 ((outZ K Z).map sli)), (51, .cells 0 ((supZ Z).map sli))]) (fun _ => True) ⟨[(50, .blk 50 0), (51, .blk 51 0)], rfl, au0, au5, au4⟩ (Nat.zero_le _) ?_ ?_
          · intro k hk
            by_cases hkl : k < Z.length
            · obtain ⟨z, hz⟩ := get_ex hkl
              have hzs : ((supZ Z).map sli)[k]? = some (sli (colI z.1)) := by rw [List.getElem?_map]; unfold supZ; rw [List.getElem?_map, hz]; rfl
              have htk : (!(Z.take (k + 1)).any fun z => subs z.1 s) = ((!(Z.take k).any fun z => subs z.1 s) && !subs z.1 s) := by
                rw [List.take_add_one, hz, List.any_append]; simp
              have h43 : PSpec Try.prog 43 [sli (colI z.1), sli (colI s)] (.bool (subs z.1 s)) := within43 z.1 s (by
                have := (minZ_okl (R := R) (K := K) (by omega) (m := m) (by omega) (S := S.take i) (fun t ht => by rw [hS]; exact List.mem_of_mem_take ht) (z := z) (by rw [← hZ]; exact List.mem_of_getElem? hz)).1
                omega) (by omega)
              generalize (!(Z.take k).any fun z => subs z.1 s) = bb at htk
              cases bb with
              | false =>
                rw [Bool.false_and] at htk
                simp (maxSteps := 1000000) (disch := first | omega | exact PairsOK.mk rfl | (simp only [lenW] <;> omega)) only [hkl, hzs, wordsN, Int.reduceGT, wordsR, ne_eq, wS_regionP, aAppend_slF, words, Nat.reduceAdd, Nat.reduceEqDiff, Nat.reduceBEq, ↓reduceIte, reduceCtorEq, SX.exit.injEq, if_true, if_false, Int.reduceAdd, Int.reduceSub, Int.reduceMul, Int.reduceLT, Int.reduceLE, Int.reduceEq, Int.reduceNe, Int.reduceNeg, Int.reduceToNat, Nat.reduceMul, Nat.reduceLT, Nat.reduceSub, Nat.reduceLeDiff]
                exact ⟨k + 1, by omega, by omega, by rw [htk]; exact ⟨[(50, .blk 50 0), (51, .blk 51 0)], rfl, au0, au5, au4⟩⟩
              | true =>
                rw [Bool.true_and] at htk
                simp (maxSteps := 1000000) (disch := first | omega | exact PairsOK.mk rfl | (simp only [lenW] <;> omega)) only [hkl, hzs, hil, head_lsts hsg, wordsN, Int.reduceGT, wordsR, ne_eq, wS_regionP, aAppend_slF, words, Nat.reduceAdd, Nat.reduceEqDiff, Nat.reduceBEq, ↓reduceIte, reduceCtorEq, SX.exit.injEq, if_true, if_false, Int.reduceAdd, Int.reduceSub, Int.reduceMul, Int.reduceLT, Int.reduceLE, Int.reduceEq, Int.reduceNe, Int.reduceNeg, Int.reduceToNat, Nat.reduceMul, Nat.reduceLT, Nat.reduceSub, Nat.reduceLeDiff]
                refine cp h43 ?_
                simp (maxSteps := 1000000) (disch := first | omega | exact PairsOK.mk rfl | (simp only [lenW] <;> omega)) only [wordsN, Int.reduceGT, wordsR, ne_eq, wS_regionP, aAppend_slF, words, Nat.reduceAdd, Nat.reduceEqDiff, Nat.reduceBEq, ↓reduceIte, reduceCtorEq, SX.exit.injEq, if_true, if_false, Int.reduceAdd, Int.reduceSub, Int.reduceMul, Int.reduceLT, Int.reduceLE, Int.reduceEq, Int.reduceNe, Int.reduceNeg, Int.reduceToNat, Nat.reduceMul, Nat.reduceLT, Nat.reduceSub, Nat.reduceLeDiff]
                exact ⟨k + 1, by omega, by omega, by rw [htk]; exact ⟨[(50, .blk 50 0), (51, .blk 51 0)], rfl, au0, au5, au4⟩⟩
            · have e : k = Z.length := by omega
              simp (maxSteps := 1000000) (disch := first | omega | exact PairsOK.mk rfl | (simp only [lenW] <;> omega)) only [hkl, wordsN, Int.reduceGT, wordsR, ne_eq, wS_regionP, aAppend_slF, words, Nat.reduceAdd, Nat.reduceEqDiff, Nat.reduceBEq, ↓reduceIte, reduceCtorEq, SX.exit.injEq, if_true, if_false, Int.reduceAdd, Int.reduceSub, Int.reduceMul, Int.reduceLT, Int.reduceLE, Int.reduceEq, Int.reduceNe, Int.reduceNeg, Int.reduceToNat, Nat.reduceMul, Nat.reduceLT, Nat.reduceSub, Nat.reduceLeDiff]
              exact ⟨(), by rw [e, List.take_length]; exact ⟨[(50, .blk 50 0), (51, .blk 51 0)], rfl, au0, au5, au4⟩⟩
          rintro _ -
          cases hany : Z.any fun z => subs z.1 s with
          | true =>
            simp (maxSteps := 1000000) (disch := first | omega | exact PairsOK.mk rfl | (simp only [lenW] <;> omega)) only [wordsN, Int.reduceGT, wordsR, ne_eq, wS_regionP, aAppend_slF, words, Nat.reduceAdd, Nat.reduceEqDiff, Nat.reduceBEq, ↓reduceIte, reduceCtorEq, SX.exit.injEq, if_true, if_false, Int.reduceAdd, Int.reduceSub, Int.reduceMul, Int.reduceLT, Int.reduceLE, Int.reduceEq, Int.reduceNe, Int.reduceNeg, Int.reduceToNat, Nat.reduceMul, Nat.reduceLT, Nat.reduceSub, Nat.reduceLeDiff]
            refine ⟨(i + 1, Z), by dsimp only; omega, ⟨by dsimp only; omega, ?_⟩, ⟨[(50, .blk 50 0), (51, .blk 51 0)], rfl, au0, au5, au4⟩⟩
            dsimp only; rw [hstep, visZ_any hany]
          | false =>
            have hK0 : 0 < l.length := by omega
            obtain ⟨l0, hl0⟩ := get_ex hK0
            have hl0E := hlE l0 (List.mem_of_getElem? hl0)
            have hhd : (l.map sli).head? = some (sli l0) := by
              cases l with
              | nil => cases hK0
              | cons a l => simp at hl0; subst hl0; rfl
            have hk8 : (8 : Int) * (K : Int) ≤ 1099511627776 := by omega
            have hk1 : (K : Int) ≤ 1099511627776 := by omega
            have hlom : ((outZ K Z).map sli).length = Z.length := by rw [List.length_map, hol]
            have hlsm : ((supZ Z).map sli).length = Z.length := by rw [List.length_map, hsl]
            have hlast : ∀ y, outZ K (Z ++ [(s, y)]) = outZ K Z ++ [(List.range K).map (scat s y)] := fun y => by simp [outZ]
            have hlast2 : ∀ y, supZ (Z ++ [(s, y)]) = supZ Z ++ [colI s] := fun y => by simp [supZ]
            have hfin : ∀ (y : List Int) (T : Tmps) (h : Heap) (b g : Nat), solR R s = some y → b ≠ 50 → b ≠ 51 → lk T 0 = lsts l → lk T 3 = .sl 50 1 0 (Z.length + 1) 1 → lk T 4 = .sl 51 1 0 (Z.length + 1) 1 → lk T 5 = .int .i64 ((m : Int) + 1) → lk T 6 = nlsts S → lk T 7 = .int .i64 ((i + 1 : Nat) : Int) →
                h.get 50 = some (.cells 1 ((outZ K Z).map sli ++ [.sl b 0 0 K 1])) → h.get 51 = some (.cells 1 ((supZ Z).map sli ++ [.fsl (ints (colI s)) s.length 1])) → h.get b = some (.cells 0 (rowF K (scat s y))) →
                ∃ q : Nat × Zt, S.length - q.1 < S.length - i ∧ (q.1 ≤ S.length ∧ q.2 = folZ R (minZ R K m) (S.take q.1)) ∧ Rec 0 [(0, lsts l), (3, .sl 50 0 0 q.2.length 1), (4, .sl 51 0 0 q.2.length 1), (5, .int .i64 ((m : Int) + 1)), (6, nlsts S), (7, .int .i64 q.1)] [(50, .cells 0 ((outZ K q.2).map sli)), (51, .cells 0 ((supZ q.2).map sli))] T h := by
              intro y T h b g hy hb1 hb2 t0 t3 t4 t5 t6 t7 g50 g51 gb
              have hsc2 : AV.fsl (ints (colI s)) s.length 1 = sli (colI s) := by rw [← hcl]
              rw [hsc2] at g51
              have hx1 : Nat.beq b 50 = false := by rw [Bool.eq_false_iff]; simpa using hb1
              have hx2 : Nat.beq b 51 = false := by rw [Bool.eq_false_iff]; simpa using hb2
              refine ⟨(i + 1, Z ++ [(s, y)]), by dsimp only; omega, ⟨by dsimp only; omega, ?_⟩, [(50, .blk 50 1), (51, .blk 51 1)], rfl, RO.zero, ?_, ?_⟩
              · dsimp only; rw [hstep, visZ_some hany hy]
              · dsimp only
                rw [hlast, hlast2, List.map_append, List.map_append]
                refine RB.cells rfl rfl g50 (RnL.append (RnL.same (noRefs_lsts _)) (RnL.cons ?_ RnL.nil)) (RB.cells rfl rfl g51 (RnL.same (by rw [noRefs_append, noRefs_lsts]; simp only [noRefs, noRef, noRefs_ints, List.map_cons, List.map_nil]; rfl)) RB.nil)
                show Rn 0 _ _ (.fsl (rowF K (scat s y)) ((List.range K).map (scat s y)).length 1) _
                exact Rn.fzm gb (by simp only [srcNew, hx1, hx2]; rfl) rfl (by simp) (by rw [rowF_len, Nat.mul_one]) (RnL.same (noRefs_rowF _ _))
              · dsimp only
                rw [List.length_append]
                refine RT.cons' t0 ?_ (RT.cons' t3 ?_ (RT.cons' t4 ?_ (RT.cons' t5 ?_ (RT.cons' t6 ?_ (RT.cons' t7 ?_ RT.nil))))) <;> repeat' (first | exact RB.nil | (refine RnL.same ?_; first | rfl | (simp only [noRef, noRefs, noRefs_append, Bool.and_self, Bool.and_true, Bool.true_and, noRefs_ints, noRefs_lsts, noRefs_pad, noRefs_tnC, noRefs_arcC, noRefs_rowF]; done)) | exact RnM.keyM rfl | exact RnL.nil | refine RnL.cons ?_ ?_ | (refine Rn.same ?_; first | rfl | (simp only [noRef, noRefs, noRefs_append, Bool.and_self, Bool.and_true, Bool.true_and, noRefs_ints, noRefs_lsts, noRefs_pad, noRefs_tnC, noRefs_arcC, noRefs_rowF]; done)) | exact Rn.x1 rfl rfl | exact Rn.x2 rfl rfl | exact Rn.x3 rfl rfl | exact Rn.x4 rfl rfl | exact Rn.x5 rfl | exact Rn.x6 rfl | exact Rn.x7 rfl | refine RB.newnil rfl rfl ?_ | refine RB.cells rfl rfl rfl ?_ ?_ | refine RB.map rfl rfl rfl ?_ ?_ | refine RB.cellsB rfl rfl ?_ ?_ | refine RB.mapB rfl rfl ?_ ?_)
            by_cases hE0 : E = 0
            · have hm0 : m = 0 := by
                rcases Nat.eq_zero_or_pos m with h | h
                · exact h
                · have := hno hE0 h
                  rw [hany] at this; cases this
              obtain ⟨c, hc⟩ : ∃ c, s = [c] := by
                match s, hsl1 with
                | [], h => simp at h
                | [c], _ => exact ⟨c, rfl⟩
                | _ :: _ :: _, h => simp at h; omega
              have hcK := hsc c (by rw [hc]; simp)
              have hl00 : (l0.length : Int) = 0 := by omega
              have hsol : solR R s = some [1] := by
                have hR0 : R = [] := List.eq_nil_of_length_eq_zero (by omega)
                rw [hR0, hc]; exact sol_single c
              have hgc : (colI s)[0]? = some (c : Int) := by rw [hc]; rfl
              have hs0 : 0 < s.length := by rw [hc]; simp
              have hset : (rowF K fun _ => 0).set c (.int .i64 1) = rowF K (scat s [1]) := by
                rw [rowF_set, hc]; rfl
              have hc1 : c + 1 ≤ K := hcK
              have hhc : (ints (colI s)).head? = some (.int .i64 (c : Int)) := by rw [hc]; rfl
              simp (maxSteps := 1000000) (disch := first | omega | exact PairsOK.mk rfl | (simp only [lenW] <;> omega)) only [hhd, hl00, hlK, hk8, hk1, rowF_zero, hil, head_lsts hsg, hs0, hcl, hhc, hcK, hc1, rowF_len, hset, hlom, hlsm, wordsN, Int.reduceGT, wordsR, ne_eq, wS_regionP, aAppend_slF, words, Nat.reduceAdd, Nat.reduceEqDiff, Nat.reduceBEq, ↓reduceIte, reduceCtorEq, SX.exit.injEq, if_true, if_false, Int.reduceAdd, Int.reduceSub, Int.reduceMul, Int.reduceLT, Int.reduceLE, Int.reduceEq, Int.reduceNe, Int.reduceNeg, Int.reduceToNat, Nat.reduceMul, Nat.reduceLT, Nat.reduceSub, Nat.reduceLeDiff]
              exact hfin [1] _ _ 609 0 hsol (by decide) (by decide) rfl rfl rfl rfl rfl rfl rfl rfl rfl
            · have hl00 : ¬ (l0.length : Int) = 0 := by omega
              have h44 := solution44 l R s E K hK hE hlK hlE hR hRk hsc (by omega) (by omega) hlR hB hl2
              simp (maxSteps := 1000000) (disch := first | omega | exact PairsOK.mk rfl | (simp only [lenW] <;> omega)) only [hhd, hl00, hil, head_lsts hsg, wordsN, Int.reduceGT, wordsR, ne_eq, wS_regionP, aAppend_slF, words, Nat.reduceAdd, Nat.reduceEqDiff, Nat.reduceBEq, ↓reduceIte, reduceCtorEq, SX.exit.injEq, if_true, if_false, Int.reduceAdd, Int.reduceSub, Int.reduceMul, Int.reduceLT, Int.reduceLE, Int.reduceEq, Int.reduceNe, Int.reduceNeg, Int.reduceToNat, Nat.reduceMul, Nat.reduceLT, Nat.reduceSub, Nat.reduceLeDiff]
              refine cp h44 ?_
              cases hsol : solR R s with
              | none =>
                simp (maxSteps := 1000000) (disch := first | omega | exact PairsOK.mk rfl | (simp only [lenW] <;> omega)) only [solV, wordsN, Int.reduceGT, wordsR, ne_eq, wS_regionP, aAppend_slF, words, Nat.reduceAdd, Nat.reduceEqDiff, Nat.reduceBEq, ↓reduceIte, reduceCtorEq, SX.exit.injEq, if_true, if_false, Int.reduceAdd, Int.reduceSub, Int.reduceMul, Int.reduceLT, Int.reduceLE, Int.reduceEq, Int.reduceNe, Int.reduceNeg, Int.reduceToNat, Nat.reduceMul, Nat.reduceLT, Nat.reduceSub, Nat.reduceLeDiff]
                refine ⟨(i + 1, Z), by dsimp only; omega, ⟨by dsimp only; omega, ?_⟩, ⟨[(50, .blk 50 0), (51, .blk 51 0)], rfl, au0, au5, au4⟩⟩
                dsimp only; rw [hstep, visZ_none hsol]
              | some y =>
                have hyl := solR_len hsol
                have hz0 : (fun _ : Nat => (0 : Int)) = scat (s.take 0) (y.take 0) := by simp [scat]
                simp (maxSteps := 1000000) (disch := first | omega | exact PairsOK.mk rfl | (simp only [lenW] <;> omega)) only [solV, hlK, hk8, hk1, rowF_zero, wordsN, Int.reduceGT, wordsR, ne_eq, wS_regionP, aAppend_slF, words, Nat.reduceAdd, Nat.reduceEqDiff, Nat.reduceBEq, ↓reduceIte, reduceCtorEq, SX.exit.injEq, if_true, if_false, Int.reduceAdd, Int.reduceSub, Int.reduceMul, Int.reduceLT, Int.reduceLE, Int.reduceEq, Int.reduceNe, Int.reduceNeg, Int.reduceToNat, Nat.reduceMul, Nat.reduceLT, Nat.reduceSub, Nat.reduceLeDiff]
                refine wS_loopX 700 (fun k : Nat => [(0, lsts l), (3, .sl 50 0 0 Z.length 1), (4, .sl 51 0 0 Z.length 1), (5, .int .i64 ((m : Int) + 1)), (6, nlsts S), (7, .int .i64 i), (11, sli y), (13, .sl 52 0 0 K 1), (14, .int .i64 k)])
                  (fun k => [(50, .cells 0 ((outZ K Z).map sli)), (51, .cells 0 ((supZ Z).map sli)), (52, .cells 0 (rowF K (scat (s.take k) (y.take k))))]) (fun k => k ≤ s.length) (fun k => s.length - k) 0 6 800
                  (fun _ : Unit => [(0, lsts l), (3, .sl 50 0 0 Z.length 1), (4, .sl 51 0 0 Z.length 1), (5, .int .i64 ((m : Int) + 1)), (6, nlsts S), (7, .int .i64 i), (13, .sl 52 0 0 K 1)])
                  (fun _ => [(50, .cells 0 ((outZ K Z).map sli)), (51, .cells 0 ((supZ Z).map sli)), (52, .cells 0 (rowF K (scat s y)))]) (fun _ => True) ?_ (Nat.zero_le _) ?_ ?_
                · refine ⟨[(50, .blk 50 0), (51, .blk 51 0), (52, .blk 622 0)], rfl, au0, ?_, au4⟩
                  refine RB.cells rfl rfl rfl (RnL.same (noRefs_lsts _)) (RB.cells rfl rfl rfl (RnL.same (noRefs_lsts _)) (RB.cells rfl rfl rfl (RnL.eq (by rw [← hz0]) (noRefs_rowF _ _)) RB.nil))
                · intro k hk
                  by_cases hks : k < s.length
                  · have hky : k < y.length := by omega
                    obtain ⟨c, hc⟩ := get_ex hks
                    obtain ⟨v, hv⟩ := get_ex hky
                    have hcK := hsc c (List.mem_of_getElem? hc)
                    have hc1 : c + 1 ≤ K := hcK
                    have hset : (rowF K (scat (s.take k) (y.take k))).set c (.int .i64 v) = rowF K (scat (s.take (k + 1)) (y.take (k + 1))) := by rw [rowF_set, scat_take hc hv]
                    simp (maxSteps := 1000000) (disch := first | omega | exact PairsOK.mk rfl | (simp only [lenW] <;> omega)) only [hks, hyl, hky, hil, head_lsts hsg, hcl, head_ints (colI_get hc), head_ints hv, hcK, hc1, rowF_len, hset, wordsN, Int.reduceGT, wordsR, ne_eq, wS_regionP, aAppend_slF, words, Nat.reduceAdd, Nat.reduceEqDiff, Nat.reduceBEq, ↓reduceIte, reduceCtorEq, SX.exit.injEq, if_true, if_false, Int.reduceAdd, Int.reduceSub, Int.reduceMul, Int.reduceLT, Int.reduceLE, Int.reduceEq, Int.reduceNe, Int.reduceNeg, Int.reduceToNat, Nat.reduceMul, Nat.reduceLT, Nat.reduceSub, Nat.reduceLeDiff]
                    refine ⟨k + 1, by omega, by omega, ⟨[(50, .blk 50 0), (51, .blk 51 0), (52, .blk 52 0)], rfl, au0, au5, au4⟩⟩
                  · have e : k = s.length := by omega
                    simp (maxSteps := 1000000) (disch := first | omega | exact PairsOK.mk rfl | (simp only [lenW] <;> omega)) only [hks, hyl, wordsN, Int.reduceGT, wordsR, ne_eq, wS_regionP, aAppend_slF, words, Nat.reduceAdd, Nat.reduceEqDiff, Nat.reduceBEq, ↓reduceIte, reduceCtorEq, SX.exit.injEq, if_true, if_false, Int.reduceAdd, Int.reduceSub, Int.reduceMul, Int.reduceLT, Int.reduceLE, Int.reduceEq, Int.reduceNe, Int.reduceNeg, Int.reduceToNat, Nat.reduceMul, Nat.reduceLT, Nat.reduceSub, Nat.reduceLeDiff]
                    refine ⟨(), ?_⟩
                    have e2 : s.take k = s := by rw [e, List.take_length]
                    have e3 : y.take k = y := by rw [e, ← hyl, List.take_length]
                    rw [e2, e3]
                    exact ⟨[(50, .blk 50 0), (51, .blk 51 0), (52, .blk 52 0)], rfl, au0, au5, au4⟩
                rintro _ -
                simp (maxSteps := 1000000) (disch := first | omega | exact PairsOK.mk rfl | (simp only [lenW] <;> omega)) only [hil, head_lsts hsg, hcl, hlom, hlsm, wordsN, Int.reduceGT, wordsR, ne_eq, wS_regionP, aAppend_slF, words, Nat.reduceAdd, Nat.reduceEqDiff, Nat.reduceBEq, ↓reduceIte, reduceCtorEq, SX.exit.injEq, if_true, if_false, Int.reduceAdd, Int.reduceSub, Int.reduceMul, Int.reduceLT, Int.reduceLE, Int.reduceEq, Int.reduceNe, Int.reduceNeg, Int.reduceToNat, Nat.reduceMul, Nat.reduceLT, Nat.reduceSub, Nat.reduceLeDiff]
                exact hfin y _ _ 52 0 hsol (by decide) (by decide) rfl rfl rfl rfl rfl rfl rfl rfl rfl
        · have e : i = S.length := by omega
          simp (maxSteps := 1000000) (disch := first | omega | exact PairsOK.mk rfl | (simp only [lenW] <;> omega)) only [hil, wordsN, Int.reduceGT, wordsR, ne_eq, wS_regionP, aAppend_slF, words, Nat.reduceAdd, Nat.reduceEqDiff, Nat.reduceBEq, ↓reduceIte, reduceCtorEq, SX.exit.injEq, if_true, if_false, Int.reduceAdd, Int.reduceSub, Int.reduceMul, Int.reduceLT, Int.reduceLE, Int.reduceEq, Int.reduceNe, Int.reduceNeg, Int.reduceToNat, Nat.reduceMul, Nat.reduceLT, Nat.reduceSub, Nat.reduceLeDiff]
          have hZ2 : Z = minZ R K (m + 1) := by rw [hZ, e, List.take_length, hmin]
          refine ⟨(), ?_⟩
          rw [← hZ2]; exact ⟨[(50, .blk 50 0), (51, .blk 51 0)], rfl, au0, au5, au4⟩
      rintro _ -
      simp (maxSteps := 1000000) (disch := first | omega | exact PairsOK.mk rfl | (simp only [lenW] <;> omega)) only [wordsN, Int.reduceGT, wordsR, ne_eq, wS_regionP, aAppend_slF, words, Nat.reduceAdd, Nat.reduceEqDiff, Nat.reduceBEq, ↓reduceIte, reduceCtorEq, SX.exit.injEq, if_true, if_false, Int.reduceAdd, Int.reduceSub, Int.reduceMul, Int.reduceLT, Int.reduceLE, Int.reduceEq, Int.reduceNe, Int.reduceNeg, Int.reduceToNat, Nat.reduceMul, Nat.reduceLT, Nat.reduceSub, Nat.reduceLeDiff]
      exact ⟨m + 1, by omega, by omega, ⟨[(50, .blk 50 0), (51, .blk 51 0)], rfl, au0, au5, au4⟩⟩
    · have hmK' : ¬ (m : Int) + 1 ≤ (K : Int) := by omega
      have e : m = K := by omega
      simp (maxSteps := 1000000) (disch := first | omega | exact PairsOK.mk rfl | (simp only [lenW] <;> omega)) only [hlK, hmK', wordsN, Int.reduceGT, wordsR, ne_eq, wS_regionP, aAppend_slF, words, Nat.reduceAdd, Nat.reduceEqDiff, Nat.reduceBEq, ↓reduceIte, reduceCtorEq, SX.exit.injEq, if_true, if_false, Int.reduceAdd, Int.reduceSub, Int.reduceMul, Int.reduceLT, Int.reduceLE, Int.reduceEq, Int.reduceNe, Int.reduceNeg, Int.reduceToNat, Nat.reduceMul, Nat.reduceLT, Nat.reduceSub, Nat.reduceLeDiff]
      refine ⟨(), ⟨[], rfl, RO.zero, trivial, RT.cons' rfl ?_ RT.nil⟩⟩
      rw [← e]
      exact Rn.fzm rfl rfl rfl (outZ_len _ _) (by rw [List.length_map, outZ_len, Nat.mul_one]) (RnL.same (noRefs_lsts _))
  rintro _ -
  simp (maxSteps := 1000000) (disch := first | omega | exact PairsOK.mk rfl | (simp only [lenW] <;> omega)) only [wordsN, Int.reduceGT, wordsR, ne_eq, wS_regionP, aAppend_slF, words, Nat.reduceAdd, Nat.reduceEqDiff, Nat.reduceBEq, ↓reduceIte, reduceCtorEq, SX.exit.injEq, if_true, if_false, Int.reduceAdd, Int.reduceSub, Int.reduceMul, Int.reduceLT, Int.reduceLE, Int.reduceEq, Int.reduceNe, Int.reduceNeg, Int.reduceToNat, Nat.reduceMul, Nat.reduceLT, Nat.reduceSub, Nat.reduceLeDiff]
  exact ⟨.inr trivial, _, rfl, Rn.same (noRef_lsts _)⟩
end Go.AM.SN
set_option maxRecDepth 100000
namespace Go.AM.SV
open Go.Proofs
def s12 : SFn := ⟨106, [.tmp 0],
 (.seq (.region [⟨(some 0), .mov (.c (.bool false)), [], none⟩] [] [0])
 (.seq (.region [⟨(some 14), .call .pure (.f 38) [], [], none⟩,
 ⟨(some 15), .call .pure (.f 14) [(.t 14), (.c (.int .i64 1))], [0, 0], none⟩,
 ⟨(some 13), .mov (.t 15), [1], none⟩,
 ⟨(some 16), .extract 0 (.t 13), [2], none⟩,
 ⟨(some 17), .extract 1 (.t 13), [2], none⟩,
 ⟨(some 1), .mov (.t 16), [3, 1, 0, 1, 2, 3], none⟩,
 ⟨(some 2), .mov (.t 17), [4, 5, 0, 1, 2, 3, 4, 5], none⟩] [] [14, 15, 13, 16, 17])
 (.seq (.region [⟨(some 19), .call .pure (.f 38) [], [], none⟩,
 ⟨(some 20), .bslice true .dyn 1 2 [(.int .i64 0), (.int .i64 0)] [(0, 1, (.c (.int .i64 1))), (1, 1, (.c (.int .i64 1)))], [], none⟩,
 ⟨(some 21), .bslice true .dyn 1 1 [.nilsl] [(0, 1, (.t 20))], [1], none⟩,
 ⟨(some 22), .call .pure (.f 23) [(.t 19), (.t 21)], [0, 2, 0], none⟩,
 ⟨(some 18), .mov (.t 22), [3], none⟩,
 ⟨(some 23), .extract 0 (.t 18), [4], none⟩,
 ⟨(some 24), .extract 1 (.t 18), [4], none⟩,
 ⟨(some 3), .mov (.t 23), [5, 3, 0, 1, 2, 3, 4, 5], none⟩,
 ⟨(some 4), .mov (.t 24), [6, 7, 0, 1, 2, 3, 4, 5, 6, 7], none⟩] [] [19, 20, 21, 22, 18, 23, 24])
 (.seq (.region [⟨(some 26), .call .pure (.f 38) [], [], none⟩,
 ⟨(some 27), .bslice true .dyn 1 2 [(.int .i64 0), (.int .i64 0)] [(0, 1, (.c (.int .i64 1))), (1, 1, (.c (.int .i64 1)))], [], none⟩,
 ⟨(some 28), .bslice true .dyn 1 1 [.nilsl] [(0, 1, (.t 27))], [1], none⟩,
 ⟨(some 29), .bslice true .dyn 1 2 [(.int .i64 0), (.int .i64 0)] [(0, 1, (.c (.int .i64 1))), (1, 1, (.c (.int .i64 1)))], [], none⟩,
 ⟨(some 30), .call .pure (.f 24) [(.t 26), (.t 28), (.t 29)], [0, 2, 3, 0], none⟩,
 ⟨(some 25), .mov (.t 30), [4], none⟩,
 ⟨(some 31), .extract 0 (.t 25), [5], none⟩,
 ⟨(some 32), .extract 1 (.t 25), [5], none⟩,
 ⟨(some 33), .extract 2 (.t 25), [5], none⟩,
 ⟨(some 5), .mov (.t 31), [6, 4, 0, 1, 2, 3, 4, 5, 6], none⟩,
 ⟨(some 6), .mov (.t 32), [7, 9, 0, 1, 2, 3, 4, 5, 6, 7, 9], none⟩,
 ⟨(some 7), .mov (.t 33), [8, 10, 0, 1, 2, 3, 4, 5, 6, 7, 8, 9, 10], none⟩] [] [26, 27, 28, 29, 30, 25, 31, 32, 33, 5])
 (.seq (.region [⟨(some 34), .bslice true .dyn 1 2 [(.int .i64 0), (.int .i64 0)] [(0, 1, (.c (.int .i64 4))), (1, 1, (.c (.int .i64 0)))], [], none⟩,
 ⟨(some 35), .build [(.int .i64 0), (.int .i64 0)] [(0, 1, (.c (.int .i64 0))), (1, 1, (.c (.int .i64 2)))], [], none⟩,
 ⟨(some 36), .bslice true .dyn 2 1 [(.int .i64 0), (.int .i64 0)] [(0, 2, (.t 35))], [1], none⟩,
 ⟨(some 37), .build [(.int .i64 0), (.int .i64 0)] [(0, 1, (.c (.int .i64 1))), (1, 1, (.c (.int .i64 3)))], [], none⟩,
 ⟨(some 38), .bslice true .dyn 2 1 [(.int .i64 0), (.int .i64 0)] [(0, 2, (.t 37))], [3], none⟩,
 ⟨(some 39), .build [(.int .i64 0), .nilsl, .nilsl] [(1, 1, (.t 36)), (2, 1, (.t 38))], [2, 4], none⟩,
 ⟨(some 40), .bslice true .dyn 3 1 [(.int .i64 0), .nilsl, .nilsl] [(0, 3, (.t 39))], [5], none⟩,
 ⟨(some 41), .build [.nilsl, .nilsl] [(0, 1, (.t 34)), (1, 1, (.t 40))], [0, 6], none⟩,
 ⟨(some 8), .alloc .dyn (.agg [.nilsl, .nilsl]), [], none⟩,
 ⟨none, .store 2 (.t 8) (.t 41), [8, 7, 0, 1, 2, 3, 4, 5, 6, 7, 8], none⟩] [] [34, 35, 36, 37, 38, 39, 40, 41])
 (.seq (.region [⟨(some 43), .load (some 2) (.t 8), [], none⟩,
 ⟨(some 44), .call .pure (.f 14) [(.t 43), (.c (.int .i64 1))], [0], none⟩,
 ⟨(some 42), .mov (.t 44), [1], none⟩,
 ⟨(some 45), .extract 0 (.t 42), [2], none⟩,
 ⟨(some 46), .extract 1 (.t 42), [2], none⟩,
 ⟨(some 9), .mov (.t 45), [3, 1, 0, 1, 2, 3], none⟩,
 ⟨(some 10), .mov (.t 46), [4, 5, 0, 1, 2, 3, 4, 5], none⟩] [] [43, 44, 42, 45, 46])
 (.seq (.region [⟨(some 48), .load (some 2) (.t 8), [], none⟩,
 ⟨(some 49), .call .pure (.f 15) [(.t 48), (.c (.int .i64 2))], [0], none⟩,
 ⟨(some 47), .mov (.t 49), [1], none⟩,
 ⟨(some 50), .extract 0 (.t 47), [2], none⟩,
 ⟨(some 51), .extract 1 (.t 47), [2], none⟩,
 ⟨(some 11), .mov (.t 50), [3, 1, 0, 1, 2, 3], none⟩,
 ⟨(some 12), .mov (.t 51), [4, 5, 0, 1, 2, 3, 4, 5], none⟩] [] [8, 48, 49, 47, 50, 51])
 (.seq (.region [⟨(some 52), .mov (.t 2), [], none⟩,
 ⟨(some 53), .bin .eql (.t 52) (.c (.int .i64 0)), [0], none⟩,
 ⟨(some 54), .mov (.t 53), [1], none⟩,
 ⟨(some 55), .mov (.t 1), [2], (some (54, true))⟩,
 ⟨(some 56), .len 1 (.t 55), [3, 2], (some (54, true))⟩,
 ⟨(some 57), .bin .eql (.t 56) (.c (.int .i64 1)), [4, 2], (some (54, true))⟩,
 ⟨(some 58), .pick (.t 54) (.t 57) (.c (.bool false)), [2, 5], none⟩,
 ⟨(some 59), .mov (.t 58), [6, 2], none⟩,
 ⟨(some 60), .mov (.t 1), [7], (some (59, true))⟩,
 ⟨(some 61), .iaddr none 1 (.t 60) (.c (.int .i64 0)), [8, 7], (some (59, true))⟩,
 ⟨(some 62), .load none (.t 61), [9, 7], (some (59, true))⟩,
 ⟨(some 63), .bslice true .dyn 1 2 [(.int .i64 0), (.int .i64 0)] [(0, 1, (.c (.int .i64 1))), (1, 1, (.c (.int .i64 1)))], [7], (some (59, true))⟩,
 ⟨(some 64), .call .pure (.f 29) [(.t 62), (.t 63)], [10, 11, 7, 7], (some (59, true))⟩,
 ⟨(some 65), .pick (.t 59) (.t 64) (.c (.bool false)), [7, 12], none⟩,
 ⟨(some 66), .mov (.t 65), [13, 12], none⟩,
 ⟨(some 67), .mov (.t 4), [14], (some (66, true))⟩,
 ⟨(some 68), .bin .eql (.t 67) (.c (.int .i64 0)), [15, 14], (some (66, true))⟩,
 ⟨(some 69), .pick (.t 66) (.t 68) (.c (.bool false)), [14, 16], none⟩,
 ⟨(some 70), .mov (.t 69), [17, 14], none⟩,
 ⟨(some 71), .mov (.t 3), [18], (some (70, true))⟩,
 ⟨(some 72), .bslice true .dyn 1 2 [(.int .i64 0), (.int .i64 0)] [(0, 1, (.c (.int .i64 1))), (1, 1, (.c (.int .i64 1)))], [18], (some (70, true))⟩,
 ⟨(some 73), .call .pure (.f 29) [(.t 71), (.t 72)], [19, 20, 18, 18], (some (70, true))⟩,
 ⟨(some 74), .pick (.t 70) (.t 73) (.c (.bool false)), [18, 21], none⟩,
 ⟨(some 75), .mov (.t 74), [22, 21], none⟩,
 ⟨(some 76), .mov (.t 7), [23], (some (75, true))⟩,
 ⟨(some 77), .bin .eql (.t 76) (.c (.int .i64 0)), [24, 23], (some (75, true))⟩,
 ⟨(some 78), .pick (.t 75) (.t 77) (.c (.bool false)), [23, 25], none⟩,
 ⟨(some 79), .mov (.t 78), [26, 23], none⟩,
 ⟨(some 80), .mov (.t 6), [27], (some (79, true))⟩,
 ⟨(some 81), .pick (.t 79) (.t 80) (.c (.bool false)), [27, 28], none⟩,
 ⟨(some 82), .mov (.t 81), [29, 27], none⟩,
 ⟨(some 83), .mov (.t 10), [30], (some (82, true))⟩,
 ⟨(some 84), .bin .eql (.t 83) (.c (.int .i64 0)), [31, 30], (some (82, true))⟩,
 ⟨(some 85), .pick (.t 82) (.t 84) (.c (.bool false)), [30, 32], none⟩,
 ⟨(some 86), .mov (.t 85), [33, 30], none⟩,
 ⟨(some 87), .mov (.t 9), [34], (some (86, true))⟩,
 ⟨(some 88), .len 1 (.t 87), [35, 34], (some (86, true))⟩,
 ⟨(some 89), .bin .eql (.t 88) (.c (.int .i64 1)), [36, 34], (some (86, true))⟩,
 ⟨(some 90), .pick (.t 86) (.t 89) (.c (.bool false)), [34, 37], none⟩,
 ⟨(some 91), .mov (.t 90), [38, 34], none⟩,
 ⟨(some 92), .mov (.t 9), [39], (some (91, true))⟩,
 ⟨(some 93), .iaddr none 1 (.t 92) (.c (.int .i64 0)), [40, 39], (some (91, true))⟩,
 ⟨(some 94), .load none (.t 93), [41, 39], (some (91, true))⟩,
 ⟨(some 95), .bslice true .dyn 1 2 [(.int .i64 0), (.int .i64 0)] [(0, 1, (.c (.int .i64 3))), (1, 1, (.c (.int .i64 2)))], [39], (some (91, true))⟩,
 ⟨(some 96), .call .pure (.f 29) [(.t 94), (.t 95)], [42, 43, 39, 39], (some (91, true))⟩,
 ⟨(some 97), .pick (.t 91) (.t 96) (.c (.bool false)), [39, 44], none⟩,
 ⟨(some 98), .mov (.t 97), [45, 44], none⟩,
 ⟨(some 99), .mov (.t 12), [46], (some (98, true))⟩,
 ⟨(some 100), .bin .eql (.t 99) (.c (.int .i64 0)), [47, 46], (some (98, true))⟩,
 ⟨(some 101), .pick (.t 98) (.t 100) (.c (.bool false)), [46, 48], none⟩,
 ⟨(some 102), .mov (.t 101), [49, 46], none⟩,
 ⟨(some 103), .mov (.t 11), [50], (some (102, true))⟩,
 ⟨(some 104), .un .not (.t 103), [51, 50], (some (102, true))⟩,
 ⟨(some 105), .pick (.t 102) (.t 104) (.c (.bool false)), [50, 52], none⟩,
 ⟨(some 0), .mov (.t 105), [53, 50, 0, 1, 2, 3, 4, 5, 6, 7, 8, 9, 10, 11, 12, 13, 14, 15, 16, 17, 18, 19, 20, 21, 22, 23, 24, 25, 26, 27, 28, 29, 30, 31, 32, 33, 34, 35, 36, 37, 38, 39, 40, 41, 42, 43, 44, 45, 46, 47, 48, 49, 50, 51, 52, 53], none⟩] [] [1, 2, 3, 4, 6, 7, 9, 10, 11, 12, 52, 53, 54, 55, 56, 57, 58, 59, 60, 61, 62, 63, 64, 65, 66, 67, 68, 69, 70, 71, 72, 73, 74, 75, 76, 77, 78, 79, 80, 81, 82, 83, 84, 85, 86, 87, 88, 89, 90, 91, 92, 93, 94, 95, 96, 97, 98, 99, 100, 101, 102, 103, 104, 105])
 .ret))))))))⟩
def s38 : SFn := ⟨14, [.cell 0 (some 2)],
 (.seq (.region [⟨(some 0), .alloc .dyn (.agg [.nilsl, .nilsl]), [], none⟩] [] [])
 (.seq (.region [⟨(some 1), .bslice true .dyn 1 2 [(.int .i64 0), (.int .i64 0)] [(0, 1, (.c (.int .i64 1))), (1, 1, (.c (.int .i64 0)))], [], none⟩,
 ⟨(some 2), .build [(.int .i64 0), (.int .i64 0)] [(0, 1, (.c (.int .i64 0))), (1, 1, (.c (.int .i64 1)))], [], none⟩,
 ⟨(some 3), .bslice true .dyn 2 1 [(.int .i64 0), (.int .i64 0)] [(0, 2, (.t 2))], [1], none⟩,
 ⟨(some 4), .build [(.int .i64 0), (.int .i64 0)] [(0, 1, (.c (.int .i64 1))), (1, 1, (.c (.int .i64 1)))], [], none⟩,
 ⟨(some 5), .bslice true .dyn 2 1 [(.int .i64 0), (.int .i64 0)] [(0, 2, (.t 4))], [3], none⟩,
 ⟨(some 6), .build [(.int .i64 0), .nilsl, .nilsl] [(0, 1, (.c (.int .i64 0))), (1, 1, (.t 3)), (2, 1, (.t 5))], [2, 4], none⟩,
 ⟨(some 7), .build [(.int .i64 0), (.int .i64 0)] [(0, 1, (.c (.int .i64 1))), (1, 1, (.c (.int .i64 1)))], [], none⟩,
 ⟨(some 8), .bslice true .dyn 2 1 [(.int .i64 0), (.int .i64 0)] [(0, 2, (.t 7))], [6], none⟩,
 ⟨(some 9), .build [(.int .i64 0), (.int .i64 0)] [(0, 1, (.c (.int .i64 0))), (1, 1, (.c (.int .i64 1)))], [], none⟩,
 ⟨(some 10), .bslice true .dyn 2 1 [(.int .i64 0), (.int .i64 0)] [(0, 2, (.t 9))], [8], none⟩,
 ⟨(some 11), .build [(.int .i64 0), .nilsl, .nilsl] [(0, 1, (.c (.int .i64 1))), (1, 1, (.t 8)), (2, 1, (.t 10))], [7, 9], none⟩,
 ⟨(some 12), .bslice true .dyn 3 2 [(.int .i64 0), .nilsl, .nilsl, (.int .i64 0), .nilsl, .nilsl] [(0, 3, (.t 6)), (3, 3, (.t 11))], [5, 10], none⟩,
 ⟨(some 13), .build [.nilsl, .nilsl] [(0, 1, (.t 1)), (1, 1, (.t 12))], [0, 11], none⟩,
 ⟨none, .store 2 (.t 0) (.t 13), [12, 0, 1, 2, 3, 4, 5, 6, 7, 8, 9, 10, 11, 12], none⟩] [] [1, 2, 3, 4, 5, 6, 7, 8, 9, 10, 11, 12, 13])
 .ret))⟩
theorem ok12 : okFn Try.prog 12 s12 = true := by kernel_rfl
theorem ok38 : okFn Try.prog 38 s38 = true := by kernel_rfl
end Go.AM.SV
namespace Go.AM.SN
open Go.Proofs
set_option maxRecDepth 100000
set_option linter.unusedSimpArgs false
set_option linter.unusedVariables false
def exN : Nt := ⟨[1, 0], [⟨0, [(0, 1)], [(1, 1)]⟩, ⟨1, [(1, 1)], [(0, 1)]⟩]⟩
def twoN : Nt := ⟨[4, 0], [⟨0, [(0, 2)], [(1, 3)]⟩]⟩
theorem arcs1_ok {p w n : Int} (h : 0 ≤ p ∧ p < n ∧ 1 ≤ w ∧ w ≤ 8) : ArcsOk [(p, w)] n where
  len := by simp
  each := fun i a ha => by
    cases i with
    | zero => simp at ha; subst ha; exact h
    | succ i => simp at ha
  up := fun i a b ha hb => by simp at hb
theorem exN_ok : NetOk exN where
  places := by decide
  tokens := by unfold okT; decide
  trans := by decide
  ev := by decide
  inn := fun t ht => by
    simp only [exN, List.mem_cons, List.not_mem_nil, or_false] at ht
    rcases ht with rfl | rfl <;> exact arcs1_ok (by decide)
  out := fun t ht => by
    simp only [exN, List.mem_cons, List.not_mem_nil, or_false] at ht
    rcases ht with rfl | rfl <;> exact arcs1_ok (by decide)
theorem twoN_ok : NetOk twoN where
  places := by decide
  tokens := by unfold okT; decide
  trans := by decide
  ev := by decide
  inn := fun t ht => by
    simp only [twoN, List.mem_cons, List.not_mem_nil, or_false] at ht
    subst ht; exact arcs1_ok (by decide)
  out := fun t ht => by
    simp only [twoN, List.mem_cons, List.not_mem_nil, or_false] at ht
    subst ht; exact arcs1_ok (by decide)
theorem exMin : PSpec Try.prog 14 [netV exN, .int .i64 1] (.tup [lsts [[1, 1]], .int .i64 0]) := by
  have h := MinimalT exN 1 _ _ (newTable exN exN_ok 1 (.inl rfl)) (by decide +kernel) (by decide +kernel) (tabR_len exN 1) (by decide +kernel) (by decide +kernel)
  rwa [show listR (tabC exN 1) (minF (tabR exN 1) (tabC exN 1) (tabC exN 1)) = [[1, 1]] by decide +kernel] at h
theorem twoMin : PSpec Try.prog 14 [netV twoN, .int .i64 1] (.tup [lsts [[3, 2]], .int .i64 0]) := by
  have h := MinimalT twoN 1 _ _ (newTable twoN twoN_ok 1 (.inl rfl)) (by decide +kernel) (by decide +kernel) (tabR_len twoN 1) (by decide +kernel) (by decide +kernel)
  rwa [show listR (tabC twoN 1) (minF (tabR twoN 1) (tabC twoN 1) (tabC twoN 1)) = [[3, 2]] by decide +kernel] at h
theorem twoCov : PSpec Try.prog 15 [netV twoN, .int .i64 2] (.tup [.bool false, .int .i64 0]) := by
  have h := CoveredT twoN 2 _ _ (newTable twoN twoN_ok 2 (.inr rfl)) (by decide +kernel) (by decide +kernel) (tabR_len twoN 2) (by decide +kernel)
  rwa [show decide (covR (minF (tabR twoN 2) (tabC twoN 2) (tabC twoN 2)) = 2 ^ tabC twoN 2 - 1) = false by decide +kernel] at h
theorem exBnd : PSpec Try.prog 23 [netV exN, lsts [[1, 1]]] (.tup [sli [1, 1], .int .i64 0]) := by
  have h := bounds exN exN_ok [[1, 1]] (by decide) (by decide)
  rwa [show chkR exN [[1, 1]] = 0 by decide +kernel, if_pos rfl, show bndL exN [[1, 1]] = [1, 1] by decide +kernel] at h
theorem exExc : PSpec Try.prog 24 [netV exN, lsts [[1, 1]], sli [1, 1]] (.tup [.int .i64 0, .bool true, .int .i64 0]) := by
  have h := excludes exN exN_ok [[1, 1]] [1, 1] (by decide) (by decide) (by decide)
  rwa [show exV exN [[1, 1]] [1, 1] = .tup [.int .i64 0, .bool true, .int .i64 0] by
    unfold exV
    rw [if_pos (by decide +kernel), if_pos (by decide +kernel), if_pos (by decide +kernel), show firstAt (exP exN [1, 1]) [[1, 1]] = 0 by decide +kernel]] at h
theorem exchange38 : PSpec Try.prog 38 [] (netV exN) := by
  refine PSpec.of_rn 64 SV.ok38 rfl rfl (noRef_net _) ?_
  simp (maxSteps := 1000000) (disch := first | omega | (simp only [lenW] <;> omega)) only [SV.s38, aBuildSlice_frz, wZ_some, wordsN, Int.reduceGT, wordsR, ne_eq, words, Nat.reduceAdd, Nat.reduceEqDiff, Nat.reduceBEq, ↓reduceIte, reduceCtorEq, SX.exit.injEq, if_true, if_false, Int.reduceAdd, Int.reduceSub, Int.reduceMul, Int.reduceLT, Int.reduceLE, Int.reduceEq, Int.reduceNe, Int.reduceNeg, Int.reduceToNat, Nat.reduceMul, Nat.reduceLT, Nat.reduceSub, Nat.reduceLeDiff]
  exact ⟨.inr trivial, _, rfl, Rn.same (noRef_net exN)⟩
theorem known : PSpec Try.prog 12 [] (.bool true) := by
  refine PSpec.of_rn 64 SV.ok12 rfl rfl rfl ?_
  simp (maxSteps := 1000000) (disch := first | omega | (simp only [lenW] <;> omega)) only [SV.s12, wordsN, Int.reduceGT, wordsR, ne_eq, words, Nat.reduceAdd, Nat.reduceEqDiff, Nat.reduceBEq, ↓reduceIte, reduceCtorEq, SX.exit.injEq, if_true, if_false, Int.reduceAdd, Int.reduceSub, Int.reduceMul, Int.reduceLT, Int.reduceLE, Int.reduceEq, Int.reduceNe, Int.reduceNeg, Int.reduceToNat, Nat.reduceMul, Nat.reduceLT, Nat.reduceSub, Nat.reduceLeDiff]
  refine cp exchange38 ?_
  simp (maxSteps := 1000000) (disch := first | omega | (simp only [lenW] <;> omega)) only [wordsN, Int.reduceGT, wordsR, ne_eq, words, Nat.reduceAdd, Nat.reduceEqDiff, Nat.reduceBEq, ↓reduceIte, reduceCtorEq, SX.exit.injEq, if_true, if_false, Int.reduceAdd, Int.reduceSub, Int.reduceMul, Int.reduceLT, Int.reduceLE, Int.reduceEq, Int.reduceNe, Int.reduceNeg, Int.reduceToNat, Nat.reduceMul, Nat.reduceLT, Nat.reduceSub, Nat.reduceLeDiff]
  refine cp exMin ?_
  simp (maxSteps := 1000000) (disch := first | omega | (simp only [lenW] <;> omega)) only [wordsN, Int.reduceGT, wordsR, ne_eq, words, Nat.reduceAdd, Nat.reduceEqDiff, Nat.reduceBEq, ↓reduceIte, reduceCtorEq, SX.exit.injEq, if_true, if_false, Int.reduceAdd, Int.reduceSub, Int.reduceMul, Int.reduceLT, Int.reduceLE, Int.reduceEq, Int.reduceNe, Int.reduceNeg, Int.reduceToNat, Nat.reduceMul, Nat.reduceLT, Nat.reduceSub, Nat.reduceLeDiff]
  refine cp exchange38 ?_
  simp (maxSteps := 1000000) (disch := first | omega | (simp only [lenW] <;> omega)) only [aBuildSlice_frz, wZ_some, List.map_cons, List.map_nil, wordsN, Int.reduceGT, wordsR, ne_eq, words, Nat.reduceAdd, Nat.reduceEqDiff, Nat.reduceBEq, ↓reduceIte, reduceCtorEq, SX.exit.injEq, if_true, if_false, Int.reduceAdd, Int.reduceSub, Int.reduceMul, Int.reduceLT, Int.reduceLE, Int.reduceEq, Int.reduceNe, Int.reduceNeg, Int.reduceToNat, Nat.reduceMul, Nat.reduceLT, Nat.reduceSub, Nat.reduceLeDiff]
  refine cp exBnd ?_
  simp (maxSteps := 1000000) (disch := first | omega | (simp only [lenW] <;> omega)) only [wordsN, Int.reduceGT, wordsR, ne_eq, words, Nat.reduceAdd, Nat.reduceEqDiff, Nat.reduceBEq, ↓reduceIte, reduceCtorEq, SX.exit.injEq, if_true, if_false, Int.reduceAdd, Int.reduceSub, Int.reduceMul, Int.reduceLT, Int.reduceLE, Int.reduceEq, Int.reduceNe, Int.reduceNeg, Int.reduceToNat, Nat.reduceMul, Nat.reduceLT, Nat.reduceSub, Nat.reduceLeDiff]
  refine cp exchange38 ?_
  simp (maxSteps := 1000000) (disch := first | omega | (simp only [lenW] <;> omega)) only [aBuildSlice_frz, wZ_some, List.map_cons, List.map_nil, wordsN, Int.reduceGT, wordsR, ne_eq, words, Nat.reduceAdd, Nat.reduceEqDiff, Nat.reduceBEq, ↓reduceIte, reduceCtorEq, SX.exit.injEq, if_true, if_false, Int.reduceAdd, Int.reduceSub, Int.reduceMul, Int.reduceLT, Int.reduceLE, Int.reduceEq, Int.reduceNe, Int.reduceNeg, Int.reduceToNat, Nat.reduceMul, Nat.reduceLT, Nat.reduceSub, Nat.reduceLeDiff]
  refine cp exExc ?_
  simp (maxSteps := 1000000) (disch := first | omega | (simp only [lenW] <;> omega)) only [aBuildSlice_frz, wZ_some, List.map_cons, List.map_nil, wordsN, Int.reduceGT, wordsR, ne_eq, words, Nat.reduceAdd, Nat.reduceEqDiff, Nat.reduceBEq, ↓reduceIte, reduceCtorEq, SX.exit.injEq, if_true, if_false, Int.reduceAdd, Int.reduceSub, Int.reduceMul, Int.reduceLT, Int.reduceLE, Int.reduceEq, Int.reduceNe, Int.reduceNeg, Int.reduceToNat, Nat.reduceMul, Nat.reduceLT, Nat.reduceSub, Nat.reduceLeDiff]
  refine cp twoMin ?_
  simp (maxSteps := 1000000) (disch := first | omega | (simp only [lenW] <;> omega)) only [wordsN, Int.reduceGT, wordsR, ne_eq, words, Nat.reduceAdd, Nat.reduceEqDiff, Nat.reduceBEq, ↓reduceIte, reduceCtorEq, SX.exit.injEq, if_true, if_false, Int.reduceAdd, Int.reduceSub, Int.reduceMul, Int.reduceLT, Int.reduceLE, Int.reduceEq, Int.reduceNe, Int.reduceNeg, Int.reduceToNat, Nat.reduceMul, Nat.reduceLT, Nat.reduceSub, Nat.reduceLeDiff]
  refine cp twoCov ?_
  simp (maxSteps := 1000000) (disch := first | omega | (simp only [lenW] <;> omega)) only [aBuildSlice_frz, wZ_some, List.map_cons, List.map_nil, wordsN, Int.reduceGT, wordsR, ne_eq, words, Nat.reduceAdd, Nat.reduceEqDiff, Nat.reduceBEq, ↓reduceIte, reduceCtorEq, SX.exit.injEq, if_true, if_false, Int.reduceAdd, Int.reduceSub, Int.reduceMul, Int.reduceLT, Int.reduceLE, Int.reduceEq, Int.reduceNe, Int.reduceNeg, Int.reduceToNat, Nat.reduceMul, Nat.reduceLT, Nat.reduceSub, Nat.reduceLeDiff]
  refine cp (same [1, 1] [1, 1] (by decide)) ?_
  simp (maxSteps := 1000000) (disch := first | omega | (simp only [lenW] <;> omega)) only [aBuildSlice_frz, wZ_some, List.map_cons, List.map_nil, wordsN, Int.reduceGT, wordsR, ne_eq, words, Nat.reduceAdd, Nat.reduceEqDiff, Nat.reduceBEq, ↓reduceIte, reduceCtorEq, SX.exit.injEq, if_true, if_false, Int.reduceAdd, Int.reduceSub, Int.reduceMul, Int.reduceLT, Int.reduceLE, Int.reduceEq, Int.reduceNe, Int.reduceNeg, Int.reduceToNat, Nat.reduceMul, Nat.reduceLT, Nat.reduceSub, Nat.reduceLeDiff]
  refine cp (same [1, 1] [1, 1] (by decide)) ?_
  simp (maxSteps := 1000000) (disch := first | omega | (simp only [lenW] <;> omega)) only [aBuildSlice_frz, wZ_some, List.map_cons, List.map_nil, wordsN, Int.reduceGT, wordsR, ne_eq, words, Nat.reduceAdd, Nat.reduceEqDiff, Nat.reduceBEq, ↓reduceIte, reduceCtorEq, SX.exit.injEq, if_true, if_false, Int.reduceAdd, Int.reduceSub, Int.reduceMul, Int.reduceLT, Int.reduceLE, Int.reduceEq, Int.reduceNe, Int.reduceNeg, Int.reduceToNat, Nat.reduceMul, Nat.reduceLT, Nat.reduceSub, Nat.reduceLeDiff]
  refine cp (same [3, 2] [3, 2] (by decide)) ?_
  simp (maxSteps := 1000000) (disch := first | omega | (simp only [lenW] <;> omega)) only [aBuildSlice_frz, wZ_some, List.map_cons, List.map_nil, wordsN, Int.reduceGT, wordsR, ne_eq, words, Nat.reduceAdd, Nat.reduceEqDiff, Nat.reduceBEq, ↓reduceIte, reduceCtorEq, SX.exit.injEq, if_true, if_false, Int.reduceAdd, Int.reduceSub, Int.reduceMul, Int.reduceLT, Int.reduceLE, Int.reduceEq, Int.reduceNe, Int.reduceNeg, Int.reduceToNat, Nat.reduceMul, Nat.reduceLT, Nat.reduceSub, Nat.reduceLeDiff]
  exact ⟨.inr trivial, _, rfl, Rn.same rfl⟩
end Go.AM.SN
namespace Go.AM.SN
open Go.Proofs
set_option maxRecDepth 100000
set_option linter.unusedSimpArgs false
set_option linter.unusedVariables false
theorem folZ_mem {R : List (List Int)} {z : List Nat × List Int} : ∀ {S : List (List Nat)} {Z : Zt}, z ∈ folZ R Z S → z ∈ Z ∨ (z.1 ∈ S ∧ solR R z.1 = some z.2)
  | [], Z, h => .inl h
  | s :: S, Z, h => by
    rcases folZ_mem (S := S) (Z := visZ R Z s) h with h | ⟨h1, h2⟩
    · rcases visZ_mem h with h | ⟨h1, h2⟩
      · exact .inl h
      · exact .inr ⟨by rw [h1]; simp, by rw [h1]; exact h2⟩
    · exact .inr ⟨by simp [h1], h2⟩
theorem minZ_mem {R : List (List Int)} {K : Nat} {z : List Nat × List Int} : ∀ {m : Nat}, z ∈ minZ R K m → ∃ k, 0 < k ∧ k ≤ m ∧ z.1 ∈ setsF k K 0 ∧ solR R z.1 = some z.2
  | 0, h => by cases h
  | m + 1, h => by
    rcases folZ_mem h with h | ⟨h1, h2⟩
    · obtain ⟨k, a, b, c⟩ := minZ_mem h
      exact ⟨k, a, by omega, c⟩
    · exact ⟨m + 1, by omega, by omega, h1, h2⟩
theorem sup_bit (s : List Nat) (i : Nat) : (supOf s).testBit i = s.any (· == i) := by
  unfold supOf
  have : ∀ (s : List Nat) (a : Nat), (s.foldl (fun a c => a ||| 1 <<< c) a).testBit i = (a.testBit i || s.any (· == i)) := by
    intro s
    induction s with
    | nil => intro a; simp
    | cons c s ih =>
      intro a
      rw [List.foldl_cons, ih, Nat.testBit_or, List.any_cons, Nat.shiftLeft_eq, Nat.one_mul, Nat.testBit_two_pow, Bool.or_assoc]
      congr 1
  rw [this s 0]; simp
theorem cov_bit (F : List Flow) (i : Nat) : (covR F).testBit i = F.any fun f => f.1.testBit i := by
  unfold covR
  have : ∀ (F : List Flow) (a : Nat), (F.foldl (fun a f => a ||| f.1) a).testBit i = (a.testBit i || F.any fun f => f.1.testBit i) := by
    intro F
    induction F with
    | nil => intro a; simp
    | cons f F ih => intro a; rw [List.foldl_cons, ih, Nat.testBit_or, List.any_cons, Bool.or_assoc]
  rw [this F 0]; simp
theorem cov_all {R : List (List Int)} {K : Nat} (hK : K ≤ 5) (hRk : ∀ r ∈ R, r.length = K) (hB : ∀ r ∈ R, ∀ x ∈ r, x.natAbs ≤ 2) :
    decide (covR (minF R K K) = 2 ^ K - 1) = (List.range K).all fun i => (listR K (minF R K K)).any fun w => w.getD i 0 != 0 := by
  obtain ⟨hc, _⟩ := min_conv (R := R) (K := K) (by omega) K (by omega)
  have hz : ∀ z ∈ minZ R K K, (∀ c ∈ z.1, c < K) ∧ ∀ i, i < K → ((scat z.1 z.2 i != 0) = z.1.any (· == i)) := fun z hzm => by
    obtain ⟨k, hk0, hkK, hs, hsol⟩ := minZ_mem hzm
    obtain ⟨h1, h2, h3⟩ := sets_props K (by omega) k (by omega) z.1 hs
    have hk : kerR R z.1 = some z.2 := by
      unfold solR at hsol
      split at hsol
      · cases hsol
      · rename_i y hy
        split at hsol
        · cases hsol
        · cases hsol; exact hy
    obtain ⟨hl, hne, _⟩ := ker_prop (by omega) (by omega) hB hk
    refine ⟨h2, fun i hi => ?_⟩
    by_cases him : i ∈ z.1
    · obtain ⟨p, hp, hpl⟩ := mem_at him
      obtain ⟨x, hx⟩ := get_ex (l := z.2) (i := p) (by omega)
      rw [scat_at h3 hl hp hx]
      have := (hne x (List.mem_of_getElem? hx)).1
      rw [show (x != 0) = true by simp [this]]
      exact (List.any_eq_true.2 ⟨i, him, by simp⟩).symm
    · rw [scat_not him hl]
      have : (z.1.any (· == i)) = false := by
        rw [List.any_eq_false]; intro y hy; simp; intro e; exact him (e ▸ hy)
      rw [this]; rfl
  have hbit : ∀ i, i < K → (covR (minF R K K)).testBit i = (listR K (minF R K K)).any fun w => w.getD i 0 != 0 := fun i hi => by
    rw [cov_bit, hc]
    unfold listR
    rw [List.any_map, List.any_map]
    have : ∀ W : Zt, (∀ z ∈ W, z ∈ minZ R K K) → (W.any fun z => (supOf z.1).testBit i) = W.any fun z => ((List.range K).map (scat z.1 z.2)).getD i 0 != 0 := by
      intro W
      induction W with
      | nil => intro _; rfl
      | cons z W ih =>
        intro hW
        rw [List.any_cons, List.any_cons, ih fun w hw => hW w (by simp [hw])]
        congr 1
        have h1 := (hz z (hW z (by simp))).2 i hi
        have h2 : ((List.range K).map (scat z.1 z.2)).getD i 0 = scat z.1 z.2 i := by
          rw [List.getD_eq_getElem?_getD, List.getElem?_map, List.getElem?_range hi]; rfl
        rw [h2, h1, sup_bit]
    rw [List.any_map]
    exact this (minZ R K K) fun z hz => hz
  have hout : ∀ i, K ≤ i → (covR (minF R K K)).testBit i = false := fun i hi => by
    rw [cov_bit, hc, List.any_eq_false]
    intro f hf
    obtain ⟨z, hzm, rfl⟩ := List.mem_map.1 hf
    show ¬ (supOf z.1).testBit i = true
    rw [sup_bit, List.any_eq_true]
    rintro ⟨c, hc, h2⟩
    have := (hz z hzm).1 c hc
    simp at h2; omega
  rw [Bool.eq_iff_iff, decide_eq_true_iff, List.all_eq_true]
  constructor
  · intro h i hi
    rw [List.mem_range] at hi
    rw [← hbit i hi, h, Nat.testBit_two_pow_sub_one]; simpa using hi
  · intro h
    refine Nat.eq_of_testBit_eq fun i => ?_
    rw [Nat.testBit_two_pow_sub_one]
    by_cases hi : i < K
    · rw [hbit i hi, decide_eq_true hi]; exact h i (by simpa using hi)
    · rw [hout i (by omega), decide_eq_false hi]
theorem rows_tab {x : Nt} (kind : Int) (hT : Tiny x) : (∀ r ∈ rowsR x kind, r.length = (tabR x kind).length) ∧ (∀ k, k < (tabR x kind).length → ∀ c, c < tabC x kind → ((rowsR x kind).getD c []).getD k 0 = ((tabR x kind).getD k []).getD c 0) ∧ (∀ r ∈ rowsR x kind, ∀ y ∈ r, y.natAbs ≤ 2) := by
  have hcol : ∀ t, ∀ y ∈ colR x t, y.natAbs ≤ 2 := fun t y hy => by
    simp only [colR, List.mem_map] at hy
    obtain ⟨p, _, rfl⟩ := hy
    rw [List.getD_eq_getElem?_getD]
    cases hk : (incR x p)[t]? with
    | none => simp
    | some z => simpa using hT.two p z (List.mem_of_getElem? hk)
  unfold rowsR tabR tabC
  by_cases h1 : kind = 1
  · simp only [if_pos h1]
    refine ⟨fun r hr => ?_, fun k hk c hc => ?_, fun r hr y hy => ?_⟩
    · simp only [incM, List.mem_map] at hr; obtain ⟨p, _, rfl⟩ := hr; rw [incR_len]; simp [colM]
    · rw [List.getD_eq_getElem?_getD (l := incM x), incM_get hc]
      simp only [colM, List.length_map, List.length_range] at hk
      simp [colM, colR, List.getD_eq_getElem?_getD, List.getElem?_range hk, List.getElem?_range hc]
    · simp only [incM, List.mem_map] at hr; obtain ⟨p, _, rfl⟩ := hr; exact hT.two p y hy
  · simp only [if_neg h1]
    refine ⟨fun r hr => ?_, fun k hk c hc => ?_, fun r hr y hy => ?_⟩
    · simp only [colM, List.mem_map] at hr; obtain ⟨p, _, rfl⟩ := hr; rw [colR_len]; simp [incM]
    · simp only [incM, List.length_map, List.length_range] at hk
      rw [List.getD_eq_getElem?_getD (l := incM x), incM_get hk]
      simp [colM, colR, List.getD_eq_getElem?_getD, List.getElem?_range hk, List.getElem?_range hc]
    · simp only [colM, List.mem_map] at hr; obtain ⟨p, _, rfl⟩ := hr; exact hcol p y hy
set_option maxHeartbeats 8000000 in
theorem law3 (s : Sm) (ho : SmOk s) (kd : Nat) (hkb : kd < 256) :
    W2 Try.prog ⟨SJ.s3.n, 0⟩ SJ.s3.body (fun e B => (e = .normal ∨ e = .ret) ∧ resV B.T B.h SJ.s3.res = some [.bool true]) ⟨argT 0 [.agg (smC s), .int .u8 kd], .e⟩ := by
  refine (wpC.toW (n := 64) (Q := fun e T h _ => (e = .normal ∨ e = .ret) ∧ resV T h SJ.s3.res = some [.bool true]) (show wS Try.prog ⟨SJ.s3.n, 0⟩ SJ.s3.body [] 64 _ _ _ from ?_)).mono fun e B ⟨_, h⟩ => h
  have hsm := noRef_sm s
  have hN := mkN_ok s
  have hT := mkN_tiny s
  have hmk := make s ho
  have hsl : (smC s).length = 7 := by simp [smC, u8s, ho.ini]
  have ht7 : (smC s).take 7 = smC s := List.take_of_length_le (by omega)
  have h7 : (0 + 7 ≤ (smC s).length) = True := eq_true (by omega)
  generalize mkN s = x at hN hT hmk
  simp (maxSteps := 1000000) (disch := first | omega | exact PairsOK.mk rfl | (simp only [lenW] <;> omega)) only [SJ.s3, wordsN, Int.reduceGT, wordsR, ne_eq, wS_regionP, aAppend_slF, words, Nat.reduceAdd, Nat.reduceEqDiff, Nat.reduceBEq, ↓reduceIte, reduceCtorEq, SX.exit.injEq, if_true, if_false, Int.reduceAdd, Int.reduceSub, Int.reduceMul, Int.reduceLT, Int.reduceLE, Int.reduceEq, Int.reduceNe, Int.reduceNeg, Int.reduceToNat, Nat.reduceMul, Nat.reduceLT, Nat.reduceSub, Nat.reduceLeDiff]
  refine cp known ?_
  simp (maxSteps := 1000000) (disch := first | omega | exact PairsOK.mk rfl | (simp only [lenW] <;> omega)) only [h7, ht7, wordsN, Int.reduceGT, wordsR, ne_eq, wS_regionP, aAppend_slF, words, Nat.reduceAdd, Nat.reduceEqDiff, Nat.reduceBEq, ↓reduceIte, reduceCtorEq, SX.exit.injEq, if_true, if_false, Int.reduceAdd, Int.reduceSub, Int.reduceMul, Int.reduceLT, Int.reduceLE, Int.reduceEq, Int.reduceNe, Int.reduceNeg, Int.reduceToNat, Nat.reduceMul, Nat.reduceLT, Nat.reduceSub, Nat.reduceLeDiff]
  refine cp hmk ?_
  have hkk : (1 + ((kd % 2 : Nat) : Int) = 1 ∨ 1 + ((kd % 2 : Nat) : Int) = 2) := by omega
  simp (maxSteps := 1000000) (disch := first | omega | exact PairsOK.mk rfl | (simp only [lenW] <;> omega)) only [tm2, wordsN, Int.reduceGT, wordsR, ne_eq, wS_regionP, aAppend_slF, words, Nat.reduceAdd, Nat.reduceEqDiff, Nat.reduceBEq, ↓reduceIte, reduceCtorEq, SX.exit.injEq, if_true, if_false, Int.reduceAdd, Int.reduceSub, Int.reduceMul, Int.reduceLT, Int.reduceLE, Int.reduceEq, Int.reduceNe, Int.reduceNeg, Int.reduceToNat, Nat.reduceMul, Nat.reduceLT, Nat.reduceSub, Nat.reduceLeDiff]
  generalize (1 + ((kd % 2 : Nat) : Int)) = kind at hkk
  have hM := MinimalN x hN hT kind hkk
  have h2 := tab_two hT kind
  have hK5 := tabC_five hT kind
  have hR5 := tabR_cnt hT kind
  have hRk := tabR_len x kind
  have hC := CoveredT x kind _ _ (newTable x hN kind hkk) hK5 (by omega) hRk (fun r hr y hy => by have := h2 r hr y hy; omega)
  obtain ⟨hr1, hr2, hr3⟩ := rows_tab kind hT
  have hrows := rows x kind hN
  have hrl := rowsR_len x kind
  have h16 := minimal16 (rowsR x kind) (tabR x kind) (tabR x kind).length (tabC x kind) hK5 hR5 hrl hr1 rfl hRk hr2 h2 hr3
  have hout : outZ (tabC x kind) (minZ (tabR x kind) (tabC x kind) (tabC x kind)) = minN x kind := by
    obtain ⟨hc, _⟩ := min_conv (R := tabR x kind) (K := tabC x kind) (by omega) (tabC x kind) (by omega)
    unfold minN minL listR outZ
    rw [hc, List.map_map]; rfl
  rw [hout] at h16
  rw [cov_all hK5 hRk h2] at hC
  have hpr := fun w (hw : w ∈ minN x kind) => minN_prop hT kind hw
  have hMl := minN_len hT kind
  have hcv : (fun i => (listR (tabC x kind) (minF (tabR x kind) (tabC x kind) (tabC x kind))).any fun w => w.getD i 0 != 0) = fun i => (minN x kind).any fun w => w.getD i 0 != 0 := rfl
  rw [hcv] at hC
  generalize rowsR x kind = l at *
  generalize minN x kind = M at *
  generalize tabC x kind = K at *
  refine cp hM ?_
  simp (maxSteps := 1000000) (disch := first | omega | exact PairsOK.mk rfl | (simp only [lenW] <;> omega)) only [wordsN, Int.reduceGT, wordsR, ne_eq, wS_regionP, aAppend_slF, words, Nat.reduceAdd, Nat.reduceEqDiff, Nat.reduceBEq, ↓reduceIte, reduceCtorEq, SX.exit.injEq, if_true, if_false, Int.reduceAdd, Int.reduceSub, Int.reduceMul, Int.reduceLT, Int.reduceLE, Int.reduceEq, Int.reduceNe, Int.reduceNeg, Int.reduceToNat, Nat.reduceMul, Nat.reduceLT, Nat.reduceSub, Nat.reduceLeDiff]
  refine cp hC ?_
  simp (maxSteps := 1000000) (disch := first | omega | exact PairsOK.mk rfl | (simp only [lenW] <;> omega)) only [wordsN, Int.reduceGT, wordsR, ne_eq, wS_regionP, aAppend_slF, words, Nat.reduceAdd, Nat.reduceEqDiff, Nat.reduceBEq, ↓reduceIte, reduceCtorEq, SX.exit.injEq, if_true, if_false, Int.reduceAdd, Int.reduceSub, Int.reduceMul, Int.reduceLT, Int.reduceLE, Int.reduceEq, Int.reduceNe, Int.reduceNeg, Int.reduceToNat, Nat.reduceMul, Nat.reduceLT, Nat.reduceSub, Nat.reduceLeDiff]
  refine cp hrows ?_
  simp (maxSteps := 1000000) (disch := first | omega | exact PairsOK.mk rfl | (simp only [lenW] <;> omega)) only [wordsN, Int.reduceGT, wordsR, ne_eq, wS_regionP, aAppend_slF, words, Nat.reduceAdd, Nat.reduceEqDiff, Nat.reduceBEq, ↓reduceIte, reduceCtorEq, SX.exit.injEq, if_true, if_false, Int.reduceAdd, Int.reduceSub, Int.reduceMul, Int.reduceLT, Int.reduceLE, Int.reduceEq, Int.reduceNe, Int.reduceNeg, Int.reduceToNat, Nat.reduceMul, Nat.reduceLT, Nat.reduceSub, Nat.reduceLeDiff]
  refine cp h16 ?_
  simp (maxSteps := 1000000) (disch := first | omega | exact PairsOK.mk rfl | (simp only [lenW] <;> omega)) only [wordsN, Int.reduceGT, wordsR, ne_eq, wS_regionP, aAppend_slF, words, Nat.reduceAdd, Nat.reduceEqDiff, Nat.reduceBEq, ↓reduceIte, reduceCtorEq, SX.exit.injEq, if_true, if_false, Int.reduceAdd, Int.reduceSub, Int.reduceMul, Int.reduceLT, Int.reduceLE, Int.reduceEq, Int.reduceNe, Int.reduceNeg, Int.reduceToNat, Nat.reduceMul, Nat.reduceLT, Nat.reduceSub, Nat.reduceLeDiff]
  refine wS_loopX 200 (fun i : Nat => [(5, .ptr 51 0 0), (6, .int .i64 kind), (7, lsts M), (8, .int .i64 0), (9, .bool ((List.range K).all fun i => M.any fun w => w.getD i 0 != 0)), (10, .int .i64 0), (11, lsts M), (12, .bool ((List.range i).all fun i => M.any fun w => w.getD i 0 != 0)), (13, .int .i64 i)]) (fun _ => [(51, .cells 0 [sli x.ini, tns x.tr])])
    (fun i => i ≤ K) (fun i => K - i) 0 0 300 (fun _ : Unit => [(7, lsts M), (8, .int .i64 0), (9, .bool ((List.range K).all fun i => M.any fun w => w.getD i 0 != 0)), (10, .int .i64 0), (11, lsts M), (12, .bool ((List.range K).all fun i => M.any fun w => w.getD i 0 != 0))]) (fun _ => []) (fun _ => True) ?_ (Nat.zero_le _) ?_ ?_
  · exact ⟨[(51, .blk 70 0)], rfl, au0, au5, au4⟩
  · intro i hi
    simp (maxSteps := 1000000) (disch := first | omega | exact PairsOK.mk rfl | (simp only [lenW] <;> omega)) only [wordsN, Int.reduceGT, wordsR, ne_eq, wS_regionP, aAppend_slF, words, Nat.reduceAdd, Nat.reduceEqDiff, Nat.reduceBEq, ↓reduceIte, reduceCtorEq, SX.exit.injEq, if_true, if_false, Int.reduceAdd, Int.reduceSub, Int.reduceMul, Int.reduceLT, Int.reduceLE, Int.reduceEq, Int.reduceNe, Int.reduceNeg, Int.reduceToNat, Nat.reduceMul, Nat.reduceLT, Nat.reduceSub, Nat.reduceLeDiff]
    refine cp hrows ?_
    by_cases hiK : i < K
    · have hsucc : ((List.range (i + 1)).all fun i => M.any fun w => w.getD i 0 != 0) = (((List.range i).all fun i => M.any fun w => w.getD i 0 != 0) && (M.any fun w => w.getD i 0 != 0)) := by
        rw [List.range_succ, List.all_append]; simp
      generalize ((List.range i).all fun i => M.any fun w => w.getD i 0 != 0) = bb at hsucc ⊢
      simp (maxSteps := 1000000) (disch := first | omega | exact PairsOK.mk rfl | (simp only [lenW] <;> omega)) only [hrl, hiK, wordsN, Int.reduceGT, wordsR, ne_eq, wS_regionP, aAppend_slF, words, Nat.reduceAdd, Nat.reduceEqDiff, Nat.reduceBEq, ↓reduceIte, reduceCtorEq, SX.exit.injEq, if_true, if_false, Int.reduceAdd, Int.reduceSub, Int.reduceMul, Int.reduceLT, Int.reduceLE, Int.reduceEq, Int.reduceNe, Int.reduceNeg, Int.reduceToNat, Nat.reduceMul, Nat.reduceLT, Nat.reduceSub, Nat.reduceLeDiff]
      refine wS_loopX 400 (fun j : Nat => [(5, .ptr 51 0 0), (6, .int .i64 kind), (7, lsts M), (8, .int .i64 0), (9, .bool ((List.range K).all fun i => M.any fun w => w.getD i 0 != 0)), (10, .int .i64 0), (11, lsts M), (12, .bool bb), (13, .int .i64 i), (14, .bool ((M.take j).any fun w => w.getD i 0 != 0)), (15, .int .i64 j)]) (fun _ => [(51, .cells 0 [sli x.ini, tns x.tr])])
        (fun j => j ≤ M.length) (fun j => M.length - j) 0 2 500 (fun _ : Unit => [(5, .ptr 51 0 0), (6, .int .i64 kind), (7, lsts M), (8, .int .i64 0), (9, .bool ((List.range K).all fun i => M.any fun w => w.getD i 0 != 0)), (10, .int .i64 0), (11, lsts M), (12, .bool bb), (13, .int .i64 i), (14, .bool (M.any fun w => w.getD i 0 != 0))]) (fun _ => [(51, .cells 0 [sli x.ini, tns x.tr])]) (fun _ => True) ⟨[(51, .blk 51 0)], rfl, au0, au5, au4⟩ (Nat.zero_le _) ?_ ?_
      · intro j hj
        by_cases hjl : j < M.length
        · obtain ⟨w, hw⟩ := get_ex hjl
          obtain ⟨hwl, hwb, _⟩ := hpr w (List.mem_of_getElem? hw)
          have hiw : i < w.length := by omega
          have hg := getD_of (r := w) (c := i) hiw
          have htk : ((M.take (j + 1)).any fun w => w.getD i 0 != 0) = (((M.take j).any fun w => w.getD i 0 != 0) || (w.getD i 0 != 0)) := by
            rw [List.take_add_one, hw, List.any_append]; simp
          generalize (M.take j).any (fun w => w.getD i 0 != 0) = b2 at htk ⊢
          cases b2 with
          | true =>
            rw [Bool.true_or] at htk
            simp (maxSteps := 1000000) (disch := first | omega | exact PairsOK.mk rfl | (simp only [lenW] <;> omega)) only [hjl, wordsN, Int.reduceGT, wordsR, ne_eq, wS_regionP, aAppend_slF, words, Nat.reduceAdd, Nat.reduceEqDiff, Nat.reduceBEq, ↓reduceIte, reduceCtorEq, SX.exit.injEq, if_true, if_false, Int.reduceAdd, Int.reduceSub, Int.reduceMul, Int.reduceLT, Int.reduceLE, Int.reduceEq, Int.reduceNe, Int.reduceNeg, Int.reduceToNat, Nat.reduceMul, Nat.reduceLT, Nat.reduceSub, Nat.reduceLeDiff]
            exact ⟨j + 1, by omega, by omega, by rw [htk]; exact ⟨[(51, .blk 51 0)], rfl, au0, au5, au4⟩⟩
          | false =>
            rw [Bool.false_or] at htk
            by_cases h0 : w.getD i 0 = 0
            · rw [h0] at hg
              rw [show (w.getD i 0 != 0) = false by rw [h0]; rfl] at htk
              simp (maxSteps := 1000000) (disch := first | omega | exact PairsOK.mk rfl | (simp only [lenW] <;> omega)) only [hjl, head_lsts hw, hiw, head_ints hg, wordsN, Int.reduceGT, wordsR, ne_eq, wS_regionP, aAppend_slF, words, Nat.reduceAdd, Nat.reduceEqDiff, Nat.reduceBEq, ↓reduceIte, reduceCtorEq, SX.exit.injEq, if_true, if_false, Int.reduceAdd, Int.reduceSub, Int.reduceMul, Int.reduceLT, Int.reduceLE, Int.reduceEq, Int.reduceNe, Int.reduceNeg, Int.reduceToNat, Nat.reduceMul, Nat.reduceLT, Nat.reduceSub, Nat.reduceLeDiff]
              exact ⟨j + 1, by omega, by omega, by rw [htk]; exact ⟨[(51, .blk 51 0)], rfl, au0, au5, au4⟩⟩
            · rw [show (w.getD i 0 != 0) = true by simpa using h0] at htk
              simp (maxSteps := 1000000) (disch := first | omega | exact PairsOK.mk rfl | (simp only [lenW] <;> omega)) only [hjl, head_lsts hw, hiw, head_ints hg, h0, wordsN, Int.reduceGT, wordsR, ne_eq, wS_regionP, aAppend_slF, words, Nat.reduceAdd, Nat.reduceEqDiff, Nat.reduceBEq, ↓reduceIte, reduceCtorEq, SX.exit.injEq, if_true, if_false, Int.reduceAdd, Int.reduceSub, Int.reduceMul, Int.reduceLT, Int.reduceLE, Int.reduceEq, Int.reduceNe, Int.reduceNeg, Int.reduceToNat, Nat.reduceMul, Nat.reduceLT, Nat.reduceSub, Nat.reduceLeDiff]
              exact ⟨j + 1, by omega, by omega, by rw [htk]; exact ⟨[(51, .blk 51 0)], rfl, au0, au5, au4⟩⟩
        · have e : j = M.length := by omega
          simp (maxSteps := 1000000) (disch := first | omega | exact PairsOK.mk rfl | (simp only [lenW] <;> omega)) only [hjl, wordsN, Int.reduceGT, wordsR, ne_eq, wS_regionP, aAppend_slF, words, Nat.reduceAdd, Nat.reduceEqDiff, Nat.reduceBEq, ↓reduceIte, reduceCtorEq, SX.exit.injEq, if_true, if_false, Int.reduceAdd, Int.reduceSub, Int.reduceMul, Int.reduceLT, Int.reduceLE, Int.reduceEq, Int.reduceNe, Int.reduceNeg, Int.reduceToNat, Nat.reduceMul, Nat.reduceLT, Nat.reduceSub, Nat.reduceLeDiff]
          exact ⟨(), by rw [e, List.take_length]; exact ⟨[(51, .blk 51 0)], rfl, au0, au5, au4⟩⟩
      rintro _ -
      generalize (M.any fun w => w.getD i 0 != 0) = b3 at hsucc ⊢
      cases bb with
      | true =>
        rw [Bool.true_and] at hsucc
        simp (maxSteps := 1000000) (disch := first | omega | exact PairsOK.mk rfl | (simp only [lenW] <;> omega)) only [wordsN, Int.reduceGT, wordsR, ne_eq, wS_regionP, aAppend_slF, words, Nat.reduceAdd, Nat.reduceEqDiff, Nat.reduceBEq, ↓reduceIte, reduceCtorEq, SX.exit.injEq, if_true, if_false, Int.reduceAdd, Int.reduceSub, Int.reduceMul, Int.reduceLT, Int.reduceLE, Int.reduceEq, Int.reduceNe, Int.reduceNeg, Int.reduceToNat, Nat.reduceMul, Nat.reduceLT, Nat.reduceSub, Nat.reduceLeDiff]
        exact ⟨i + 1, by omega, by omega, by rw [hsucc]; exact ⟨[(51, .blk 51 0)], rfl, au0, au5, au4⟩⟩
      | false =>
        rw [Bool.false_and] at hsucc
        simp (maxSteps := 1000000) (disch := first | omega | exact PairsOK.mk rfl | (simp only [lenW] <;> omega)) only [wordsN, Int.reduceGT, wordsR, ne_eq, wS_regionP, aAppend_slF, words, Nat.reduceAdd, Nat.reduceEqDiff, Nat.reduceBEq, ↓reduceIte, reduceCtorEq, SX.exit.injEq, if_true, if_false, Int.reduceAdd, Int.reduceSub, Int.reduceMul, Int.reduceLT, Int.reduceLE, Int.reduceEq, Int.reduceNe, Int.reduceNeg, Int.reduceToNat, Nat.reduceMul, Nat.reduceLT, Nat.reduceSub, Nat.reduceLeDiff]
        exact ⟨i + 1, by omega, by omega, by rw [hsucc]; exact ⟨[(51, .blk 51 0)], rfl, au0, au5, au4⟩⟩
    · have e : i = K := by omega
      simp (maxSteps := 1000000) (disch := first | omega | exact PairsOK.mk rfl | (simp only [lenW] <;> omega)) only [hrl, hiK, wordsN, Int.reduceGT, wordsR, ne_eq, wS_regionP, aAppend_slF, words, Nat.reduceAdd, Nat.reduceEqDiff, Nat.reduceBEq, ↓reduceIte, reduceCtorEq, SX.exit.injEq, if_true, if_false, Int.reduceAdd, Int.reduceSub, Int.reduceMul, Int.reduceLT, Int.reduceLE, Int.reduceEq, Int.reduceNe, Int.reduceNeg, Int.reduceToNat, Nat.reduceMul, Nat.reduceLT, Nat.reduceSub, Nat.reduceLeDiff]
      exact ⟨(), by rw [e]; exact ⟨[], rfl, au0, au5, au4⟩⟩
  rintro _ -
  have hsame := sameLists M M (by omega) (fun w hw => by have := (hpr w hw).1; omega)
  rw [decide_eq_true rfl] at hsame
  generalize ((List.range K).all fun i => M.any fun w => w.getD i 0 != 0) = cv at hC ⊢
  simp (maxSteps := 1000000) (disch := first | omega | exact PairsOK.mk rfl | (simp only [lenW] <;> omega)) only [wordsN, Int.reduceGT, wordsR, ne_eq, wS_regionP, aAppend_slF, words, Nat.reduceAdd, Nat.reduceEqDiff, Nat.reduceBEq, ↓reduceIte, reduceCtorEq, SX.exit.injEq, if_true, if_false, Int.reduceAdd, Int.reduceSub, Int.reduceMul, Int.reduceLT, Int.reduceLE, Int.reduceEq, Int.reduceNe, Int.reduceNeg, Int.reduceToNat, Nat.reduceMul, Nat.reduceLT, Nat.reduceSub, Nat.reduceLeDiff]
  refine cp hsame ?_
  simp (maxSteps := 1000000) (disch := first | omega | exact PairsOK.mk rfl | (simp only [lenW] <;> omega)) only [aEq_bool, wordsN, Int.reduceGT, wordsR, ne_eq, wS_regionP, aAppend_slF, words, Nat.reduceAdd, Nat.reduceEqDiff, Nat.reduceBEq, ↓reduceIte, reduceCtorEq, SX.exit.injEq, if_true, if_false, Int.reduceAdd, Int.reduceSub, Int.reduceMul, Int.reduceLT, Int.reduceLE, Int.reduceEq, Int.reduceNe, Int.reduceNeg, Int.reduceToNat, Nat.reduceMul, Nat.reduceLT, Nat.reduceSub, Nat.reduceLeDiff]
  exact ⟨.inr trivial, rfl⟩
theorem law3_in (d0 : tySm.D) (d1 : (Ty.int .u8).D) (h0 : tySm.wf d0) (h1 : (Ty.int .u8).wf d1) :
    W2 Try.prog ⟨SJ.s3.n, 0⟩ SJ.s3.body (fun e B => (e = .normal ∨ e = .ret) ∧ resV B.T B.h SJ.s3.res = some [.bool true]) ⟨argT 0 [tySm.val d0, (Ty.int .u8).val d1], .e⟩ := by
  obtain ⟨s, hs, e0⟩ := sm_in h0
  have hk := u8_wf h1
  rw [e0, show (Ty.int .u8).val d1 = .int .u8 ((Int.toNat d1 : Nat) : Int) by rw [Int.toNat_of_nonneg hk.1]; rfl]
  exact law3 s hs (Int.toNat d1) (by omega)
end Go.AM.SN
