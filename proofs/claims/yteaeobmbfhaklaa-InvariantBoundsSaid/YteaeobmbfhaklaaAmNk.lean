/- The walk of InvariantIncidence, second part. Conditions: none of ours. -/
import Derived.Test.YteaeobmbfhaklaaAmNj
namespace Go.AM.SN
open Go.Proofs
set_option maxRecDepth 100000
set_option linter.unusedSimpArgs false
set_option linter.unusedVariables false

-- NR: noRefs_ints, noRefs_lsts, noRefs_pad, noRefs_tnC, noRefs_arcC, noRefs_u8s
theorem noRefs_arcC (l : List (Int × Int)) : noRefs (l.flatMap arcC) = true := noRefs_flat fun _ => rfl
theorem noRefs_tnC (l : List Tn) : noRefs (l.flatMap tnC) = true := noRefs_flat fun t => by simp only [tnC, noRefs, noRef_arcs, Bool.and_true]; rfl
theorem aEq_bool {ks : List LK} {neg a b : Bool} : aEq (.flat false ks) neg (.bool a) (.bool b) = some (.bool (decide (a = b) != neg)) := rfl
theorem tm2 (n : Nat) : Int.tmod (n : Int) 2 = ((n % 2 : Nat) : Int) := rfl
def wgt (w : List Nat) (i : Nat) : List Int := (List.range i).map fun p => ((w.getD p 0 % 4 : Nat) : Int)
theorem wgt_len (w : List Nat) (i : Nat) : (wgt w i).length = i := by simp [wgt]
theorem wgt_succ (w : List Nat) (i : Nat) : wgt w (i + 1) = wgt w i ++ [((w.getD i 0 % 4 : Nat) : Int)] := by simp [wgt, List.range_succ]
theorem wgt_get {w : List Nat} {n i : Nat} (h : i < n) : (wgt w n).getD i 0 = ((w.getD i 0 % 4 : Nat) : Int) := by
  simp [wgt, List.getD_eq_getElem?_getD, List.getElem?_range h]
theorem noRefs_sup (w : List Int) (i : Nat) : noRefs (ints (suppR w i)) = true := noRefs_ints _

set_option maxHeartbeats 8000000 in
theorem law7 (s : Sm) (ho : SmOk s) (w : List Nat) (hw : w.length = 5) (k : Nat) (hkb : k < 256) :
    W2 Try.prog ⟨s7.n, 0⟩ s7.body (fun e B => (e = .normal ∨ e = .ret) ∧ resV B.T B.h s7.res = some [.bool true]) ⟨argT 0 [.agg (smC s), .agg (u8s w), .int .u8 k], .e⟩ := by
  refine (wpC.toW (n := 64) (Q := fun e T h _ => (e = .normal ∨ e = .ret) ∧ resV T h s7.res = some [.bool true]) (show wS Try.prog ⟨s7.n, 0⟩ s7.body [] 64 _ _ _ from ?_)).mono fun e B ⟨_, h⟩ => h
  have hsm := noRef_sm s
  have hN := mkN_ok s
  have hsl : (smC s).length = 7 := by simp [smC, u8s, ho.ini]
  have ht7 : (smC s).take 7 = smC s := List.take_of_length_le (by omega)
  have h7 : (0 + 7 ≤ (smC s).length) = True := eq_true (by omega)
  simp (config := { maxSteps := 1000000 }) (disch := first | omega | (simp only [List.length_map, List.length_append, List.length_cons, List.length_nil, ints_len] <;> omega)) only [s7, wordsN, Int.reduceGT, wordsR, ne_eq, words, Nat.reduceAdd, Nat.reduceEqDiff, Nat.reduceBEq, ↓reduceIte, reduceCtorEq, SX.exit.injEq, if_true, if_false, Int.reduceAdd, Int.reduceSub, Int.reduceMul, Int.reduceLT, Int.reduceLE, Int.reduceEq, Int.reduceNe, Int.reduceNeg, Int.reduceToNat, Nat.reduceMul, Nat.reduceLT, Nat.reduceSub, Nat.reduceLeDiff]
  refine cp FV.known ?_
  simp (config := { maxSteps := 1000000 }) (disch := first | omega | (simp only [List.length_map, List.length_append, List.length_cons, List.length_nil, ints_len] <;> omega)) only [h7, ht7, wordsN, Int.reduceGT, wordsR, ne_eq, words, Nat.reduceAdd, Nat.reduceEqDiff, Nat.reduceBEq, ↓reduceIte, reduceCtorEq, SX.exit.injEq, if_true, if_false, Int.reduceAdd, Int.reduceSub, Int.reduceMul, Int.reduceLT, Int.reduceLE, Int.reduceEq, Int.reduceNe, Int.reduceNeg, Int.reduceToNat, Nat.reduceMul, Nat.reduceLT, Nat.reduceSub, Nat.reduceLeDiff]
  refine cp (make s ho) ?_
  simp (config := { maxSteps := 1000000 }) (disch := first | omega | (simp only [List.length_map, List.length_append, List.length_cons, List.length_nil, ints_len] <;> omega)) only [wordsN, Int.reduceGT, wordsR, ne_eq, words, Nat.reduceAdd, Nat.reduceEqDiff, Nat.reduceBEq, ↓reduceIte, reduceCtorEq, SX.exit.injEq, if_true, if_false, Int.reduceAdd, Int.reduceSub, Int.reduceMul, Int.reduceLT, Int.reduceLE, Int.reduceEq, Int.reduceNe, Int.reduceNeg, Int.reduceToNat, Nat.reduceMul, Nat.reduceLT, Nat.reduceSub, Nat.reduceLeDiff]
  refine cp (invIncidence _ hN) ?_
  simp (config := { maxSteps := 1000000 }) (disch := first | omega | (simp only [List.length_map, List.length_append, List.length_cons, List.length_nil, ints_len] <;> omega)) only [tm2, wordsN, Int.reduceGT, wordsR, ne_eq, words, Nat.reduceAdd, Nat.reduceEqDiff, Nat.reduceBEq, ↓reduceIte, reduceCtorEq, SX.exit.injEq, if_true, if_false, Int.reduceAdd, Int.reduceSub, Int.reduceMul, Int.reduceLT, Int.reduceLE, Int.reduceEq, Int.reduceNe, Int.reduceNeg, Int.reduceToNat, Nat.reduceMul, Nat.reduceLT, Nat.reduceSub, Nat.reduceLeDiff]
  refine cp (rows _ _ hN) ?_
  have hkk : (1 + ((k % 2 : Nat) : Int) = 1 ∨ 1 + ((k % 2 : Nat) : Int) = 2) := by omega
  generalize (1 + ((k % 2 : Nat) : Int)) = K at hkk
  simp (config := { maxSteps := 1000000 }) (disch := first | omega | (simp only [List.length_map, List.length_append, List.length_cons, List.length_nil, ints_len] <;> omega)) only [wordsN, Int.reduceGT, wordsR, ne_eq, words, Nat.reduceAdd, Nat.reduceEqDiff, Nat.reduceBEq, ↓reduceIte, reduceCtorEq, SX.exit.injEq, if_true, if_false, Int.reduceAdd, Int.reduceSub, Int.reduceMul, Int.reduceLT, Int.reduceLE, Int.reduceEq, Int.reduceNe, Int.reduceNeg, Int.reduceToNat, Nat.reduceMul, Nat.reduceLT, Nat.reduceSub, Nat.reduceLeDiff]
  have hR5 : (rowsR (mkN s) K).length ≤ 5 := by
    rw [rowsR_len, tabC]; split
    · rw [mkN_places]; unfold plN; omega
    · rw [mkN_trans]; omega
  generalize hRd : rowsR (mkN s) K = R at hR5
  have hw5 : ∀ p, p < 5 → (u8s w)[p]? = some (.int .u8 ((w.getD p 0 : Nat) : Int)) := fun p hp => by
    obtain ⟨x, hx⟩ := get_ex (l := w) (i := p) (by omega)
    simp [u8s, hx, List.getD_eq_getElem?_getD]
  have hWl := wgt_len w R.length
  refine wS_loopX 200 (fun i : Nat => [(4, .ptr 65 0 0), (7, .ptr 71 0 0), (8, lsts (incM (mkN s))), (9, .int .i64 0), (10, .int .i64 K), (11, lsts R), (12, .sl 50 0 0 i 1), (13, .sl 51 0 0 (suppR (wgt w R.length) i).length 1), (14, .int .i64 i)])
    (fun i => [(50, .cells 0 (ints (wgt w i))), (51, .cells 0 (ints (suppR (wgt w R.length) i))), (65, .cells 0 (u8s w)), (71, .cells 0 [sli (mkN s).ini, tns (mkN s).tr])])
    (fun i => i ≤ R.length) (fun i => R.length - i) 0 0 300
    (fun _ : Unit => [(7, .ptr 71 0 0), (8, lsts (incM (mkN s))), (9, .int .i64 0), (10, .int .i64 K), (11, lsts R), (12, sli (wgt w R.length)), (13, sli (suppR (wgt w R.length) R.length))])
    (fun _ => [(71, .cells 0 [sli (mkN s).ini, tns (mkN s).tr])]) (fun _ => True) ?_ (Nat.zero_le _) ?_ ?_
  · refine ⟨[(50, .nil), (51, .nil), (65, .blk 65 0), (71, .blk 71 0)], rfl, ?_, (by repeat (first | exact RT.nil | (refine RT.cons ?_ ?_; · (first | exact Rn.any | exact Rn.sl (Nat.zero_le _) rfl | exact Rn.ptr (Nat.zero_le _) rfl | exact Rn.map (Nat.zero_le _) rfl | exact Rn.slnil (Nat.zero_le _) rfl | (refine Rn.slot ?_ ?_; (first | rfl | (rw [Int.natCast_add]; rfl)); (first | rfl | (simp only [noRef, noRefs, noRefs_append, Bool.and_self, Bool.and_true, Bool.true_and, noRefs_ints, noRefs_lsts, noRefs_pad, noRefs_tnC, noRefs_arcC, noRefs_u8s]; done)))))))⟩
    refine RB.newnil rfl (RB.newnil rfl (RB.cells rfl rfl (RnL.same (noRefs_u8s _)) ?_))
    repeat' (first | exact RB.nil | (refine RnL.same ?_; first | rfl | (simp only [noRef, noRefs, noRefs_append, Bool.and_self, Bool.and_true, Bool.true_and, noRefs_ints, noRefs_lsts, noRefs_pad, noRefs_tnC, noRefs_arcC, noRefs_u8s]; done)) | exact RnL.nil | refine RnL.cons ?_ ?_ | (refine Rn.same ?_; first | rfl | (simp only [noRef, noRefs, noRefs_append, Bool.and_self, Bool.and_true, Bool.true_and, noRefs_ints, noRefs_lsts, noRefs_pad, noRefs_tnC, noRefs_arcC, noRefs_u8s]; done)) | exact Rn.sl (Nat.zero_le _) rfl | exact Rn.ptr (Nat.zero_le _) rfl | exact Rn.map (Nat.zero_le _) rfl | exact Rn.slnil (Nat.zero_le _) rfl | refine RB.newnil rfl ?_ | refine RB.cells rfl rfl ?_ ?_ | refine RB.map rfl rfl ?_ ?_)
  · intro i hi
    have hs := suppR_succ (wgt w R.length) i
    have hl := suppR_len (wgt w R.length) i
    have hws := wgt_succ w i
    have hwl := wgt_len w i
    by_cases hlt : i < R.length
    · rw [wgt_get hlt] at hs
      have hi5 : (i : Int) < 5 := by omega
      have hb : w.getD i 0 % 4 < 4 := Nat.mod_lt _ (by decide)
      have hg := hw5 i (by omega)
      by_cases h0 : w.getD i 0 % 4 = 0
      · rw [h0] at hs hws
        rw [if_pos (show ((0 : Nat) : Int) = 0 from rfl), List.append_nil] at hs
        simp (config := { maxSteps := 1000000 }) (disch := first | omega | (simp only [List.length_map, List.length_append, List.length_cons, List.length_nil, ints_len] <;> omega)) only [hlt, hi5, hg, tm4, h0, ints_len, hwl, wordsN, Int.reduceGT, wordsR, ne_eq, words, Nat.reduceAdd, Nat.reduceEqDiff, Nat.reduceBEq, ↓reduceIte, reduceCtorEq, SX.exit.injEq, if_true, if_false, Int.reduceAdd, Int.reduceSub, Int.reduceMul, Int.reduceLT, Int.reduceLE, Int.reduceEq, Int.reduceNe, Int.reduceNeg, Int.reduceToNat, Nat.reduceMul, Nat.reduceLT, Nat.reduceSub, Nat.reduceLeDiff]
        refine ⟨i + 1, by omega, by omega, ?_⟩
        rw [hs]
        refine ⟨[(50, .blk 50 1), (51, .blk 51 0), (65, .blk 65 0), (71, .blk 71 0)], rfl, ?_, (by repeat (first | exact RT.nil | (refine RT.cons ?_ ?_; · (first | exact Rn.any | exact Rn.sl (Nat.zero_le _) rfl | exact Rn.ptr (Nat.zero_le _) rfl | exact Rn.map (Nat.zero_le _) rfl | exact Rn.slnil (Nat.zero_le _) rfl | (refine Rn.slot ?_ ?_; (first | rfl | (rw [Int.natCast_add]; rfl)); (first | rfl | (simp only [noRef, noRefs, noRefs_append, Bool.and_self, Bool.and_true, Bool.true_and, noRefs_ints, noRefs_lsts, noRefs_pad, noRefs_tnC, noRefs_arcC, noRefs_u8s]; done)))))))⟩
        refine RB.cells rfl rfl (RnL.eq (by rw [hws, ints_append]; rfl) (noRefs_ints _)) (RB.cells rfl rfl (RnL.same (noRefs_ints _)) (RB.cells rfl rfl (RnL.same (noRefs_u8s _)) ?_))
        repeat' (first | exact RB.nil | (refine RnL.same ?_; first | rfl | (simp only [noRef, noRefs, noRefs_append, Bool.and_self, Bool.and_true, Bool.true_and, noRefs_ints, noRefs_lsts, noRefs_pad, noRefs_tnC, noRefs_arcC, noRefs_u8s]; done)) | exact RnL.nil | refine RnL.cons ?_ ?_ | (refine Rn.same ?_; first | rfl | (simp only [noRef, noRefs, noRefs_append, Bool.and_self, Bool.and_true, Bool.true_and, noRefs_ints, noRefs_lsts, noRefs_pad, noRefs_tnC, noRefs_arcC, noRefs_u8s]; done)) | exact Rn.sl (Nat.zero_le _) rfl | exact Rn.ptr (Nat.zero_le _) rfl | exact Rn.map (Nat.zero_le _) rfl | exact Rn.slnil (Nat.zero_le _) rfl | refine RB.newnil rfl ?_ | refine RB.cells rfl rfl ?_ ?_ | refine RB.map rfl rfl ?_ ?_)
      · have h0' : ¬ ((w.getD i 0 % 4 : Nat) : Int) = 0 := by omega
        rw [if_neg h0'] at hs
        simp (config := { maxSteps := 1000000 }) (disch := first | omega | (simp only [List.length_map, List.length_append, List.length_cons, List.length_nil, ints_len] <;> omega)) only [hlt, hi5, hg, tm4, h0', ints_len, hwl, wordsN, Int.reduceGT, wordsR, ne_eq, words, Nat.reduceAdd, Nat.reduceEqDiff, Nat.reduceBEq, ↓reduceIte, reduceCtorEq, SX.exit.injEq, if_true, if_false, Int.reduceAdd, Int.reduceSub, Int.reduceMul, Int.reduceLT, Int.reduceLE, Int.reduceEq, Int.reduceNe, Int.reduceNeg, Int.reduceToNat, Nat.reduceMul, Nat.reduceLT, Nat.reduceSub, Nat.reduceLeDiff]

        refine ⟨i + 1, by omega, by omega, ?_⟩
        rw [hs, List.length_append]
        refine ⟨[(50, .blk 50 1), (51, .blk 51 1), (65, .blk 65 0), (71, .blk 71 0)], rfl, ?_, (by repeat (first | exact RT.nil | (refine RT.cons ?_ ?_; · (first | exact Rn.any | exact Rn.sl (Nat.zero_le _) rfl | exact Rn.ptr (Nat.zero_le _) rfl | exact Rn.map (Nat.zero_le _) rfl | exact Rn.slnil (Nat.zero_le _) rfl | (refine Rn.slot ?_ ?_; (first | rfl | (rw [Int.natCast_add]; rfl)); (first | rfl | (simp only [noRef, noRefs, noRefs_append, Bool.and_self, Bool.and_true, Bool.true_and, noRefs_ints, noRefs_lsts, noRefs_pad, noRefs_tnC, noRefs_arcC, noRefs_u8s]; done)))))))⟩
        refine RB.cells rfl rfl (RnL.eq (by rw [hws, ints_append]; rfl) (noRefs_ints _)) (RB.cells rfl rfl (RnL.eq (by rw [ints_append]; rfl) (noRefs_ints _)) (RB.cells rfl rfl (RnL.same (noRefs_u8s _)) ?_))
        repeat' (first | exact RB.nil | (refine RnL.same ?_; first | rfl | (simp only [noRef, noRefs, noRefs_append, Bool.and_self, Bool.and_true, Bool.true_and, noRefs_ints, noRefs_lsts, noRefs_pad, noRefs_tnC, noRefs_arcC, noRefs_u8s]; done)) | exact RnL.nil | refine RnL.cons ?_ ?_ | (refine Rn.same ?_; first | rfl | (simp only [noRef, noRefs, noRefs_append, Bool.and_self, Bool.and_true, Bool.true_and, noRefs_ints, noRefs_lsts, noRefs_pad, noRefs_tnC, noRefs_arcC, noRefs_u8s]; done)) | exact Rn.sl (Nat.zero_le _) rfl | exact Rn.ptr (Nat.zero_le _) rfl | exact Rn.map (Nat.zero_le _) rfl | exact Rn.slnil (Nat.zero_le _) rfl | refine RB.newnil rfl ?_ | refine RB.cells rfl rfl ?_ ?_ | refine RB.map rfl rfl ?_ ?_)
    · have e : i = R.length := by omega
      simp (config := { maxSteps := 1000000 }) (disch := first | omega | (simp only [List.length_map, List.length_append, List.length_cons, List.length_nil, ints_len] <;> omega)) only [hlt, wordsN, Int.reduceGT, wordsR, ne_eq, words, Nat.reduceAdd, Nat.reduceEqDiff, Nat.reduceBEq, ↓reduceIte, reduceCtorEq, SX.exit.injEq, if_true, if_false, Int.reduceAdd, Int.reduceSub, Int.reduceMul, Int.reduceLT, Int.reduceLE, Int.reduceEq, Int.reduceNe, Int.reduceNeg, Int.reduceToNat, Nat.reduceMul, Nat.reduceLT, Nat.reduceSub, Nat.reduceLeDiff]
      refine ⟨(), ?_⟩
      refine ⟨[(71, .blk 71 0)], rfl, ?_, ?_⟩
      · repeat' (first | exact RB.nil | (refine RnL.same ?_; first | rfl | (simp only [noRef, noRefs, noRefs_append, Bool.and_self, Bool.and_true, Bool.true_and, noRefs_ints, noRefs_lsts, noRefs_pad, noRefs_tnC, noRefs_arcC, noRefs_u8s]; done)) | exact RnL.nil | refine RnL.cons ?_ ?_ | (refine Rn.same ?_; first | rfl | (simp only [noRef, noRefs, noRefs_append, Bool.and_self, Bool.and_true, Bool.true_and, noRefs_ints, noRefs_lsts, noRefs_pad, noRefs_tnC, noRefs_arcC, noRefs_u8s]; done)) | exact Rn.sl (Nat.zero_le _) rfl | exact Rn.ptr (Nat.zero_le _) rfl | exact Rn.map (Nat.zero_le _) rfl | exact Rn.slnil (Nat.zero_le _) rfl | refine RB.newnil rfl ?_ | refine RB.cells rfl rfl ?_ ?_ | refine RB.map rfl rfl ?_ ?_)
      · refine RT.cons' rfl ?_ (RT.cons' rfl ?_ (RT.cons' rfl ?_ (RT.cons' rfl ?_ (RT.cons' rfl ?_ (RT.cons' rfl (Rn.fzm rfl rfl rfl (by rw [hWl, e]) (by rw [ints_len, hwl]; omega) (RnL.eq (by rw [e]) (noRefs_ints _))) (RT.cons' rfl (Rn.fzm rfl rfl rfl (by rw [e]) (by rw [ints_len]; omega) (RnL.eq (by rw [e]) (noRefs_ints _))) RT.nil)))))) <;> repeat' (first | exact RB.nil | (refine RnL.same ?_; first | rfl | (simp only [noRef, noRefs, noRefs_append, Bool.and_self, Bool.and_true, Bool.true_and, noRefs_ints, noRefs_lsts, noRefs_pad, noRefs_tnC, noRefs_arcC, noRefs_u8s]; done)) | exact RnL.nil | refine RnL.cons ?_ ?_ | (refine Rn.same ?_; first | rfl | (simp only [noRef, noRefs, noRefs_append, Bool.and_self, Bool.and_true, Bool.true_and, noRefs_ints, noRefs_lsts, noRefs_pad, noRefs_tnC, noRefs_arcC, noRefs_u8s]; done)) | exact Rn.sl (Nat.zero_le _) rfl | exact Rn.ptr (Nat.zero_le _) rfl | exact Rn.map (Nat.zero_le _) rfl | exact Rn.slnil (Nat.zero_le _) rfl | refine RB.newnil rfl ?_ | refine RB.cells rfl rfl ?_ ?_ | refine RB.map rfl rfl ?_ ?_)
  rintro _ -
  have hR1 : (wgt w R.length).length = tabC (mkN s) K := by rw [hWl, ← hRd, rowsR_len]
  have hsm1 : ∀ (r : List Int), (∀ y ∈ r, -8 ≤ y ∧ y ≤ 8) → ∀ y ∈ r, sm y := fun r hr y hy => by have := hr y hy; unfold sm; omega
  have hwb : ∀ y ∈ wgt w R.length, 0 ≤ y ∧ y ≤ 3 := fun y hy => by
    simp only [wgt, List.mem_map] at hy
    obtain ⟨p, _, rfl⟩ := hy
    omega
  have hpl : 0 < (mkN s).ini.length := by rw [mkN_places]; unfold plN; omega
  have hplc := hN.places
  have htr := hN.trans
  have hflow := flows_bal (mkN s) K (wgt w R.length) hpl (by rw [hRd, hWl])
  have hsemi := isSemiflow (mkN s) K (wgt w R.length) (tabC (mkN s) K) (tabR (mkN s) K) (newTable _ hN K hkk) (by unfold tabC; split <;> omega) (by unfold tabR; split <;> simp [colM, incM] <;> omega) hR1
    (tabR_len _ _) (tabR_all K (fun p => hsm1 _ (incR_bound hN p)) (fun t => hsm1 _ (colR_bound hN t))) (fun y hy => by have := hwb y hy; unfold okT; omega)
  have hbal := balanced R (wgt w R.length) (by omega) (by omega) (fun r hr => by
      rw [← hRd] at hr ⊢
      have h1 : ∀ r ∈ rowsR (mkN s) K, r.length = (if K = 1 then (mkN s).tr.length else (mkN s).ini.length) := by
        unfold rowsR
        by_cases hk1 : K = 1
        · simp only [if_pos hk1]; intro r hr; simp only [incM, List.mem_map] at hr; obtain ⟨t, _, rfl⟩ := hr; exact incR_len _ t
        · simp only [if_neg hk1]; intro r hr; simp only [colM, List.mem_map] at hr; obtain ⟨t, _, rfl⟩ := hr; exact colR_len _ t
      rw [h1 r hr]
      cases hq : rowsR (mkN s) K with
      | nil => rw [hq] at hr; cases hr
      | cons a l => rw [List.headD_cons, h1 a (by rw [hq]; simp)]) (by
      rw [← hRd]
      unfold rowsR
      split
      · cases hq : incM (mkN s) with
        | nil => simp
        | cons a l =>
          have : a ∈ incM (mkN s) := by rw [hq]; simp
          simp only [incM, List.mem_map] at this
          obtain ⟨t, _, rfl⟩ := this
          rw [List.headD_cons, incR_len]; omega
      · cases hq : colM (mkN s) with
        | nil => simp
        | cons a l =>
          have : a ∈ colM (mkN s) := by rw [hq]; simp
          simp only [colM, List.mem_map] at this
          obtain ⟨t, _, rfl⟩ := this
          rw [List.headD_cons, colR_len]; omega)
    (by rw [← hRd]; exact rowsR_all K (fun p => hsm1 _ (incR_bound hN p)) (fun t => hsm1 _ (colR_bound hN t))) (fun y hy => by have := hwb y hy; unfold sm; omega)
  rw [hRd] at hflow
  rw [hflow] at hsemi
  simp (config := { maxSteps := 1000000 }) (disch := first | omega | (simp only [List.length_map, List.length_append, List.length_cons, List.length_nil, ints_len] <;> omega)) only [wordsN, Int.reduceGT, wordsR, ne_eq, words, Nat.reduceAdd, Nat.reduceEqDiff, Nat.reduceBEq, ↓reduceIte, reduceCtorEq, SX.exit.injEq, if_true, if_false, Int.reduceAdd, Int.reduceSub, Int.reduceMul, Int.reduceLT, Int.reduceLE, Int.reduceEq, Int.reduceNe, Int.reduceNeg, Int.reduceToNat, Nat.reduceMul, Nat.reduceLT, Nat.reduceSub, Nat.reduceLeDiff]
  refine cp hsemi ?_
  simp (config := { maxSteps := 1000000 }) (disch := first | omega | (simp only [List.length_map, List.length_append, List.length_cons, List.length_nil, ints_len] <;> omega)) only [wordsN, Int.reduceGT, wordsR, ne_eq, words, Nat.reduceAdd, Nat.reduceEqDiff, Nat.reduceBEq, ↓reduceIte, reduceCtorEq, SX.exit.injEq, if_true, if_false, Int.reduceAdd, Int.reduceSub, Int.reduceMul, Int.reduceLT, Int.reduceLE, Int.reduceEq, Int.reduceNe, Int.reduceNeg, Int.reduceToNat, Nat.reduceMul, Nat.reduceLT, Nat.reduceSub, Nat.reduceLeDiff]
  refine cp (zero _ (by omega)) ?_
  have hinc := incidence (mkN s) hN
  have hsl2 := sameLists (incM (mkN s)) (incM (mkN s)) (by simp [incM]; omega) (fun x hx => by simp only [incM, List.mem_map] at hx; obtain ⟨t, _, rfl⟩ := hx; rw [incR_len]; omega)
  have hsup := support (wgt w R.length) (by omega)
  have hsame := same (suppR (wgt w R.length) R.length) (suppR (wgt w R.length) R.length) (by have := suppR_len (wgt w R.length) R.length; omega)
  rw [hWl] at hsup
  simp only [decide_true] at hsl2 hsame
  cases hz : (wgt w R.length).all (· == 0) with
  | true =>
    simp (config := { maxSteps := 1000000 }) (disch := first | omega | (simp only [List.length_map, List.length_append, List.length_cons, List.length_nil, ints_len] <;> omega)) only [hz, wordsN, Int.reduceGT, wordsR, ne_eq, words, Nat.reduceAdd, Nat.reduceEqDiff, Nat.reduceBEq, ↓reduceIte, reduceCtorEq, SX.exit.injEq, if_true, if_false, Int.reduceAdd, Int.reduceSub, Int.reduceMul, Int.reduceLT, Int.reduceLE, Int.reduceEq, Int.reduceNe, Int.reduceNeg, Int.reduceToNat, Nat.reduceMul, Nat.reduceLT, Nat.reduceSub, Nat.reduceLeDiff]
    refine cp hinc ?_
    simp (config := { maxSteps := 1000000 }) (disch := first | omega | (simp only [List.length_map, List.length_append, List.length_cons, List.length_nil, ints_len] <;> omega)) only [wordsN, Int.reduceGT, wordsR, ne_eq, words, Nat.reduceAdd, Nat.reduceEqDiff, Nat.reduceBEq, ↓reduceIte, reduceCtorEq, SX.exit.injEq, if_true, if_false, Int.reduceAdd, Int.reduceSub, Int.reduceMul, Int.reduceLT, Int.reduceLE, Int.reduceEq, Int.reduceNe, Int.reduceNeg, Int.reduceToNat, Nat.reduceMul, Nat.reduceLT, Nat.reduceSub, Nat.reduceLeDiff]
    refine cp hsl2 ?_
    simp (config := { maxSteps := 1000000 }) (disch := first | omega | (simp only [List.length_map, List.length_append, List.length_cons, List.length_nil, ints_len] <;> omega)) only [Bool.false_and, aEq_bool, wordsN, Int.reduceGT, wordsR, ne_eq, words, Nat.reduceAdd, Nat.reduceEqDiff, Nat.reduceBEq, ↓reduceIte, reduceCtorEq, SX.exit.injEq, if_true, if_false, Int.reduceAdd, Int.reduceSub, Int.reduceMul, Int.reduceLT, Int.reduceLE, Int.reduceEq, Int.reduceNe, Int.reduceNeg, Int.reduceToNat, Nat.reduceMul, Nat.reduceLT, Nat.reduceSub, Nat.reduceLeDiff]
    refine cp hsup ?_
    simp (config := { maxSteps := 1000000 }) (disch := first | omega | (simp only [List.length_map, List.length_append, List.length_cons, List.length_nil, ints_len] <;> omega)) only [wordsN, Int.reduceGT, wordsR, ne_eq, words, Nat.reduceAdd, Nat.reduceEqDiff, Nat.reduceBEq, ↓reduceIte, reduceCtorEq, SX.exit.injEq, if_true, if_false, Int.reduceAdd, Int.reduceSub, Int.reduceMul, Int.reduceLT, Int.reduceLE, Int.reduceEq, Int.reduceNe, Int.reduceNeg, Int.reduceToNat, Nat.reduceMul, Nat.reduceLT, Nat.reduceSub, Nat.reduceLeDiff]
    refine cp hsame ?_
    simp (config := { maxSteps := 1000000 }) (disch := first | omega | (simp only [List.length_map, List.length_append, List.length_cons, List.length_nil, ints_len] <;> omega)) only [wordsN, Int.reduceGT, wordsR, ne_eq, words, Nat.reduceAdd, Nat.reduceEqDiff, Nat.reduceBEq, ↓reduceIte, reduceCtorEq, SX.exit.injEq, if_true, if_false, Int.reduceAdd, Int.reduceSub, Int.reduceMul, Int.reduceLT, Int.reduceLE, Int.reduceEq, Int.reduceNe, Int.reduceNeg, Int.reduceToNat, Nat.reduceMul, Nat.reduceLT, Nat.reduceSub, Nat.reduceLeDiff]
    exact ⟨.inr trivial, rfl⟩
  | false =>
    simp (config := { maxSteps := 1000000 }) (disch := first | omega | (simp only [List.length_map, List.length_append, List.length_cons, List.length_nil, ints_len] <;> omega)) only [hz, wordsN, Int.reduceGT, wordsR, ne_eq, words, Nat.reduceAdd, Nat.reduceEqDiff, Nat.reduceBEq, ↓reduceIte, reduceCtorEq, SX.exit.injEq, if_true, if_false, Int.reduceAdd, Int.reduceSub, Int.reduceMul, Int.reduceLT, Int.reduceLE, Int.reduceEq, Int.reduceNe, Int.reduceNeg, Int.reduceToNat, Nat.reduceMul, Nat.reduceLT, Nat.reduceSub, Nat.reduceLeDiff]
    refine cp hbal ?_
    simp (config := { maxSteps := 1000000 }) (disch := first | omega | (simp only [List.length_map, List.length_append, List.length_cons, List.length_nil, ints_len] <;> omega)) only [wordsN, Int.reduceGT, wordsR, ne_eq, words, Nat.reduceAdd, Nat.reduceEqDiff, Nat.reduceBEq, ↓reduceIte, reduceCtorEq, SX.exit.injEq, if_true, if_false, Int.reduceAdd, Int.reduceSub, Int.reduceMul, Int.reduceLT, Int.reduceLE, Int.reduceEq, Int.reduceNe, Int.reduceNeg, Int.reduceToNat, Nat.reduceMul, Nat.reduceLT, Nat.reduceSub, Nat.reduceLeDiff]
    refine cp hinc ?_
    simp (config := { maxSteps := 1000000 }) (disch := first | omega | (simp only [List.length_map, List.length_append, List.length_cons, List.length_nil, ints_len] <;> omega)) only [wordsN, Int.reduceGT, wordsR, ne_eq, words, Nat.reduceAdd, Nat.reduceEqDiff, Nat.reduceBEq, ↓reduceIte, reduceCtorEq, SX.exit.injEq, if_true, if_false, Int.reduceAdd, Int.reduceSub, Int.reduceMul, Int.reduceLT, Int.reduceLE, Int.reduceEq, Int.reduceNe, Int.reduceNeg, Int.reduceToNat, Nat.reduceMul, Nat.reduceLT, Nat.reduceSub, Nat.reduceLeDiff]
    refine cp hsl2 ?_
    simp (config := { maxSteps := 1000000 }) (disch := first | omega | (simp only [List.length_map, List.length_append, List.length_cons, List.length_nil, ints_len] <;> omega)) only [aEq_bool, wordsN, Int.reduceGT, wordsR, ne_eq, words, Nat.reduceAdd, Nat.reduceEqDiff, Nat.reduceBEq, ↓reduceIte, reduceCtorEq, SX.exit.injEq, if_true, if_false, Int.reduceAdd, Int.reduceSub, Int.reduceMul, Int.reduceLT, Int.reduceLE, Int.reduceEq, Int.reduceNe, Int.reduceNeg, Int.reduceToNat, Nat.reduceMul, Nat.reduceLT, Nat.reduceSub, Nat.reduceLeDiff]
    refine cp hsup ?_
    simp (config := { maxSteps := 1000000 }) (disch := first | omega | (simp only [List.length_map, List.length_append, List.length_cons, List.length_nil, ints_len] <;> omega)) only [wordsN, Int.reduceGT, wordsR, ne_eq, words, Nat.reduceAdd, Nat.reduceEqDiff, Nat.reduceBEq, ↓reduceIte, reduceCtorEq, SX.exit.injEq, if_true, if_false, Int.reduceAdd, Int.reduceSub, Int.reduceMul, Int.reduceLT, Int.reduceLE, Int.reduceEq, Int.reduceNe, Int.reduceNeg, Int.reduceToNat, Nat.reduceMul, Nat.reduceLT, Nat.reduceSub, Nat.reduceLeDiff]
    refine cp hsame ?_
    simp (config := { maxSteps := 1000000 }) (disch := first | omega | (simp only [List.length_map, List.length_append, List.length_cons, List.length_nil, ints_len] <;> omega)) only [wordsN, Int.reduceGT, wordsR, ne_eq, words, Nat.reduceAdd, Nat.reduceEqDiff, Nat.reduceBEq, ↓reduceIte, reduceCtorEq, SX.exit.injEq, if_true, if_false, Int.reduceAdd, Int.reduceSub, Int.reduceMul, Int.reduceLT, Int.reduceLE, Int.reduceEq, Int.reduceNe, Int.reduceNeg, Int.reduceToNat, Nat.reduceMul, Nat.reduceLT, Nat.reduceSub, Nat.reduceLeDiff]
    exact ⟨.inr trivial, rfl⟩

theorem law7_in (d0 : tySm.D) (d1 : ty5.D) (d2 : (Ty.int .u8).D) (h0 : tySm.wf d0) (h1 : ty5.wf d1) (h2 : (Ty.int .u8).wf d2) :
    W2 Try.prog ⟨s7.n, 0⟩ s7.body (fun e B => (e = .normal ∨ e = .ret) ∧ resV B.T B.h s7.res = some [.bool true]) ⟨argT 0 [tySm.val d0, ty5.val d1, (Ty.int .u8).val d2], .e⟩ := by
  obtain ⟨s, hs, e0⟩ := sm_in h0
  obtain ⟨w, hw, _, e1⟩ := arr5_in h1
  have hk := u8_wf h2
  rw [e0, show ty5.val d1 = .agg (u8s w) from congrArg AV.agg e1, show (Ty.int .u8).val d2 = .int .u8 ((Int.toNat d2 : Nat) : Int) by rw [Int.toNat_of_nonneg hk.1]; rfl]
  exact law7 s hs w hw (Int.toNat d2) (by omega)
end Go.AM.SN
