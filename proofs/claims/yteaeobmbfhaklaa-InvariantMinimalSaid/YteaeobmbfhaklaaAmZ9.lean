/- A part of the proof of InvariantMinimal: lemmas on the way (AmMc, AmMy, AmTa, AmTb, AmMh, AmMj, AmMk, AmMl, AmMm, AmPa, AmPb, AmTc, AmTd, AmTe, AmKe). Conditions: none of ours. -/
import Derived.Test.YteaeobmbfhaklaaProg
import Derived.KernelRfl
import Derived.Test.YteaeobmbfhaklaaAmZ8
set_option linter.unusedSectionVars false
namespace Go.AM.SN
open Go.Proofs Go.AM.SK
set_option maxRecDepth 100000
set_option linter.unusedSimpArgs false
set_option linter.unusedVariables false
theorem noRefs_flat10 (n : Nat) (M : Mx) : noRefs (flat10 n M) = true := noRefs_ints _
theorem flatVs_ints (l : List Int) : flatVs (ints l) = true := by
  induction l with
  | nil => rfl
  | cons x l ih => simp only [ints, List.map_cons, flatVs, flatV, Bool.true_and]; exact ih
theorem toNat_add (a b : Nat) : ((a : Int) + (b : Int)).toNat = a + b := by omega
theorem _root_.Go.AM.au7 {p : Prop} (h : p := by repeat (first | exact RT.nil | (refine RT.cons ?_ ?_; · (first | exact Rn.any | exact Rn.x1 rfl rfl | exact Rn.x2 rfl rfl | exact Rn.x3 rfl rfl | exact Rn.x4 rfl rfl | exact Rn.x5 rfl | exact Rn.x6 rfl | exact Rn.x7 rfl | (refine Rn.slot ?_ ?_; (first | rfl | (rw [Int.natCast_add]; rfl)); (first | rfl | (simp only [noRef, noRefs, noRefs_append, Bool.and_self, Bool.and_true, Bool.true_and, noRefs_flat10, noRefs_ints, noRefs_lsts, noRefs_pad, noRefs_tnC, noRefs_arcC, noRefs_rowF]; done))) | (refine Rn.fn ?_ ?_ <;> (repeat' (first | exact RnL.nil | refine RnL.cons ?_ ?_ | exact Rn.same rfl | exact Rn.x6 rfl | exact Rn.x2 rfl rfl | exact Rn.x5 rfl | exact Rn.x1 rfl rfl))))))) : p := h
theorem _root_.Go.AM.au8 {p : Prop} (h : p := by repeat' (first | exact RB.nil | (refine RnL.same ?_; first | rfl | (simp only [noRef, noRefs, noRefs_append, Bool.and_self, Bool.and_true, Bool.true_and, noRefs_flat10, noRefs_ints, noRefs_lsts, noRefs_pad, noRefs_tnC, noRefs_arcC, noRefs_rowF]; done)) | exact RnM.keyM rfl | exact RnL.nil | refine RnL.cons ?_ ?_ | (refine Rn.same ?_; first | rfl | (simp only [noRef, noRefs, noRefs_append, Bool.and_self, Bool.and_true, Bool.true_and, noRefs_flat10, noRefs_ints, noRefs_lsts, noRefs_pad, noRefs_tnC, noRefs_arcC, noRefs_rowF]; done)) | exact Rn.x1 rfl rfl | exact Rn.x2 rfl rfl | exact Rn.x3 rfl rfl | exact Rn.x4 rfl rfl | exact Rn.x5 rfl | exact Rn.x6 rfl | exact Rn.x7 rfl | refine RB.newnil rfl rfl ?_ | refine RB.cells rfl rfl rfl ?_ ?_ | refine RB.map rfl rfl rfl ?_ ?_ | refine RB.cellsB rfl rfl ?_ ?_ | refine RB.mapB rfl rfl ?_ ?_)) : p := h
set_option maxHeartbeats 16000000 in
theorem kernelF (R : List (List Int)) (K : Nat) (cols : List Nat) (hK : K ≤ 10) (hR : R.length ≤ 100) (hRk : ∀ r ∈ R, r.length = K) (hc : ∀ c ∈ cols, c < K) (hn : cols.length ≤ 10) (hb : KBd R cols) :
    FSpec Try.prog 61 [tabV K R, sli (colI cols)] (kerV (kerR R cols)) := by
  refine FSpec.of_wS 64 SK.ok61 rfl (by (try simp only [noRefs, noRef_net, noRef_sli, noRef_lsts, noRef_arcs, noRef_tns, noRef_tab]) <;> rfl) (by unfold kerV; split <;> simp only [noRef, noRefs, noRefs_ints] <;> rfl) ?_
  have hcl : (80 : Int) * (R.length : Int) ≤ 1099511627776 := by omega
  have hcl2 : (R.length : Int) ≤ 1099511627776 := by omega
  have hR10 : ∀ r ∈ R, r.length ≤ 10 := fun r hr => by rw [hRk r hr]; exact hK
  have hcil := colI_len cols
  simp (maxSteps := 1000000) (disch := first | omega | (simp only [lenW] <;> omega)) only [SK.s61, hcl, hcl2, wordsN, Int.reduceGT, wordsR, ne_eq, words, Nat.reduceAdd, Nat.reduceEqDiff, Nat.reduceBEq, ↓reduceIte, reduceCtorEq, SX.exit.injEq, if_true, if_false, Int.reduceAdd, Int.reduceSub, Int.reduceMul, Int.reduceLT, Int.reduceLE, Int.reduceEq, Int.reduceNe, Int.reduceNeg, Int.reduceToNat, Nat.reduceMul, Nat.reduceLT, Nat.reduceSub, Nat.reduceLeDiff]
  refine wS_loopX 100 (fun a : Nat => [(1, sli (colI cols)), (6, .sl 50 0 0 (rows0 (R.take a) cols).length 10), (32, .fsl (R.flatMap pad) R.length 10), (33, .int .i64 R.length), (34, .int .i64 a)])
    (fun a => [(50, .cells 0 ((rows0 (R.take a) cols).flatMap pad))]) (fun a => a ≤ R.length) (fun a => R.length - a) 0 0 400
    (fun _ : Unit => [(1, sli (colI cols)), (6, .sl 50 0 0 (rows0 R cols).length 10)]) (fun _ => [(50, .cells 0 (flat10 (rows0 R cols).length (mx (rows0 R cols))))]) (fun _ => True) ?_ (Nat.zero_le _) ?_ ?_
  · refine ⟨[(50, .blk 70 0)], rfl, au0, ?_, au7⟩
    exact RB.pre 0 rfl rfl rfl (by rw [List.take_zero]; exact RnL.nil) RB.nil
  · intro a ha
    have hl0 := pad_flat_len (rows0_len10 (R := R.take a) hn)
    have hle := rows0_le (R.take a) cols
    have hle2 : (R.take a).length ≤ R.length := by simp; omega
    by_cases hlt : a < R.length
    · obtain ⟨r, hr⟩ := get_ex hlt
      have hrm := List.mem_of_getElem? hr
      have hrl := hRk r hrm
      have hs := rows0_take R cols hr
      have hd := drop_flat' (f := pad) (k := 10) (fun y hy => pad_len (hR10 y hy)) hr
      have hpl : (pad r).length = 10 := pad_len (by omega)
      have ht10 : (pad r ++ (R.drop (a + 1)).flatMap pad).take 10 = pad r := by rw [← hpl, List.take_left']; rfl
      have hl10 : (10 ≤ (pad r ++ (R.drop (a + 1)).flatMap pad).length) = True := by simp [hpl]
      have hone : (pad r).all AV.one = true := by rw [pad_rowF (by omega)]; exact one_rowF _ _
      have hput := put10 hpl
      simp (maxSteps := 1000000) (disch := first | omega | (simp only [lenW] <;> omega)) only [hlt, hd, ht10, hl10, hpl, hone, hput, wordsN, Int.reduceGT, wordsR, ne_eq, words, Nat.reduceAdd, Nat.reduceEqDiff, Nat.reduceBEq, ↓reduceIte, reduceCtorEq, SX.exit.injEq, if_true, if_false, Int.reduceAdd, Int.reduceSub, Int.reduceMul, Int.reduceLT, Int.reduceLE, Int.reduceEq, Int.reduceNe, Int.reduceNeg, Int.reduceToNat, Nat.reduceMul, Nat.reduceLT, Nat.reduceSub, Nat.reduceLeDiff]
      refine wS_loopR 200 (fun i : Nat => [(1, sli (colI cols)), (6, .sl 50 0 0 (rows0 (R.take a) cols).length 10), (32, .fsl (R.flatMap pad) R.length 10), (33, .int .i64 R.length), (34, .int .i64 a), (8, .ptr 51 0 0), (9, .ptr 52 0 0), (38, sli (colI cols)), (39, .int .i64 (colI cols).length), (40, .int .i64 i)])
        (fun i => [(50, .cells 0 ((rows0 (R.take a) cols).flatMap pad)), (51, .cells 0 (pad r)), (52, .cells 0 (rowF 10 fun k => if k < i then (rrow cols r).getD k 0 else 0))]) (fun i => i ≤ cols.length) (fun i => cols.length - i) 0 ?_ (Nat.zero_le _) ?_
      · refine ⟨[(50, .blk 50 0), (51, .blk 103 0), (52, .blk 105 0)], rfl, au0, ?_, au7⟩
        exact RB.cells rfl rfl rfl (RnL.same (noRefs_pad _)) (RB.cells rfl rfl rfl (RnL.same (noRefs_ints _)) (RB.cells rfl rfl rfl (RnL.eq (by rw [zero10]; exact rowF_congr fun k _ => by simp) (noRefs_rowF _ _)) RB.nil))
      intro i hi
      by_cases hil : i < cols.length
      · obtain ⟨c, hcc⟩ := get_ex hil
        have hcK := hc c (List.mem_of_getElem? hcc)
        have hil' : i < (colI cols).length := by omega
        have hc10 : (c : Int) < 10 := by omega
        have hi10 : (i : Int) < 10 := by omega
        have hgr : (pad r)[c]? = some (.int .i64 (r.getD c 0)) := by rw [pad_rowF (by omega)]; exact rowF_get _ (by omega)
        have hrD : (rrow cols r).getD i 0 = r.getD c 0 := by simp [rrow, List.getD_eq_getElem?_getD, hcc]
        have hle1 : i + 1 ≤ 10 := by omega
        simp (maxSteps := 1000000) (disch := first | omega | (simp only [lenW] <;> omega)) only [hil', head_ints (colI_get hcc), hc10, hi10, hgr, rowF_set, rowF_len, hle1, wordsN, Int.reduceGT, wordsR, ne_eq, words, Nat.reduceAdd, Nat.reduceEqDiff, Nat.reduceBEq, ↓reduceIte, reduceCtorEq, SX.exit.injEq, if_true, if_false, Int.reduceAdd, Int.reduceSub, Int.reduceMul, Int.reduceLT, Int.reduceLE, Int.reduceEq, Int.reduceNe, Int.reduceNeg, Int.reduceToNat, Nat.reduceMul, Nat.reduceLT, Nat.reduceSub, Nat.reduceLeDiff]
        refine ⟨i + 1, by omega, by omega, ?_⟩
        refine ⟨[(50, .blk 50 0), (51, .blk 51 0), (52, .blk 52 0)], rfl, au0, ?_, au7⟩
        refine RB.cells rfl rfl rfl (RnL.same (noRefs_pad _)) (RB.cells rfl rfl rfl (RnL.same (noRefs_ints _)) (RB.cells rfl rfl rfl (RnL.eq (rowF_congr fun k _ => ?_) (noRefs_rowF _ _)) RB.nil))
        by_cases e : k = i
        · subst e; simp only [Nat.lt_succ_self, if_true]; exact hrD
        · have : (k < i + 1) ↔ (k < i) := by omega
          simp [e, this]
      · have e : i = cols.length := by omega
        have hil2 : ¬ i < (colI cols).length := by omega
        have hrr : (rrow cols r).length = cols.length := by simp [rrow]
        have hfin : rowF 10 (fun k => if k < i then (rrow cols r).getD k 0 else 0) = pad (rrow cols r) := by
          rw [pad_rowF (by omega)]
          refine rowF_congr fun k _ => ?_
          by_cases hk : k < i
          · simp [hk]
          · simp [hk, List.getD_eq_getElem?_getD, List.getElem?_eq_none (show (rrow cols r).length ≤ k by omega)]
        have hf10 := rowF_len 10 (fun k => if k < i then (rrow cols r).getD k 0 else 0)
        have hone2 := one_rowF 10 (fun k => if k < i then (rrow cols r).getD k 0 else 0)
        have hput2 := put10 hf10
        have htk : (rowF 10 (fun k => if k < i then (rrow cols r).getD k 0 else 0)).take 10 = rowF 10 (fun k => if k < i then (rrow cols r).getD k 0 else 0) := List.take_of_length_le (by omega)
        have hany : ((List.range 10).any fun c => (if c < i then (rrow cols r).getD c 0 else 0) != 0) = nz (rrow cols r) := by
          rw [← any10 (r := rrow cols r) (by omega)]
          congr 1; funext c
          by_cases hk : c < i
          · simp [hk]
          · simp [hk, List.getD_eq_getElem?_getD, List.getElem?_eq_none (show (rrow cols r).length ≤ c by omega)]
        cases hz : nz (rrow cols r) with
        | true =>
          rw [hz, if_pos rfl] at hs
          simp (maxSteps := 1000000) (disch := first | omega | (simp only [lenW] <;> omega)) only [hil2, rowF_len, htk, eq_row10, hany, hz, hone2, hput2, aBuild_eq, wordsN, Int.reduceGT, wordsR, ne_eq, words, Nat.reduceAdd, Nat.reduceEqDiff, Nat.reduceBEq, ↓reduceIte, reduceCtorEq, SX.exit.injEq, if_true, if_false, Int.reduceAdd, Int.reduceSub, Int.reduceMul, Int.reduceLT, Int.reduceLE, Int.reduceEq, Int.reduceNe, Int.reduceNeg, Int.reduceToNat, Nat.reduceMul, Nat.reduceLT, Nat.reduceSub, Nat.reduceLeDiff]
          refine ⟨a + 1, by omega, by omega, ?_⟩
          rw [hs, List.length_append]
          refine ⟨[(50, .blk 50 1)], rfl, au0, ?_, au7⟩
          exact RB.cells rfl rfl rfl (RnL.eq (by rw [List.flatMap_append, hfin]; simp) (noRefs_pad _)) RB.nil
        | false =>
          rw [hz, if_neg (by simp), List.append_nil] at hs
          simp (maxSteps := 1000000) (disch := first | omega | (simp only [lenW] <;> omega)) only [hil2, rowF_len, htk, eq_row10, hany, hz, hone2, hput2, aBuild_eq, wordsN, Int.reduceGT, wordsR, ne_eq, words, Nat.reduceAdd, Nat.reduceEqDiff, Nat.reduceBEq, ↓reduceIte, reduceCtorEq, SX.exit.injEq, if_true, if_false, Int.reduceAdd, Int.reduceSub, Int.reduceMul, Int.reduceLT, Int.reduceLE, Int.reduceEq, Int.reduceNe, Int.reduceNeg, Int.reduceToNat, Nat.reduceMul, Nat.reduceLT, Nat.reduceSub, Nat.reduceLeDiff]
          refine ⟨a + 1, by omega, by omega, ?_⟩
          rw [hs]
          refine ⟨[(50, .blk 50 0)], rfl, au0, ?_, au7⟩
          exact RB.cells rfl rfl rfl (RnL.same (noRefs_pad _)) RB.nil
    · have e : a = R.length := by omega
      rw [e, List.take_length] at *
      simp (maxSteps := 1000000) (disch := first | omega | (simp only [lenW] <;> omega)) only [hlt, wordsN, Int.reduceGT, wordsR, ne_eq, words, Nat.reduceAdd, Nat.reduceEqDiff, Nat.reduceBEq, ↓reduceIte, reduceCtorEq, SX.exit.injEq, if_true, if_false, Int.reduceAdd, Int.reduceSub, Int.reduceMul, Int.reduceLT, Int.reduceLE, Int.reduceEq, Int.reduceNe, Int.reduceNeg, Int.reduceToNat, Nat.reduceMul, Nat.reduceLT, Nat.reduceSub, Nat.reduceLeDiff]
      refine ⟨(), ?_⟩
      refine ⟨[(50, .blk 50 0)], rfl, au0, ?_, au7⟩
      exact RB.cells rfl rfl rfl (RnL.eq (by rw [flat10_tab (rows0_len10 hn)]; rfl) (noRefs_ints _)) RB.nil
  rintro _ -
  generalize hnr : (rows0 R cols).length = nr
  have hnr100 : nr ≤ 100 := by rw [← hnr]; exact Nat.le_trans (rows0_le R cols) hR
  simp (maxSteps := 1000000) (disch := first | omega | (simp only [lenW] <;> omega)) only [wordsN, Int.reduceGT, wordsR, ne_eq, words, Nat.reduceAdd, Nat.reduceEqDiff, Nat.reduceBEq, ↓reduceIte, reduceCtorEq, SX.exit.injEq, if_true, if_false, Int.reduceAdd, Int.reduceSub, Int.reduceMul, Int.reduceLT, Int.reduceLE, Int.reduceEq, Int.reduceNe, Int.reduceNeg, Int.reduceToNat, Nat.reduceMul, Nat.reduceLT, Nat.reduceSub, Nat.reduceLeDiff]
  refine wS_loopX 200 (fun a : Nat × KS => [(1, sli (colI cols)), (6, .sl 50 0 0 nr 10), (12, .int .i64 a.2.piv), (13, .int .i64 a.2.last), (14, .int .i64 a.2.free), (15, .ptr 51 0 0), (60, .int .i64 (colI cols).length), (61, .int .i64 a.1)])
    (fun a => [(50, .cells 0 (flat10 nr a.2.M)), (51, .cells 0 (rowF 10 fun c => (a.2.pos c : Int)))]) (fun a => a.1 ≤ cols.length ∧ krun R cols a.1 = some a.2) (fun a => cols.length - a.1) (0, ⟨mx (rows0 R cols), 0, 1, -1, fun _ => 0⟩) 4 600
    (fun s : KS => [(1, sli (colI cols)), (6, .sl 50 0 0 nr 10), (13, .int .i64 s.last), (14, .int .i64 s.free), (15, .ptr 51 0 0)])
    (fun s => [(50, .cells 0 (flat10 nr s.M)), (51, .cells 0 (rowF 10 fun c => (s.pos c : Int)))]) (fun s => krun R cols cols.length = some s) ?_ ⟨Nat.zero_le _, rfl⟩ ?_ ?_
  · refine ⟨[(50, .blk 50 0), (51, .blk 403 0)], rfl, au0, ?_, au7⟩
    exact RB.cells rfl rfl rfl (RnL.same (noRefs_flat10 _ _)) (RB.cells rfl rfl rfl (RnL.eq zero10.symm (noRefs_rowF _ _)) RB.nil)
  · rintro ⟨k, s⟩ ⟨hk, hs⟩
    dsimp only at hk hs ⊢
    obtain ⟨i1, i2, i3⟩ := krun_inv R cols k s hs
    rw [hnr] at i1
    by_cases hlt : k < cols.length
    · obtain ⟨b1, b2, b3⟩ := hb k s hs (.inl hlt)
      have hlt' : k < (colI cols).length := by omega
      have hpv : (s.piv : Int) ≤ nr := by omega
      simp (maxSteps := 1000000) (disch := first | omega | (simp only [lenW] <;> omega)) only [hlt', hpv, aSliceC, aSlice, bnd, or_true, wordsN, Int.reduceGT, wordsR, ne_eq, words, Nat.reduceAdd, Nat.reduceEqDiff, Nat.reduceBEq, ↓reduceIte, reduceCtorEq, SX.exit.injEq, if_true, if_false, Int.reduceAdd, Int.reduceSub, Int.reduceMul, Int.reduceLT, Int.reduceLE, Int.reduceEq, Int.reduceNe, Int.reduceNeg, Int.reduceToNat, Nat.reduceMul, Nat.reduceLT, Nat.reduceSub, Nat.reduceLeDiff]
      have hfl : s.piv * 10 + (nr - s.piv) * 10 ≤ (flat10 nr s.M).length := by rw [flat10_len]; omega
      refine ch (HSpec.lend (bs := [.fsl (flat10 (nr - s.piv) fun i c => s.M (s.piv + i) c) (nr - s.piv) 10, .fn 71 [] [.fptr [.int .i64 k]]]) ?_ (index70 (nr - s.piv) k _ (by omega) (by omega)) rfl) ?_
      · refine ⟨FrzTo.sl (cs := flat10 nr s.M) rfl hfl (by rw [flat10_drop s.M i1]; exact FrzL.same _), FrzTo.fn trivial ⟨FrzTo.ptr rfl (FrzL.same _), trivial⟩, trivial⟩
      have hkf : (List.range (nr - s.piv)).findIdx? (fun i => s.M (s.piv + i) k != 0) = kfind nr k s := rfl
      rw [hkf]
      have hstep : krun R cols (k + 1) = kstep nr cols.length k s := by
        show (krun R cols k).bind _ = _
        rw [hs, hnr]; rfl
      cases hf : kfind nr k s with
      | none =>
        rw [kstep, hf] at hstep
        by_cases h0 : 0 ≤ s.free
        · rw [if_pos h0] at hstep
          have hk0 : kerR R cols = none := by
            unfold kerR
            have := krun_none R cols (k + 1) (cols.length - (k + 1)) hstep
            rw [show k + 1 + (cols.length - (k + 1)) = cols.length by omega] at this
            rw [this]; rfl
          simp (maxSteps := 1000000) (disch := first | omega | (simp only [lenW] <;> omega)) only [kidx, h0, wordsN, Int.reduceGT, wordsR, ne_eq, words, Nat.reduceAdd, Nat.reduceEqDiff, Nat.reduceBEq, ↓reduceIte, reduceCtorEq, SX.exit.injEq, if_true, if_false, Int.reduceAdd, Int.reduceSub, Int.reduceMul, Int.reduceLT, Int.reduceLE, Int.reduceEq, Int.reduceNe, Int.reduceNeg, Int.reduceToNat, Nat.reduceMul, Nat.reduceLT, Nat.reduceSub, Nat.reduceLeDiff]
          refine ⟨.inr trivial, _, rfl, ?_⟩
          rw [hk0]; exact RnO.flat rfl
        · simp only [if_neg h0] at hstep
          simp (maxSteps := 1000000) (disch := first | omega | (simp only [lenW] <;> omega)) only [kidx, h0, wordsN, Int.reduceGT, wordsR, ne_eq, words, Nat.reduceAdd, Nat.reduceEqDiff, Nat.reduceBEq, ↓reduceIte, reduceCtorEq, SX.exit.injEq, if_true, if_false, Int.reduceAdd, Int.reduceSub, Int.reduceMul, Int.reduceLT, Int.reduceLE, Int.reduceEq, Int.reduceNe, Int.reduceNeg, Int.reduceToNat, Nat.reduceMul, Nat.reduceLT, Nat.reduceSub, Nat.reduceLeDiff]
          refine ⟨(k + 1, _), by simp only; omega, ⟨by simp only; omega, hstep⟩, ⟨[(50, .blk 50 0), (51, .blk 51 0)], rfl, au0, au8, au7⟩⟩
      | some i =>
        rw [kstep, hf] at hstep
        replace hstep : krun R cols (k + 1) = some ⟨kelim cols.length k (kswap s.M s.piv (s.piv + i)) s.piv s.last, s.piv + 1, kswap s.M s.piv (s.piv + i) s.piv k, s.free, fun c => if c = k then s.piv else s.pos c⟩ := hstep
        obtain ⟨q1, q2⟩ := kfind_some hf
        have hi0 : ¬ ((i : Nat) : Int) < 0 := by omega
        have hpi : s.piv + i < nr := q1
        have hpl : s.piv < nr := by omega
        simp only [kidx]
        have hpi' : (s.piv : Int) + i < nr := by omega
        have hle1 : s.piv * 10 + 10 ≤ nr * 10 := by omega
        have hle2 : (s.piv + i) * 10 + 10 ≤ nr * 10 := by omega
        have hsw : ∀ f : Mx, flat10 nr (fun j c => if j = s.piv + i then s.M s.piv c else (if j = s.piv then s.M (s.piv + i) c else s.M j c)) = flat10 nr (kswap s.M s.piv (s.piv + i)) := fun _ => flat10_congr fun j c _ _ => by
          unfold kswap
          by_cases e1 : j = s.piv
          · subst e1
            by_cases e2 : s.piv = s.piv + i
            · simp only [if_pos e2, if_true]; rw [← e2]
            · simp only [if_neg e2, if_true]
          · by_cases e2 : j = s.piv + i
            · simp only [if_pos e2, if_neg e1]
            · simp only [if_neg e2, if_neg e1]
        have hsw := hsw s.M
        simp (maxSteps := 1000000) (disch := first | omega | (simp only [lenW] <;> omega)) only [hi0, hpi', hpl, toNat_add, flat10_row, flat10_put, flat10_len, rowF_len, one_rowF, hle1, hle2, hsw, wordsN, Int.reduceGT, wordsR, ne_eq, words, Nat.reduceAdd, Nat.reduceEqDiff, Nat.reduceBEq, ↓reduceIte, reduceCtorEq, SX.exit.injEq, if_true, if_false, Int.reduceAdd, Int.reduceSub, Int.reduceMul, Int.reduceLT, Int.reduceLE, Int.reduceEq, Int.reduceNe, Int.reduceNeg, Int.reduceToNat, Nat.reduceMul, Nat.reduceLT, Nat.reduceSub, Nat.reduceLeDiff]
        have hSk : kswap s.M s.piv (s.piv + i) s.piv k ≠ 0 := by simp only [kswap, if_true]; exact q2
        have hSb : ∀ a c, -2147483648 < kswap s.M s.piv (s.piv + i) a c ∧ kswap s.M s.piv (s.piv + i) a c < 2147483648 := fun a c => by
          unfold kswap; split
          · exact b3 _ _
          · split <;> exact b3 _ _
        generalize kswap s.M s.piv (s.piv + i) = S at hSk hSb hstep
        have hk10 : (k : Int) < 10 := by omega
        have hE : ∀ j c, j ≠ s.piv → c < cols.length → (S s.piv k * S j c - S j k * S s.piv c).tdiv s.last = kelim cols.length k S s.piv s.last j c := fun j c h1 h2 => by
          unfold kelim; rw [if_neg (by omega)]
        have hE2 : ∀ j c, j = s.piv ∨ cols.length ≤ c → kelim cols.length k S s.piv s.last j c = S j c := fun j c h => by unfold kelim; rw [if_pos h]
        generalize kelim cols.length k S s.piv s.last = E at hstep hE hE2
        refine wS_loopR 300 (fun j : Nat => [(1, sli (colI cols)), (6, .sl 50 0 0 nr 10), (12, .int .i64 s.piv), (13, .int .i64 s.last), (14, .int .i64 s.free), (15, .ptr 51 0 0), (60, .int .i64 (colI cols).length), (61, .int .i64 k), (16, .ptr 52 0 0), (18, .ptr 53 0 0), (97, .int .i64 nr), (98, .int .i64 j)])
          (fun j => [(50, .cells 0 (flat10 nr fun a c => if a < j then E a c else S a c)), (51, .cells 0 (rowF 10 fun c => (s.pos c : Int))), (52, .cells 0 [.int .i64 k]), (53, .cells 0 (rowF 10 (S s.piv)))]) (fun j => j ≤ nr) (fun j => nr - j) 0 ?_ (Nat.zero_le _) ?_
        · refine ⟨[(50, .blk 50 0), (51, .blk 51 0), (52, .blk 202 0), (53, .blk 236 0)], rfl, au0, ?_, au7⟩
          refine RB.cells rfl rfl rfl (RnL.eq (flat10_congr fun a c _ _ => if_neg (Nat.not_lt_zero _)) (noRefs_flat10 _ _)) (RB.cells rfl rfl rfl (RnL.same (noRefs_rowF _ _)) (RB.cells rfl rfl rfl ?_ (RB.cells rfl rfl rfl (RnL.eq (put10 (rowF_len _ _)).symm (noRefs_rowF _ _)) RB.nil)))
          repeat' (first | exact RB.nil | (refine RnL.same ?_; first | rfl | (simp only [noRef, noRefs, noRefs_append, Bool.and_self, Bool.and_true, Bool.true_and, noRefs_flat10, noRefs_ints, noRefs_lsts, noRefs_pad, noRefs_tnC, noRefs_arcC, noRefs_rowF]; done)) | exact RnM.keyM rfl | exact RnL.nil | refine RnL.cons ?_ ?_ | (refine Rn.same ?_; first | rfl | (simp only [noRef, noRefs, noRefs_append, Bool.and_self, Bool.and_true, Bool.true_and, noRefs_flat10, noRefs_ints, noRefs_lsts, noRefs_pad, noRefs_tnC, noRefs_arcC, noRefs_rowF]; done)) | exact Rn.x1 rfl rfl | exact Rn.x2 rfl rfl | exact Rn.x3 rfl rfl | exact Rn.x4 rfl rfl | exact Rn.x5 rfl | exact Rn.x6 rfl | exact Rn.x7 rfl | refine RB.newnil rfl rfl ?_ | refine RB.cells rfl rfl rfl ?_ ?_ | refine RB.map rfl rfl rfl ?_ ?_ | refine RB.cellsB rfl rfl ?_ ?_ | refine RB.mapB rfl rfl ?_ ?_)
        intro j hj
        by_cases hjl : j < nr
        · by_cases hjp : j = s.piv
          · simp (maxSteps := 1000000) (disch := first | omega | (simp only [lenW] <;> omega)) only [hjl, hjp, hpl, wordsN, Int.reduceGT, wordsR, ne_eq, words, Nat.reduceAdd, Nat.reduceEqDiff, Nat.reduceBEq, ↓reduceIte, reduceCtorEq, SX.exit.injEq, if_true, if_false, Int.reduceAdd, Int.reduceSub, Int.reduceMul, Int.reduceLT, Int.reduceLE, Int.reduceEq, Int.reduceNe, Int.reduceNeg, Int.reduceToNat, Nat.reduceMul, Nat.reduceLT, Nat.reduceSub, Nat.reduceLeDiff]
            refine ⟨j + 1, by omega, by omega, ?_⟩
            subst hjp
            refine ⟨[(50, .blk 50 0), (51, .blk 51 0), (52, .blk 52 0), (53, .blk 53 0)], rfl, au0, ?_, au7⟩
            refine RB.cells rfl rfl rfl (RnL.eq (flat10_congr fun a c _ _ => ?_) (noRefs_flat10 _ _)) ?_
            · by_cases e : a = s.piv
              · subst e; rw [if_pos (Nat.lt_succ_self _), if_neg (Nat.lt_irrefl _)]; exact hE2 _ _ (.inl rfl)
              · have : (a < s.piv + 1) ↔ (a < s.piv) := by omega
                simp only [this]
            · repeat' (first | exact RB.nil | (refine RnL.same ?_; first | rfl | (simp only [noRef, noRefs, noRefs_append, Bool.and_self, Bool.and_true, Bool.true_and, noRefs_flat10, noRefs_ints, noRefs_lsts, noRefs_pad, noRefs_tnC, noRefs_arcC, noRefs_rowF]; done)) | exact RnM.keyM rfl | exact RnL.nil | refine RnL.cons ?_ ?_ | (refine Rn.same ?_; first | rfl | (simp only [noRef, noRefs, noRefs_append, Bool.and_self, Bool.and_true, Bool.true_and, noRefs_flat10, noRefs_ints, noRefs_lsts, noRefs_pad, noRefs_tnC, noRefs_arcC, noRefs_rowF]; done)) | exact Rn.x1 rfl rfl | exact Rn.x2 rfl rfl | exact Rn.x3 rfl rfl | exact Rn.x4 rfl rfl | exact Rn.x5 rfl | exact Rn.x6 rfl | exact Rn.x7 rfl | refine RB.newnil rfl rfl ?_ | refine RB.cells rfl rfl rfl ?_ ?_ | refine RB.map rfl rfl rfl ?_ ?_ | refine RB.cellsB rfl rfl ?_ ?_ | refine RB.mapB rfl rfl ?_ ?_)
          · have hg1 : ((flat10 nr fun a c => if a < j then E a c else S a c))[j * 10 + k]? = some (.int .i64 (S j k)) := by
              rw [flat10_get _ hjl (by omega), if_neg (Nat.lt_irrefl _)]
            simp (maxSteps := 1000000) (disch := first | omega | (simp only [lenW] <;> omega)) only [hjl, hjp, hk10, hg1, wordsN, Int.reduceGT, wordsR, ne_eq, words, Nat.reduceAdd, Nat.reduceEqDiff, Nat.reduceBEq, ↓reduceIte, reduceCtorEq, SX.exit.injEq, if_true, if_false, Int.reduceAdd, Int.reduceSub, Int.reduceMul, Int.reduceLT, Int.reduceLE, Int.reduceEq, Int.reduceNe, Int.reduceNeg, Int.reduceToNat, Nat.reduceMul, Nat.reduceLT, Nat.reduceSub, Nat.reduceLeDiff]
            refine wS_loopR 400 (fun c : Nat => [(1, sli (colI cols)), (6, .sl 50 0 0 nr 10), (12, .int .i64 s.piv), (13, .int .i64 s.last), (14, .int .i64 s.free), (15, .ptr 51 0 0), (60, .int .i64 (colI cols).length), (61, .int .i64 k), (16, .ptr 52 0 0), (18, .ptr 53 0 0), (97, .int .i64 nr), (98, .int .i64 j), (19, .int .i64 j), (20, .int .i64 (S j k)), (111, .int .i64 (colI cols).length), (112, .int .i64 c)])
              (fun c => [(50, .cells 0 (flat10 nr fun a c' => if a < j ∨ (a = j ∧ c' < c) then E a c' else S a c')), (51, .cells 0 (rowF 10 fun c => (s.pos c : Int))), (52, .cells 0 [.int .i64 k]), (53, .cells 0 (rowF 10 (S s.piv)))]) (fun c => c ≤ cols.length) (fun c => cols.length - c) 0 ?_ (Nat.zero_le _) ?_
            · refine ⟨[(50, .blk 50 0), (51, .blk 51 0), (52, .blk 52 0), (53, .blk 53 0)], rfl, au0, ?_, au7⟩
              refine RB.cells rfl rfl rfl (RnL.eq (flat10_congr fun a c _ _ => by simp) (noRefs_flat10 _ _)) ?_
              repeat' (first | exact RB.nil | (refine RnL.same ?_; first | rfl | (simp only [noRef, noRefs, noRefs_append, Bool.and_self, Bool.and_true, Bool.true_and, noRefs_flat10, noRefs_ints, noRefs_lsts, noRefs_pad, noRefs_tnC, noRefs_arcC, noRefs_rowF]; done)) | exact RnM.keyM rfl | exact RnL.nil | refine RnL.cons ?_ ?_ | (refine Rn.same ?_; first | rfl | (simp only [noRef, noRefs, noRefs_append, Bool.and_self, Bool.and_true, Bool.true_and, noRefs_flat10, noRefs_ints, noRefs_lsts, noRefs_pad, noRefs_tnC, noRefs_arcC, noRefs_rowF]; done)) | exact Rn.x1 rfl rfl | exact Rn.x2 rfl rfl | exact Rn.x3 rfl rfl | exact Rn.x4 rfl rfl | exact Rn.x5 rfl | exact Rn.x6 rfl | exact Rn.x7 rfl | refine RB.newnil rfl rfl ?_ | refine RB.cells rfl rfl rfl ?_ ?_ | refine RB.map rfl rfl rfl ?_ ?_ | refine RB.cellsB rfl rfl ?_ ?_ | refine RB.mapB rfl rfl ?_ ?_)
            intro c hcl
            by_cases hcn : c < cols.length
            · have hcn' : c < (colI cols).length := by omega
              have hc10 : (c : Int) < 10 := by omega
              have hg2 : ((flat10 nr fun a c' => if a < j ∨ (a = j ∧ c' < c) then E a c' else S a c'))[j * 10 + c]? = some (.int .i64 (S j c)) := by
                rw [flat10_get _ hjl (by omega), if_neg (by omega)]
              have hgk := rowF_get (n := 10) (S s.piv) (i := k) (by omega)
              have hgc := rowF_get (n := 10) (S s.piv) (i := c) (by omega)
              have hle3 : j * 10 + c + 1 ≤ nr * 10 := by omega
              have hset := flat10_set (fun a c' => if a < j ∨ (a = j ∧ c' < c) then E a c' else S a c') hjl (show c < 10 by omega) (E j c)
              simp (maxSteps := 1000000) (disch := first | omega | (simp only [lenW] <;> omega)) only [hcn', hjl, hk10, hc10, hg2, hgk, hgc, wordsN, Int.reduceGT, wordsR, ne_eq, words, Nat.reduceAdd, Nat.reduceEqDiff, Nat.reduceBEq, ↓reduceIte, reduceCtorEq, SX.exit.injEq, if_true, if_false, Int.reduceAdd, Int.reduceSub, Int.reduceMul, Int.reduceLT, Int.reduceLE, Int.reduceEq, Int.reduceNe, Int.reduceNeg, Int.reduceToNat, Nat.reduceMul, Nat.reduceLT, Nat.reduceSub, Nat.reduceLeDiff]
              refine cp (cross (S s.piv k) (S j c) (S j k) (S s.piv c) s.last (hSb _ _).1 (hSb _ _).2 (hSb _ _).1 (hSb _ _).2 (hSb _ _).1 (hSb _ _).2 (hSb _ _).1 (hSb _ _).2 b1 (by omega) (by omega)) ?_
              rw [hE j c hjp hcn]
              simp (maxSteps := 1000000) (disch := first | omega | (simp only [lenW] <;> omega)) only [hcn', hjl, hk10, hc10, flat10_len, hle3, hset, wordsN, Int.reduceGT, wordsR, ne_eq, words, Nat.reduceAdd, Nat.reduceEqDiff, Nat.reduceBEq, ↓reduceIte, reduceCtorEq, SX.exit.injEq, if_true, if_false, Int.reduceAdd, Int.reduceSub, Int.reduceMul, Int.reduceLT, Int.reduceLE, Int.reduceEq, Int.reduceNe, Int.reduceNeg, Int.reduceToNat, Nat.reduceMul, Nat.reduceLT, Nat.reduceSub, Nat.reduceLeDiff]
              refine ⟨c + 1, by omega, by omega, ?_⟩
              refine ⟨[(50, .blk 50 0), (51, .blk 51 0), (52, .blk 52 0), (53, .blk 53 0)], rfl, au0, ?_, au7⟩
              refine RB.cells rfl rfl rfl (RnL.eq (flat10_congr fun a c' _ _ => ?_) (noRefs_flat10 _ _)) ?_
              · by_cases e : a = j ∧ c' = c
                · obtain ⟨rfl, rfl⟩ := e
                  rw [if_pos (by omega), if_pos ⟨rfl, rfl⟩]
                · rw [if_neg e]
                  have : (a < j ∨ (a = j ∧ c' < c + 1)) ↔ (a < j ∨ (a = j ∧ c' < c)) := by omega
                  simp only [this]
              · repeat' (first | exact RB.nil | (refine RnL.same ?_; first | rfl | (simp only [noRef, noRefs, noRefs_append, Bool.and_self, Bool.and_true, Bool.true_and, noRefs_flat10, noRefs_ints, noRefs_lsts, noRefs_pad, noRefs_tnC, noRefs_arcC, noRefs_rowF]; done)) | exact RnM.keyM rfl | exact RnL.nil | refine RnL.cons ?_ ?_ | (refine Rn.same ?_; first | rfl | (simp only [noRef, noRefs, noRefs_append, Bool.and_self, Bool.and_true, Bool.true_and, noRefs_flat10, noRefs_ints, noRefs_lsts, noRefs_pad, noRefs_tnC, noRefs_arcC, noRefs_rowF]; done)) | exact Rn.x1 rfl rfl | exact Rn.x2 rfl rfl | exact Rn.x3 rfl rfl | exact Rn.x4 rfl rfl | exact Rn.x5 rfl | exact Rn.x6 rfl | exact Rn.x7 rfl | refine RB.newnil rfl rfl ?_ | refine RB.cells rfl rfl rfl ?_ ?_ | refine RB.map rfl rfl rfl ?_ ?_ | refine RB.cellsB rfl rfl ?_ ?_ | refine RB.mapB rfl rfl ?_ ?_)
            · have hcn' : ¬ c < (colI cols).length := by omega
              simp (maxSteps := 1000000) (disch := first | omega | (simp only [lenW] <;> omega)) only [hcn', wordsN, Int.reduceGT, wordsR, ne_eq, words, Nat.reduceAdd, Nat.reduceEqDiff, Nat.reduceBEq, ↓reduceIte, reduceCtorEq, SX.exit.injEq, if_true, if_false, Int.reduceAdd, Int.reduceSub, Int.reduceMul, Int.reduceLT, Int.reduceLE, Int.reduceEq, Int.reduceNe, Int.reduceNeg, Int.reduceToNat, Nat.reduceMul, Nat.reduceLT, Nat.reduceSub, Nat.reduceLeDiff]
              refine ⟨j + 1, by omega, by omega, ?_⟩
              refine ⟨[(50, .blk 50 0), (51, .blk 51 0), (52, .blk 52 0), (53, .blk 53 0)], rfl, au0, ?_, au7⟩
              refine RB.cells rfl rfl rfl (RnL.eq (flat10_congr fun a c' _ _ => ?_) (noRefs_flat10 _ _)) ?_
              · by_cases c1 : a < j
                · rw [if_pos (by omega), if_pos (.inl c1)]
                · by_cases c2 : a = j
                  · subst c2
                    by_cases c3 : c' < c
                    · rw [if_pos (by omega), if_pos (.inr ⟨rfl, c3⟩)]
                    · rw [if_pos (by omega), if_neg (by omega)]; exact hE2 _ _ (.inr (by omega))
                  · rw [if_neg (by omega), if_neg (by omega)]
              · repeat' (first | exact RB.nil | (refine RnL.same ?_; first | rfl | (simp only [noRef, noRefs, noRefs_append, Bool.and_self, Bool.and_true, Bool.true_and, noRefs_flat10, noRefs_ints, noRefs_lsts, noRefs_pad, noRefs_tnC, noRefs_arcC, noRefs_rowF]; done)) | exact RnM.keyM rfl | exact RnL.nil | refine RnL.cons ?_ ?_ | (refine Rn.same ?_; first | rfl | (simp only [noRef, noRefs, noRefs_append, Bool.and_self, Bool.and_true, Bool.true_and, noRefs_flat10, noRefs_ints, noRefs_lsts, noRefs_pad, noRefs_tnC, noRefs_arcC, noRefs_rowF]; done)) | exact Rn.x1 rfl rfl | exact Rn.x2 rfl rfl | exact Rn.x3 rfl rfl | exact Rn.x4 rfl rfl | exact Rn.x5 rfl | exact Rn.x6 rfl | exact Rn.x7 rfl | refine RB.newnil rfl rfl ?_ | refine RB.cells rfl rfl rfl ?_ ?_ | refine RB.map rfl rfl rfl ?_ ?_ | refine RB.cellsB rfl rfl ?_ ?_ | refine RB.mapB rfl rfl ?_ ?_)
        · have hgk := rowF_get (n := 10) (S s.piv) (i := k) (by omega)
          have hk1 : k + 1 ≤ 10 := by omega
          simp (maxSteps := 1000000) (disch := first | omega | (simp only [lenW] <;> omega)) only [hjl, hgk, hk10, rowF_set, rowF_len, hk1, wordsN, Int.reduceGT, wordsR, ne_eq, words, Nat.reduceAdd, Nat.reduceEqDiff, Nat.reduceBEq, ↓reduceIte, reduceCtorEq, SX.exit.injEq, if_true, if_false, Int.reduceAdd, Int.reduceSub, Int.reduceMul, Int.reduceLT, Int.reduceLE, Int.reduceEq, Int.reduceNe, Int.reduceNeg, Int.reduceToNat, Nat.reduceMul, Nat.reduceLT, Nat.reduceSub, Nat.reduceLeDiff]
          refine ⟨(k + 1, _), by simp only; omega, ⟨by simp only; omega, hstep⟩, ?_⟩
          refine ⟨[(50, .blk 50 0), (51, .blk 51 0)], rfl, au0, ?_, au7⟩
          refine RB.cells rfl rfl rfl (RnL.eq (flat10_congr fun a c q1 _ => ?_) (noRefs_flat10 _ _)) (RB.cells rfl rfl rfl (RnL.eq (rowF_congr fun c _ => ?_) (noRefs_rowF _ _)) RB.nil)
          · rw [if_pos (by omega)]
          · by_cases e : c = k <;> simp [e]
    · have e : k = cols.length := by omega
      have hlt' : ¬ k < (colI cols).length := by omega
      simp (maxSteps := 1000000) (disch := first | omega | (simp only [lenW] <;> omega)) only [hlt', wordsN, Int.reduceGT, wordsR, ne_eq, words, Nat.reduceAdd, Nat.reduceEqDiff, Nat.reduceBEq, ↓reduceIte, reduceCtorEq, SX.exit.injEq, if_true, if_false, Int.reduceAdd, Int.reduceSub, Int.reduceMul, Int.reduceLT, Int.reduceLE, Int.reduceEq, Int.reduceNe, Int.reduceNeg, Int.reduceToNat, Nat.reduceMul, Nat.reduceLT, Nat.reduceSub, Nat.reduceLeDiff]
      exact ⟨s, by rw [← e]; exact hs, ⟨[(50, .blk 50 0), (51, .blk 51 0)], rfl, au0, au8, au7⟩⟩
  · intro s hs
    obtain ⟨i1, i2, i3⟩ := krun_inv R cols _ s hs
    rw [hnr] at i1
    have hker : kerR R cols = kfin cols.length s := by unfold kerR; rw [hs]; rfl
    rw [hker]
    by_cases hf0 : s.free < 0
    · have hk0 : kfin cols.length s = none := by unfold kfin; rw [if_pos hf0]
      simp (maxSteps := 1000000) (disch := first | omega | (simp only [lenW] <;> omega)) only [hf0, wordsN, Int.reduceGT, wordsR, ne_eq, words, Nat.reduceAdd, Nat.reduceEqDiff, Nat.reduceBEq, ↓reduceIte, reduceCtorEq, SX.exit.injEq, if_true, if_false, Int.reduceAdd, Int.reduceSub, Int.reduceMul, Int.reduceLT, Int.reduceLE, Int.reduceEq, Int.reduceNe, Int.reduceNeg, Int.reduceToNat, Nat.reduceMul, Nat.reduceLT, Nat.reduceSub, Nat.reduceLeDiff]
      refine ⟨.inr trivial, _, rfl, ?_⟩
      rw [hk0]; exact RnO.flat rfl
    have hfr : 0 ≤ s.free ∧ s.free < cols.length := by rcases i2 with h | h <;> omega
    obtain ⟨b1, b2, b3⟩ := hb _ s hs (.inr ⟨rfl, hfr.1⟩)
    obtain ⟨fr, hfre⟩ : ∃ fr : Nat, s.free = fr := ⟨s.free.toNat, by omega⟩
    have hfr10 : s.free < 10 := by omega
    have hn0 : 0 < cols.length := by omega
    have hc1 : (8 : Int) * ((colI cols).length : Int) ≤ 1099511627776 := by omega
    have hc2 : ((colI cols).length : Int) ≤ 1099511627776 := by omega
    have hob : ∀ j, -2147483648 < kout s j ∧ kout s j < 2147483648 := fun j => by
      unfold kout; split
      · exact b2
      · have := b3 (s.pos j) s.free.toNat; omega
    simp (maxSteps := 1000000) (disch := first | omega | (simp only [lenW] <;> omega)) only [hf0, hc1, hc2, rowF_zero, wordsN, Int.reduceGT, wordsR, ne_eq, words, Nat.reduceAdd, Nat.reduceEqDiff, Nat.reduceBEq, ↓reduceIte, reduceCtorEq, SX.exit.injEq, if_true, if_false, Int.reduceAdd, Int.reduceSub, Int.reduceMul, Int.reduceLT, Int.reduceLE, Int.reduceEq, Int.reduceNe, Int.reduceNeg, Int.reduceToNat, Nat.reduceMul, Nat.reduceLT, Nat.reduceSub, Nat.reduceLeDiff]
    refine wS_loopR 700 (fun k : Nat => [(6, .sl 50 0 0 nr 10), (13, .int .i64 s.last), (14, .int .i64 s.free), (15, .ptr 51 0 0), (22, .sl 54 0 0 (colI cols).length 1), (23, .int .u64 (kgcd ((List.range k).map (kout s)) : Nat)), (152, .int .i64 (colI cols).length), (153, .int .i64 k)])
      (fun k => [(50, .cells 0 (flat10 nr s.M)), (51, .cells 0 (rowF 10 fun c => (s.pos c : Int))), (54, .cells 0 (rowF (colI cols).length fun j => if j < k then kout s j else 0))])
      (fun k => k ≤ cols.length ∧ (∀ j, j < k → kout s j ≠ 0) ∧ kgcd ((List.range k).map (kout s)) < 2147483648 ∧ (0 < k → 0 < kgcd ((List.range k).map (kout s)))) (fun k => cols.length - k) 0 ?_ ⟨Nat.zero_le _, fun j hj => absurd hj (Nat.not_lt_zero _), (by show (0 : Nat) < _; omega), fun h => absurd h (Nat.lt_irrefl _)⟩ ?_
    · refine ⟨[(50, .blk 50 0), (51, .blk 51 0), (54, .blk 604 0)], rfl, au0, ?_, au7⟩
      exact RB.cells rfl rfl rfl (RnL.same (noRefs_flat10 _ _)) (RB.cells rfl rfl rfl (RnL.same (noRefs_rowF _ _)) (RB.cells rfl rfl rfl (RnL.eq (rowF_congr fun j _ => if_neg (Nat.not_lt_zero _)) (noRefs_rowF _ _)) RB.nil))
    rintro k ⟨hk, hnz, hg1, hg2⟩
    by_cases hlt : k < cols.length
    · have hlt' : k < (colI cols).length := by omega
      have hlt1 : k + 1 ≤ (colI cols).length := by omega
      have hk10 : (k : Int) < 10 := by omega
      have hgs := kgcd_succ (kout s) k
      have hset : ∀ v, (rowF (colI cols).length fun j => if j < k then kout s j else 0).set k (.int .i64 v) = rowF (colI cols).length (fun j => if j = k then v else if j < k then kout s j else 0) := fun v => rowF_set _ v
      have hget : ∀ v, (rowF (colI cols).length fun j => if j = k then v else if j < k then kout s j else 0)[k]? = some (.int .i64 v) := fun v => by rw [rowF_get _ hlt', if_pos rfl]
      have hfinal : ∀ v, v = kout s k → (rowF (colI cols).length fun j => if j = k then v else if j < k then kout s j else 0) = rowF (colI cols).length (fun j => if j < k + 1 then kout s j else 0) := fun v hv => rowF_congr fun j _ => by
        by_cases e : j = k
        · subst e; rw [if_pos rfl, if_pos (Nat.lt_succ_self _), hv]
        · have : (j < k + 1) ↔ (j < k) := by omega
          simp only [if_neg e, this]
      have hzero : kout s k = 0 → kfin cols.length s = none := fun h => by
        unfold kfin
        rw [if_neg hf0, if_pos]
        rw [List.any_eq_true]
        exact ⟨kout s k, List.mem_map.2 ⟨k, by simp; exact hlt, rfl⟩, by simp [h]⟩
      have hnext : kout s k ≠ 0 → (∀ j, j < k + 1 → kout s j ≠ 0) ∧ kgcd ((List.range (k + 1)).map (kout s)) < 2147483648 ∧ (0 < k + 1 → 0 < kgcd ((List.range (k + 1)).map (kout s))) := fun h => by
        have hb1 := hob k
        refine ⟨fun j hj => ?_, ?_, fun _ => ?_⟩
        · by_cases e : j = k
          · subst e; exact h
          · exact hnz j (by omega)
        · rw [hgs]
          exact Nat.lt_of_le_of_lt (Nat.gcd_le_right _ (by omega)) (by omega)
        · rw [hgs]; exact Nat.gcd_pos_of_pos_right _ (by omega)
      have hmg := magnitude (kout s k) (by have := hob k; omega) (by have := hob k; omega)
      have hgc := gcd (kgcd ((List.range k).map (kout s))) (kout s k).natAbs (by omega) (by have := hob k; omega)
      rw [← hgs] at hgc
      by_cases hkf : (k : Int) = s.free
      · have hko : kout s k = s.last := by unfold kout; rw [if_pos hkf]
        rw [hko] at hmg hgc hnext hzero
        have hkf2 := eq_true hkf
        simp (maxSteps := 1000000) (disch := first | omega | (simp only [lenW] <;> omega)) only [hlt', hlt1, hk10, hset, rowF_len, hkf2, hget, b1, wordsN, Int.reduceGT, wordsR, ne_eq, words, Nat.reduceAdd, Nat.reduceEqDiff, Nat.reduceBEq, ↓reduceIte, reduceCtorEq, SX.exit.injEq, if_true, if_false, Int.reduceAdd, Int.reduceSub, Int.reduceMul, Int.reduceLT, Int.reduceLE, Int.reduceEq, Int.reduceNe, Int.reduceNeg, Int.reduceToNat, Nat.reduceMul, Nat.reduceLT, Nat.reduceSub, Nat.reduceLeDiff]
        refine cp hmg ?_
        simp (maxSteps := 1000000) (disch := first | omega | (simp only [lenW] <;> omega)) only [wordsN, Int.reduceGT, wordsR, ne_eq, words, Nat.reduceAdd, Nat.reduceEqDiff, Nat.reduceBEq, ↓reduceIte, reduceCtorEq, SX.exit.injEq, if_true, if_false, Int.reduceAdd, Int.reduceSub, Int.reduceMul, Int.reduceLT, Int.reduceLE, Int.reduceEq, Int.reduceNe, Int.reduceNeg, Int.reduceToNat, Nat.reduceMul, Nat.reduceLT, Nat.reduceSub, Nat.reduceLeDiff]
        refine cp hgc ?_
        simp (maxSteps := 1000000) (disch := first | omega | (simp only [lenW] <;> omega)) only [wordsN, Int.reduceGT, wordsR, ne_eq, words, Nat.reduceAdd, Nat.reduceEqDiff, Nat.reduceBEq, ↓reduceIte, reduceCtorEq, SX.exit.injEq, if_true, if_false, Int.reduceAdd, Int.reduceSub, Int.reduceMul, Int.reduceLT, Int.reduceLE, Int.reduceEq, Int.reduceNe, Int.reduceNeg, Int.reduceToNat, Nat.reduceMul, Nat.reduceLT, Nat.reduceSub, Nat.reduceLeDiff]
        obtain ⟨n1, n2, n3⟩ := hnext b1
        refine ⟨k + 1, by omega, ⟨by omega, n1, n2, n3⟩, ?_⟩
        refine ⟨[(50, .blk 50 0), (51, .blk 51 0), (54, .blk 54 0)], rfl, au0, ?_, au7⟩
        exact RB.cells rfl rfl rfl (RnL.same (noRefs_flat10 _ _)) (RB.cells rfl rfl rfl (RnL.same (noRefs_rowF _ _)) (RB.cells rfl rfl rfl (RnL.eq (hfinal _ hko.symm).symm (noRefs_rowF _ _)) RB.nil))
      · have hko : kout s k = 0 - s.M (s.pos k) fr := by unfold kout; rw [if_neg hkf, hfre]; simp
        have hpk := i3 k hlt hkf
        have hpk' : s.pos k < nr := by omega
        have hgp := rowF_get (n := 10) (fun c => (s.pos c : Int)) (i := k) (by omega)
        have hgm := flat10_get (i := s.pos k) (c := fr) s.M hpk' (by omega)
        have hfr' : (fr : Int) < 10 := by omega
        have hkf' : ¬ k = fr := by omega
        have hset2 : ∀ u v, (rowF (colI cols).length fun j => if j = k then u else if j < k then kout s j else 0).set k (.int .i64 v) = rowF (colI cols).length (fun j => if j = k then v else if j < k then kout s j else 0) := fun u v => by
          rw [rowF_set]
          exact rowF_congr fun j _ => by by_cases e : j = k <;> simp [e]
        have hmb := b3 (s.pos k) fr
        have hmb2 : ∀ z, -2147483648 < z ∧ z < 2147483648 → wr .i64 (0 - z) = 0 - z := fun z hz => wr_i64 (by omega) (by omega)
        have hwr := hmb2 _ hmb
        rw [hko] at hmg hgc hnext hzero
        simp (maxSteps := 1000000) (disch := first | omega | (simp only [lenW] <;> omega)) only [hlt', hlt1, hk10, hset, rowF_len, hfre, hkf', hgp, hpk', hfr', hgm, hwr, hset2, hget, wordsN, Int.reduceGT, wordsR, ne_eq, words, Nat.reduceAdd, Nat.reduceEqDiff, Nat.reduceBEq, ↓reduceIte, reduceCtorEq, SX.exit.injEq, if_true, if_false, Int.reduceAdd, Int.reduceSub, Int.reduceMul, Int.reduceLT, Int.reduceLE, Int.reduceEq, Int.reduceNe, Int.reduceNeg, Int.reduceToNat, Nat.reduceMul, Nat.reduceLT, Nat.reduceSub, Nat.reduceLeDiff]
        by_cases hz : 0 - s.M (s.pos k) fr = 0
        · simp (maxSteps := 1000000) (disch := first | omega | (simp only [lenW] <;> omega)) only [hz, wordsN, Int.reduceGT, wordsR, ne_eq, words, Nat.reduceAdd, Nat.reduceEqDiff, Nat.reduceBEq, ↓reduceIte, reduceCtorEq, SX.exit.injEq, if_true, if_false, Int.reduceAdd, Int.reduceSub, Int.reduceMul, Int.reduceLT, Int.reduceLE, Int.reduceEq, Int.reduceNe, Int.reduceNeg, Int.reduceToNat, Nat.reduceMul, Nat.reduceLT, Nat.reduceSub, Nat.reduceLeDiff]
          refine ⟨.inr trivial, _, rfl, ?_⟩
          rw [hzero hz]; exact RnO.flat rfl
        · simp (maxSteps := 1000000) (disch := first | omega | (simp only [lenW] <;> omega)) only [hz, wordsN, Int.reduceGT, wordsR, ne_eq, words, Nat.reduceAdd, Nat.reduceEqDiff, Nat.reduceBEq, ↓reduceIte, reduceCtorEq, SX.exit.injEq, if_true, if_false, Int.reduceAdd, Int.reduceSub, Int.reduceMul, Int.reduceLT, Int.reduceLE, Int.reduceEq, Int.reduceNe, Int.reduceNeg, Int.reduceToNat, Nat.reduceMul, Nat.reduceLT, Nat.reduceSub, Nat.reduceLeDiff]
          refine cp hmg ?_
          simp (maxSteps := 1000000) (disch := first | omega | (simp only [lenW] <;> omega)) only [wordsN, Int.reduceGT, wordsR, ne_eq, words, Nat.reduceAdd, Nat.reduceEqDiff, Nat.reduceBEq, ↓reduceIte, reduceCtorEq, SX.exit.injEq, if_true, if_false, Int.reduceAdd, Int.reduceSub, Int.reduceMul, Int.reduceLT, Int.reduceLE, Int.reduceEq, Int.reduceNe, Int.reduceNeg, Int.reduceToNat, Nat.reduceMul, Nat.reduceLT, Nat.reduceSub, Nat.reduceLeDiff]
          refine cp hgc ?_
          simp (maxSteps := 1000000) (disch := first | omega | (simp only [lenW] <;> omega)) only [wordsN, Int.reduceGT, wordsR, ne_eq, words, Nat.reduceAdd, Nat.reduceEqDiff, Nat.reduceBEq, ↓reduceIte, reduceCtorEq, SX.exit.injEq, if_true, if_false, Int.reduceAdd, Int.reduceSub, Int.reduceMul, Int.reduceLT, Int.reduceLE, Int.reduceEq, Int.reduceNe, Int.reduceNeg, Int.reduceToNat, Nat.reduceMul, Nat.reduceLT, Nat.reduceSub, Nat.reduceLeDiff]
          obtain ⟨n1, n2, n3⟩ := hnext hz
          refine ⟨k + 1, by omega, ⟨by omega, n1, n2, n3⟩, ?_⟩
          refine ⟨[(50, .blk 50 0), (51, .blk 51 0), (54, .blk 54 0)], rfl, au0, ?_, au7⟩
          exact RB.cells rfl rfl rfl (RnL.same (noRefs_flat10 _ _)) (RB.cells rfl rfl rfl (RnL.same (noRefs_rowF _ _)) (RB.cells rfl rfl rfl (RnL.eq (hfinal _ hko.symm).symm (noRefs_rowF _ _)) RB.nil))
    have ek : k = cols.length := by omega
    have hlt' : ¬ k < (colI cols).length := by omega
    subst ek
    have hg0 := hg2 hn0
    generalize hG : kgcd ((List.range cols.length).map (kout s)) = G at hg1 hg0
    have hfirst : (rowF (colI cols).length fun j => if j < cols.length then kout s j else 0)[0]? = some (.int .i64 (kout s 0)) := by rw [rowF_get _ (by omega), if_pos hn0]
    have hc0 : (0 : Int) < (colI cols).length := by omega
    have hfres : kfin cols.length s = some ((List.range cols.length).map fun k => if kout s 0 < 0 then -((kout s k).tdiv G) else (kout s k).tdiv G) := by
      unfold kfin
      rw [if_neg hf0, if_neg, hG]
      intro ha
      obtain ⟨x, hx, hx0⟩ := List.any_eq_true.1 ha
      obtain ⟨j, hj, rfl⟩ := List.mem_map.1 hx
      exact hnz j (by simpa using hj) (by simpa using hx0)
    rw [hfres]
    have hG0 : ¬ (G : Int) = 0 := by omega
    simp (maxSteps := 1000000) (disch := first | omega | (simp only [lenW] <;> omega)) only [hlt', hfirst, hc0, wordsN, Int.reduceGT, wordsR, ne_eq, words, Nat.reduceAdd, Nat.reduceEqDiff, Nat.reduceBEq, ↓reduceIte, reduceCtorEq, SX.exit.injEq, if_true, if_false, Int.reduceAdd, Int.reduceSub, Int.reduceMul, Int.reduceLT, Int.reduceLE, Int.reduceEq, Int.reduceNe, Int.reduceNeg, Int.reduceToNat, Nat.reduceMul, Nat.reduceLT, Nat.reduceSub, Nat.reduceLeDiff]
    refine wS_loopR 800 (fun k : Nat => [(22, .sl 54 0 0 (colI cols).length 1), (23, .int .u64 G), (25, .bool (decide (kout s 0 < 0))), (193, .int .i64 (colI cols).length), (194, .int .i64 k)])
      (fun k => [(54, .cells 0 (rowF (colI cols).length fun j => if j < k then (if kout s 0 < 0 then -((kout s j).tdiv G) else (kout s j).tdiv G) else kout s j))]) (fun k => k ≤ cols.length) (fun k => cols.length - k) 0 ?_ (Nat.zero_le _) ?_
    · refine ⟨[(54, .blk 54 0)], rfl, au0, ?_, au7⟩
      exact RB.cells rfl rfl rfl (RnL.eq (rowF_congr fun j hj => by rw [if_neg (Nat.not_lt_zero _), if_pos (by omega)]) (noRefs_rowF _ _)) RB.nil
    intro k hk
    by_cases hkl : k < cols.length
    · have hkl' : k < (colI cols).length := by omega
      have hkl1 : k + 1 ≤ (colI cols).length := by omega
      have hg1' : (rowF (colI cols).length fun j => if j < k then (if kout s 0 < 0 then -((kout s j).tdiv G) else (kout s j).tdiv G) else kout s j)[k]? = some (.int .i64 (kout s k)) := by
        rw [rowF_get _ hkl', if_neg (Nat.lt_irrefl _)]
      have hq := tdiv_small (g := G) (hob k).1 (hob k).2
      have hneg : wr .i64 (0 - (kout s k).tdiv G) = 0 - (kout s k).tdiv G := by
        generalize (kout s k).tdiv G = q at hq
        exact wr_i64 (by omega) (by omega)
      have hwq : wr .i64 ((kout s k).tdiv G) = (kout s k).tdiv G := by
        generalize (kout s k).tdiv G = q at hq
        exact wr_i64 (by omega) (by omega)
      by_cases hng : kout s 0 < 0
      · have hset : ∀ v, (rowF (colI cols).length fun j => if j < k then (if kout s 0 < 0 then -((kout s j).tdiv G) else (kout s j).tdiv G) else kout s j).set k (.int .i64 v) = rowF (colI cols).length (fun j => if j = k then v else if j < k then (if kout s 0 < 0 then -((kout s j).tdiv G) else (kout s j).tdiv G) else kout s j) := fun v => rowF_set _ v
        have hget : ∀ v, (rowF (colI cols).length fun j => if j = k then v else if j < k then (if kout s 0 < 0 then -((kout s j).tdiv G) else (kout s j).tdiv G) else kout s j)[k]? = some (.int .i64 v) := fun v => by rw [rowF_get _ hkl', if_pos rfl]
        simp only [if_pos hng] at hset hget hg1' ⊢
        have hset2 : ∀ u v, (rowF (colI cols).length fun j => if j = k then u else if j < k then -((kout s j).tdiv G) else kout s j).set k (.int .i64 v) = rowF (colI cols).length (fun j => if j = k then v else if j < k then -((kout s j).tdiv G) else kout s j) := fun u v => by
          rw [rowF_set]
          exact rowF_congr fun j _ => by by_cases e : j = k <;> simp [e]
        simp (maxSteps := 1000000) (disch := first | omega | (simp only [lenW] <;> omega)) only [hkl', hkl1, hg1', hG0, hset, hget, rowF_len, hng, hneg, hwq, hset2, wordsN, Int.reduceGT, wordsR, ne_eq, words, Nat.reduceAdd, Nat.reduceEqDiff, Nat.reduceBEq, ↓reduceIte, reduceCtorEq, SX.exit.injEq, if_true, if_false, Int.reduceAdd, Int.reduceSub, Int.reduceMul, Int.reduceLT, Int.reduceLE, Int.reduceEq, Int.reduceNe, Int.reduceNeg, Int.reduceToNat, Nat.reduceMul, Nat.reduceLT, Nat.reduceSub, Nat.reduceLeDiff]
        refine ⟨k + 1, by omega, by omega, ?_⟩
        refine ⟨[(54, .blk 54 0)], rfl, au0, ?_, au7⟩
        refine RB.cells rfl rfl rfl (RnL.eq (rowF_congr fun j _ => ?_) (noRefs_rowF _ _)) RB.nil
        by_cases e : j = k
        · subst e; rw [if_pos (Nat.lt_succ_self _), if_pos rfl]; omega
        · have : (j < k + 1) ↔ (j < k) := by omega
          simp only [if_neg e, this]
      · have hset : ∀ v, (rowF (colI cols).length fun j => if j < k then (if kout s 0 < 0 then -((kout s j).tdiv G) else (kout s j).tdiv G) else kout s j).set k (.int .i64 v) = rowF (colI cols).length (fun j => if j = k then v else if j < k then (if kout s 0 < 0 then -((kout s j).tdiv G) else (kout s j).tdiv G) else kout s j) := fun v => rowF_set _ v
        simp only [if_neg hng] at hset hg1' ⊢
        simp (maxSteps := 1000000) (disch := first | omega | (simp only [lenW] <;> omega)) only [hkl', hkl1, hg1', hG0, hset, rowF_len, hng, hwq, wordsN, Int.reduceGT, wordsR, ne_eq, words, Nat.reduceAdd, Nat.reduceEqDiff, Nat.reduceBEq, ↓reduceIte, reduceCtorEq, SX.exit.injEq, if_true, if_false, Int.reduceAdd, Int.reduceSub, Int.reduceMul, Int.reduceLT, Int.reduceLE, Int.reduceEq, Int.reduceNe, Int.reduceNeg, Int.reduceToNat, Nat.reduceMul, Nat.reduceLT, Nat.reduceSub, Nat.reduceLeDiff]
        refine ⟨k + 1, by omega, by omega, ?_⟩
        refine ⟨[(54, .blk 54 0)], rfl, au0, ?_, au7⟩
        refine RB.cells rfl rfl rfl (RnL.eq (rowF_congr fun j _ => ?_) (noRefs_rowF _ _)) RB.nil
        by_cases e : j = k
        · subst e; rw [if_pos (Nat.lt_succ_self _), if_pos rfl]
        · have : (j < k + 1) ↔ (j < k) := by omega
          simp only [if_neg e, this]
    · have ek : k = cols.length := by omega
      have hkl' : ¬ k < (colI cols).length := by omega
      simp (maxSteps := 1000000) (disch := first | omega | (simp only [lenW] <;> omega)) only [hkl', wordsN, Int.reduceGT, wordsR, ne_eq, words, Nat.reduceAdd, Nat.reduceEqDiff, Nat.reduceBEq, ↓reduceIte, reduceCtorEq, SX.exit.injEq, if_true, if_false, Int.reduceAdd, Int.reduceSub, Int.reduceMul, Int.reduceLT, Int.reduceLE, Int.reduceEq, Int.reduceNe, Int.reduceNeg, Int.reduceToNat, Nat.reduceMul, Nat.reduceLT, Nat.reduceSub, Nat.reduceLeDiff]
      refine ⟨.inr trivial, _, rfl, RnO.tup (RnOL.cons ?_ (RnOL.cons (RnO.flat rfl) RnOL.nil))⟩
      refine RnO.slm rfl ?_ ?_ ?_ (by rw [rowF_len, Nat.mul_one])
      · show ints _ = ints _
        congr 1
        rw [ek, hcil]
        refine List.map_congr_left fun j hj => ?_
        have hj' : j < cols.length := by simpa using hj
        simp only [hj', if_true]
      · simp; exact hcil.symm
      · exact flatVs_ints _
end Go.AM.SN
set_option maxRecDepth 100000
namespace Go.AM.SM
open Go.Proofs
def s14 : SFn := ⟨21, [.tmp 4, .tmp 5],
 (.seq (.region [⟨(some 2), .box .dyn (.t 0), [], none⟩,
 ⟨(some 4), .mov (.c .nilsl), [], none⟩,
 ⟨(some 5), .mov (.c (.int .i64 0)), [1], none⟩] [] [0, 4, 5])
 (.seq (.region [⟨(some 9), .load (some 2) (.t 2), [], none⟩,
 ⟨(some 10), .mov (.t 1), [], none⟩,
 ⟨(some 11), .call .pure (.f 39) [(.t 9), (.t 10)], [0, 1], none⟩,
 ⟨(some 8), .mov (.t 11), [2], none⟩,
 ⟨(some 12), .extract 0 (.t 8), [3], none⟩,
 ⟨(some 13), .extract 1 (.t 8), [3], none⟩,
 ⟨(some 6), .alloc .dyn (.agg [(.int .i64 0), .nilsl]), [], none⟩,
 ⟨none, .store 2 (.t 6) (.t 12), [6, 4, 2, 0, 1, 2, 3, 4, 6], none⟩,
 ⟨(some 7), .mov (.t 13), [5, 7, 0, 1, 2, 3, 4, 5, 6, 7], none⟩] [] [1, 2, 9, 10, 11, 8, 12, 13])
 (.seq (.seq (.region [⟨(some 14), .mov (.t 7), [], none⟩,
 ⟨(some 15), .bin .neq (.t 14) (.c (.int .i64 0)), [0], none⟩] [] [14])
 (.cond (.t 15)
 (.seq (.region [⟨(some 16), .mov (.t 7), [], none⟩,
 ⟨(some 4), .mov (.c .nilsl), [], none⟩,
 ⟨(some 5), .mov (.t 16), [0, 1, 0, 1], none⟩] [] [6, 7, 15, 16])
 .ret)
 .skip))
 (.seq (.region [⟨(some 17), .load (some 2) (.t 6), [], none⟩,
 ⟨(some 18), .call .pure (.f 40) [(.t 17)], [0], none⟩,
 ⟨(some 19), .extract 0 (.t 18), [1], none⟩,
 ⟨(some 20), .extract 1 (.t 18), [1], none⟩,
 ⟨(some 4), .mov (.t 19), [2, 1, 0, 1, 2, 3], none⟩,
 ⟨(some 5), .mov (.t 20), [3, 4, 0, 1, 2, 3, 4], none⟩] [] [6, 7, 15, 17, 18, 19, 20])
 .ret))))⟩
def s15 : SFn := ⟨38, [.tmp 4, .tmp 5],
 (.seq (.region [⟨(some 2), .box .dyn (.t 0), [], none⟩,
 ⟨(some 4), .mov (.c (.bool false)), [], none⟩,
 ⟨(some 5), .mov (.c (.int .i64 0)), [1], none⟩] [] [0, 4, 5])
 (.seq (.region [⟨(some 12), .load (some 2) (.t 2), [], none⟩,
 ⟨(some 13), .mov (.t 1), [], none⟩,
 ⟨(some 14), .call .pure (.f 39) [(.t 12), (.t 13)], [0, 1], none⟩,
 ⟨(some 11), .mov (.t 14), [2], none⟩,
 ⟨(some 15), .extract 0 (.t 11), [3], none⟩,
 ⟨(some 16), .extract 1 (.t 11), [3], none⟩,
 ⟨(some 6), .alloc .dyn (.agg [(.int .i64 0), .nilsl]), [], none⟩,
 ⟨none, .store 2 (.t 6) (.t 15), [6, 4, 2, 0, 1, 2, 3, 4, 6], none⟩,
 ⟨(some 7), .mov (.t 16), [5, 7, 0, 1, 2, 3, 4, 5, 6, 7], none⟩] [] [1, 2, 12, 13, 14, 11, 15, 16])
 (.seq (.seq (.region [⟨(some 17), .mov (.t 7), [], none⟩,
 ⟨(some 18), .bin .neq (.t 17) (.c (.int .i64 0)), [0], none⟩] [] [17])
 (.cond (.t 18)
 (.seq (.region [⟨(some 19), .mov (.t 7), [], none⟩,
 ⟨(some 4), .mov (.c (.bool false)), [], none⟩,
 ⟨(some 5), .mov (.t 19), [0, 1, 0, 1], none⟩] [] [6, 7, 18, 19])
 .ret)
 .skip))
 (.seq (.region [⟨(some 8), .mov (.c (.int .u16 0)), [], none⟩] [] [4, 5, 7, 18])
 (.seq (.seq (.region [⟨(some 20), .load (some 2) (.t 6), [], none⟩,
 ⟨(some 21), .call .pure (.f 41) [(.t 20)], [0], none⟩,
 ⟨(some 22), .len 1 (.t 21), [1], none⟩,
 ⟨(some 23), .mov (.c (.int .i64 0)), [], none⟩] [] [20])
 (.block 0 (.loop (.seq (.region [⟨(some 24), .bin .lss (.t 23) (.t 22), [], none⟩] [] [])
 (.seq (.cond (.t 24)
 .skip
 (.exit 0))
 (.seq (.block 1 (.seq (.region [⟨(some 25), .iaddr none 11 (.t 21) (.t 23), [], none⟩,
 ⟨(some 26), .load (some 11) (.t 25), [0], none⟩,
 ⟨(some 10), .alloc .dyn (.agg [(.int .u16 0), (.int .i64 0), (.int .i64 0), (.int .i64 0), (.int .i64 0), (.int .i64 0), (.int .i64 0), (.int .i64 0), (.int .i64 0), (.int .i64 0), (.int .i64 0)]), [], none⟩,
 ⟨none, .store 11 (.t 10) (.t 26), [2, 1, 0, 1, 2], none⟩] [] [24, 25, 26])
 (.region [⟨(some 27), .mov (.t 8), [], none⟩,
 ⟨(some 28), .faddr 0 (.t 10), [], none⟩,
 ⟨(some 29), .load none (.t 28), [1], none⟩,
 ⟨(some 30), .bin .or (.t 27) (.t 29), [0, 2], none⟩,
 ⟨(some 8), .mov (.t 30), [3, 0, 1, 2, 3], none⟩] [] [10, 27, 28, 29, 30])))
 (.region [⟨(some 31), .bin .add (.t 23) (.c (.int .i64 1)), [], none⟩,
 ⟨(some 23), .mov (.t 31), [0], none⟩] [] [31])))))))
 (.seq (.region [⟨(some 32), .mov (.t 8), [], none⟩,
 ⟨(some 33), .faddr 0 (.t 6), [], none⟩,
 ⟨(some 34), .load none (.t 33), [1], none⟩,
 ⟨(some 35), .bin .shl (.c (.int .u16 1)) (.t 34), [2], none⟩,
 ⟨(some 36), .bin .sub (.t 35) (.c (.int .u16 1)), [3], none⟩,
 ⟨(some 37), .bin .eql (.t 32) (.t 36), [0, 4], none⟩,
 ⟨(some 4), .mov (.t 37), [5, 0, 1, 2, 3, 4, 5], none⟩,
 ⟨(some 5), .mov (.c (.int .i64 0)), [6, 0, 1, 2, 3, 4, 5, 6], none⟩] [] [6, 8, 21, 22, 23, 32, 33, 34, 35, 36, 37])
 .ret))))))⟩
def s40 : SFn := ⟨48, [.tmp 2, .tmp 3],
 (.seq (.region [⟨(some 1), .box .dyn (.t 0), [], none⟩,
 ⟨(some 2), .mov (.c .nilsl), [], none⟩,
 ⟨(some 3), .mov (.c (.int .i64 0)), [1], none⟩] [] [0, 2, 3])
 (.seq (.region [⟨(some 10), .load (some 2) (.t 1), [], none⟩,
 ⟨(some 11), .call .pure (.f 41) [(.t 10)], [0], none⟩,
 ⟨(some 4), .mov (.t 11), [1, 1, 0, 1], none⟩] [] [10, 11])
 (.seq (.seq (.region [⟨(some 12), .mov (.t 4), [], none⟩,
 ⟨(some 13), .len 1 (.t 12), [0], none⟩,
 ⟨(some 14), .bin .gtr (.t 13) (.c (.int .i64 128)), [1], none⟩] [] [12, 13])
 (.cond (.t 14)
 (.seq (.region [⟨(some 2), .mov (.c .nilsl), [], none⟩,
 ⟨(some 3), .mov (.c (.int .i64 3)), [0, 0], none⟩] [] [1, 4, 14])
 .ret)
 .skip))
 (.seq (.region [⟨(some 5), .mov (.c .nilsl), [], none⟩] [] [2, 3, 14])
 (.seq (.seq (.region [⟨(some 15), .mov (.t 4), [], none⟩,
 ⟨(some 16), .len 1 (.t 15), [0], none⟩,
 ⟨(some 17), .mov (.c (.int .i64 0)), [], none⟩] [] [4])
 (.block 0 (.loop (.seq (.region [⟨(some 18), .bin .lss (.t 17) (.t 16), [], none⟩] [] [])
 (.seq (.cond (.t 18)
 .skip
 (.exit 0))
 (.seq (.block 1 (.seq (.region [⟨(some 19), .iaddr none 11 (.t 15) (.t 17), [], none⟩,
 ⟨(some 20), .load (some 11) (.t 19), [0], none⟩,
 ⟨(some 7), .alloc .dyn (.agg [(.int .u16 0), (.int .i64 0), (.int .i64 0), (.int .i64 0), (.int .i64 0), (.int .i64 0), (.int .i64 0), (.int .i64 0), (.int .i64 0), (.int .i64 0), (.int .i64 0)]), [], none⟩,
 ⟨none, .store 11 (.t 7) (.t 20), [2, 1, 0, 1, 2], none⟩] [] [18, 19, 20])
 (.seq (.region [⟨(some 21), .faddr 0 (.t 1), [], none⟩,
 ⟨(some 22), .load none (.t 21), [0], none⟩,
 ⟨(some 23), .mkslice .dyn 1 8 [(.int .i64 0)] (.t 22) (.t 22), [1, 1], none⟩,
 ⟨(some 8), .mov (.t 23), [2, 0, 1, 2], none⟩] [] [21, 22, 23])
 (.seq (.seq (.region [⟨(some 24), .mov (.t 8), [], none⟩,
 ⟨(some 25), .len 1 (.t 24), [0], none⟩,
 ⟨(some 26), .mov (.c (.int .i64 0)), [], none⟩] [] [24])
 (.block 2 (.loop (.seq (.region [⟨(some 27), .bin .lss (.t 26) (.t 25), [], none⟩] [] [])
 (.seq (.cond (.t 27)
 .skip
 (.exit 2))
 (.seq (.block 3 (.seq (.region [⟨(some 28), .mov (.t 26), [], none⟩,
 ⟨(some 9), .mov (.t 28), [0, 0], none⟩] [] [27, 28])
 (.seq (.seq (.region [⟨(some 29), .mov (.t 9), [], none⟩,
 ⟨(some 30), .faddr 1 (.t 7), [], none⟩,
 ⟨(some 31), .iaddr (some 10) 1 (.t 30) (.t 29), [1, 0], none⟩,
 ⟨(some 32), .load none (.t 31), [2], none⟩,
 ⟨(some 33), .bin .gtr (.t 32) (.c (.int .i64 65536)), [3], none⟩] [] [29, 30, 31, 32])
 (.cond (.t 33)
 (.seq (.region [⟨(some 2), .mov (.c .nilsl), [], none⟩,
 ⟨(some 3), .mov (.c (.int .i64 3)), [0, 0], none⟩] [] [1, 5, 15, 16, 17, 7, 8, 25, 26, 9, 33])
 .ret)
 .skip))
 (.region [⟨(some 34), .mov (.t 8), [], none⟩,
 ⟨(some 35), .mov (.t 9), [], none⟩,
 ⟨(some 36), .mov (.t 9), [], none⟩,
 ⟨(some 37), .faddr 1 (.t 7), [], none⟩,
 ⟨(some 38), .iaddr (some 10) 1 (.t 37) (.t 36), [3, 2], none⟩,
 ⟨(some 39), .load none (.t 38), [4], none⟩,
 ⟨(some 40), .iaddr none 1 (.t 34) (.t 35), [0, 1, 0, 1, 2, 3, 4, 5], none⟩,
 ⟨none, .store 1 (.t 40) (.t 39), [6, 5, 0, 1, 2, 3, 4, 5], none⟩] [] [2, 3, 9, 33, 34, 35, 36, 37, 38, 39, 40]))))
 (.region [⟨(some 41), .bin .add (.t 26) (.c (.int .i64 1)), [], none⟩,
 ⟨(some 26), .mov (.t 41), [0], none⟩] [] [41])))))))
 (.region [⟨(some 42), .mov (.t 5), [], none⟩,
 ⟨(some 43), .mov (.t 8), [], none⟩,
 ⟨(some 44), .bslice false .dyn 1 1 [.nilsl] [(0, 1, (.t 43))], [1], none⟩,
 ⟨(some 45), .append .dyn 1 24 (.t 42) (.t 44), [0, 2], none⟩,
 ⟨(some 5), .mov (.t 45), [3, 3, 0, 1, 2, 3], none⟩] [] [7, 8, 25, 26, 42, 43, 44, 45])))))
 (.region [⟨(some 46), .bin .add (.t 17) (.c (.int .i64 1)), [], none⟩,
 ⟨(some 17), .mov (.t 46), [0], none⟩] [] [46])))))))
 (.seq (.region [⟨(some 47), .mov (.t 5), [], none⟩,
 ⟨(some 2), .mov (.t 47), [0, 0], none⟩,
 ⟨(some 3), .mov (.c (.int .i64 0)), [1, 0, 1], none⟩] [] [1, 5, 15, 16, 17, 47])
 .ret))))))⟩
def s41 : SFn := ⟨19, [.tmp 2],
 (.seq (.region [⟨(some 1), .box .dyn (.t 0), [], none⟩,
 ⟨(some 2), .mov (.c .nilsl), [], none⟩] [] [0, 2])
 (.seq (.region [⟨(some 3), .alloc .dyn .nilsl, [], none⟩] [] [])
 (.seq (.region [⟨(some 6), .mkmap .dyn, [], none⟩,
 ⟨(some 4), .alloc .dyn .nilmap, [], none⟩,
 ⟨none, .store 1 (.t 4) (.t 6), [1, 0, 0, 1], none⟩] [] [6])
 (.seq (.seq (.region [⟨(some 5), .mov (.c (.int .i64 1)), [], none⟩] [] [])
 (.block 0 (.loop (.seq (.seq (.region [⟨(some 7), .mov (.t 5), [], none⟩,
 ⟨(some 8), .faddr 0 (.t 1), [], none⟩,
 ⟨(some 9), .load none (.t 8), [1], none⟩,
 ⟨(some 10), .bin .leq (.t 7) (.t 9), [0, 2], none⟩] [] [7, 8, 9])
 (.cond (.t 10)
 .skip
 (.exit 0)))
 (.seq (.block 1 (.region [⟨(some 13), .faddr 0 (.t 1), [], none⟩,
 ⟨(some 14), .load none (.t 13), [0], none⟩,
 ⟨(some 15), .mov (.t 5), [], none⟩,
 ⟨(some 16), .mkfn 60 [] [(.t 4), (.t 1), (.t 3)], [], none⟩,
 ⟨(some 17), .call .heap (.f 59) [(.t 14), (.t 15), (.t 16)], [1, 2, 3], none⟩] [] [10, 13, 14, 15, 16, 17]))
 (.region [⟨(some 11), .mov (.t 5), [], none⟩,
 ⟨(some 12), .bin .add (.t 11) (.c (.int .i64 1)), [0], none⟩,
 ⟨(some 5), .mov (.t 12), [1, 0, 1], none⟩] [] [11, 12]))))))
 (.seq (.region [⟨(some 18), .load none (.t 3), [], none⟩,
 ⟨(some 2), .mov (.t 18), [0, 0], none⟩] [] [1, 3, 4, 5, 18])
 .ret)))))⟩
def s59 : SFn := ⟨70, [],
 (.seq (.region [⟨(some 10), .mov (.t 1), [], none⟩,
 ⟨(some 11), .mkslice .dyn 1 8 [(.int .i64 0)] (.t 10) (.t 10), [0, 0], none⟩,
 ⟨(some 6), .mov (.t 11), [1, 0, 1], none⟩] [] [10, 11])
 (.seq (.seq (.region [⟨(some 12), .mov (.t 6), [], none⟩,
 ⟨(some 13), .len 1 (.t 12), [0], none⟩,
 ⟨(some 14), .mov (.c (.int .i64 0)), [], none⟩] [] [12])
 (.block 0 (.loop (.seq (.region [⟨(some 15), .bin .lss (.t 14) (.t 13), [], none⟩] [] [])
 (.seq (.cond (.t 15)
 .skip
 (.exit 0))
 (.seq (.block 1 (.seq (.region [⟨(some 16), .mov (.t 14), [], none⟩,
 ⟨(some 7), .mov (.t 16), [0, 0], none⟩] [] [15, 16])
 (.region [⟨(some 17), .mov (.t 6), [], none⟩,
 ⟨(some 18), .mov (.t 7), [], none⟩,
 ⟨(some 19), .mov (.t 7), [], none⟩,
 ⟨(some 20), .iaddr none 1 (.t 17) (.t 18), [0, 1, 0, 1, 2], none⟩,
 ⟨none, .store 1 (.t 20) (.t 19), [3, 2, 0, 1, 2], none⟩] [] [7, 17, 18, 19, 20])))
 (.region [⟨(some 21), .bin .add (.t 14) (.c (.int .i64 1)), [], none⟩,
 ⟨(some 14), .mov (.t 21), [0], none⟩] [] [21])))))))
 (.block 2 (.loop (.seq (.seq (.region [⟨(some 22), .mov (.t 1), [], none⟩,
 ⟨(some 23), .mov (.t 0), [], none⟩,
 ⟨(some 24), .bin .leq (.t 22) (.t 23), [0, 1], none⟩] [] [13, 14, 22, 23])
 (.cond (.t 24)
 .skip
 (.exit 2)))
 (.block 3 (.seq (.region [⟨(some 25), .mov (.t 2), [], none⟩,
 ⟨(some 26), .mov (.t 6), [], none⟩,
 ⟨(some 27), .call .heap (.t 25) [(.t 26)], [0, 1], none⟩] [] [24, 25, 26, 27])
 (.seq (.region [⟨(some 28), .mov (.t 1), [], none⟩,
 ⟨(some 29), .bin .sub (.t 28) (.c (.int .i64 1)), [0], none⟩,
 ⟨(some 8), .mov (.t 29), [1, 0, 1], none⟩] [] [28, 29])
 (.seq (.block 4 (.loop (.seq (.seq (.region [⟨(some 30), .mov (.t 8), [], none⟩,
 ⟨(some 31), .bin .geq (.t 30) (.c (.int .i64 0)), [0], none⟩,
 ⟨(some 32), .mov (.t 31), [1], none⟩,
 ⟨(some 33), .mov (.t 6), [2], (some (32, true))⟩,
 ⟨(some 34), .mov (.t 8), [2], (some (32, true))⟩,
 ⟨(some 35), .iaddr none 1 (.t 33) (.t 34), [3, 4, 2], (some (32, true))⟩,
 ⟨(some 36), .load none (.t 35), [5, 2], (some (32, true))⟩,
 ⟨(some 37), .mov (.t 0), [2], (some (32, true))⟩,
 ⟨(some 38), .mov (.t 1), [2], (some (32, true))⟩,
 ⟨(some 39), .bin .sub (.t 37) (.t 38), [7, 8, 2], (some (32, true))⟩,
 ⟨(some 40), .mov (.t 8), [2], (some (32, true))⟩,
 ⟨(some 41), .bin .add (.t 39) (.t 40), [9, 10, 2], (some (32, true))⟩,
 ⟨(some 42), .bin .eql (.t 36) (.t 41), [6, 11, 2], (some (32, true))⟩,
 ⟨(some 43), .pick (.t 32) (.t 42) (.c (.bool false)), [2, 12], none⟩] [] [30, 31, 32])
 (.cond (.t 43)
 .skip
 (.exit 4)))
 (.block 5 (.region [⟨(some 44), .mov (.t 8), [], none⟩,
 ⟨(some 45), .bin .sub (.t 44) (.c (.int .i64 1)), [0], none⟩,
 ⟨(some 8), .mov (.t 45), [1, 0, 1], none⟩] [] [43, 44, 45])))))
 (.seq (.seq (.region [⟨(some 46), .mov (.t 8), [], none⟩,
 ⟨(some 47), .bin .lss (.t 46) (.c (.int .i64 0)), [0], none⟩] [] [46])
 (.cond (.t 47)
 .ret
 .skip))
 (.seq (.region [⟨(some 48), .mov (.t 6), [], none⟩,
 ⟨(some 49), .mov (.t 8), [], none⟩,
 ⟨(some 50), .iaddr none 1 (.t 48) (.t 49), [0, 1], none⟩,
 ⟨(some 51), .load none (.t 50), [2], none⟩,
 ⟨(some 52), .bin .add (.t 51) (.c (.int .i64 1)), [3], none⟩,
 ⟨(some 53), .iaddr none 1 (.t 48) (.t 49), [0, 1, 0, 1, 2, 3, 4], none⟩,
 ⟨none, .store 1 (.t 53) (.t 52), [5, 4, 0, 1, 2, 3, 4], none⟩] [] [47, 48, 49, 50, 51, 52, 53])
 (.seq (.region [⟨(some 54), .mov (.t 8), [], none⟩,
 ⟨(some 55), .bin .add (.t 54) (.c (.int .i64 1)), [0], none⟩,
 ⟨(some 9), .mov (.t 55), [1, 0, 1], none⟩] [] [8, 54, 55])
 (.block 6 (.loop (.seq (.seq (.region [⟨(some 56), .mov (.t 9), [], none⟩,
 ⟨(some 57), .mov (.t 1), [], none⟩,
 ⟨(some 58), .bin .lss (.t 56) (.t 57), [0, 1], none⟩] [] [56, 57])
 (.cond (.t 58)
 .skip
 (.exit 6)))
 (.seq (.block 7 (.region [⟨(some 61), .mov (.t 6), [], none⟩,
 ⟨(some 62), .mov (.t 9), [], none⟩,
 ⟨(some 63), .mov (.t 6), [], none⟩,
 ⟨(some 64), .mov (.t 9), [], none⟩,
 ⟨(some 65), .bin .sub (.t 64) (.c (.int .i64 1)), [3], none⟩,
 ⟨(some 66), .iaddr none 1 (.t 63) (.t 65), [2, 4], none⟩,
 ⟨(some 67), .load none (.t 66), [5], none⟩,
 ⟨(some 68), .bin .add (.t 67) (.c (.int .i64 1)), [6], none⟩,
 ⟨(some 69), .iaddr none 1 (.t 61) (.t 62), [0, 1, 0, 1, 2, 3, 4, 5, 6, 7], none⟩,
 ⟨none, .store 1 (.t 69) (.t 68), [8, 7, 0, 1, 2, 3, 4, 5, 6, 7], none⟩] [] [58, 61, 62, 63, 64, 65, 66, 67, 68, 69]))
 (.region [⟨(some 59), .mov (.t 9), [], none⟩,
 ⟨(some 60), .bin .add (.t 59) (.c (.int .i64 1)), [0], none⟩,
 ⟨(some 9), .mov (.t 60), [1, 0, 1], none⟩] [] [59, 60])))))))))))))))))⟩
def s60 : SFn := ⟨71, [],
 (.seq (.region [⟨(some 5), .mov (.c (.int .u16 0)), [], none⟩] [] [])
 (.seq (.seq (.region [⟨(some 14), .mov (.t 0), [], none⟩,
 ⟨(some 15), .len 1 (.t 14), [0], none⟩,
 ⟨(some 16), .mov (.c (.int .i64 0)), [], none⟩] [] [])
 (.block 0 (.loop (.seq (.region [⟨(some 17), .bin .lss (.t 16) (.t 15), [], none⟩] [] [])
 (.seq (.cond (.t 17)
 .skip
 (.exit 0))
 (.seq (.block 1 (.seq (.region [⟨(some 18), .iaddr none 1 (.t 14) (.t 16), [], none⟩,
 ⟨(some 19), .load none (.t 18), [0], none⟩,
 ⟨(some 7), .mov (.t 19), [1, 0, 1], none⟩] [] [17, 18, 19])
 (.region [⟨(some 20), .mov (.t 5), [], none⟩,
 ⟨(some 21), .mov (.t 7), [], none⟩,
 ⟨(some 22), .bin .shl (.c (.int .u16 1)) (.t 21), [1], none⟩,
 ⟨(some 23), .bin .or (.t 20) (.t 22), [0, 2], none⟩,
 ⟨(some 5), .mov (.t 23), [3, 0, 1, 2, 3], none⟩] [] [7, 20, 21, 22, 23])))
 (.region [⟨(some 24), .bin .add (.t 16) (.c (.int .i64 1)), [], none⟩,
 ⟨(some 16), .mov (.t 24), [0], none⟩] [] [24])))))))
 (.seq (.mloop [⟨(some 25), .load none (.t 1), [], none⟩] (.t 25) 26 27 28 29 2 3 [⟨(some 30), .extract 0 (.t 29), [0], none⟩, ⟨(some 8), .mov (.t 30), [1, 0, 1], none⟩]
 (.seq (.region [⟨(some 31), .mov (.t 8), [], none⟩,
 ⟨(some 32), .mov (.t 5), [], none⟩,
 ⟨(some 33), .bin .and (.t 31) (.t 32), [0, 1], none⟩,
 ⟨(some 34), .mov (.t 8), [], none⟩,
 ⟨(some 35), .bin .eql (.t 33) (.t 34), [2, 3], none⟩] [] [])
 (.cond (.t 35)
 .ret
 .skip)))
 (.seq (.region [⟨(some 37), .load (some 2) (.t 2), [], none⟩,
 ⟨(some 38), .mov (.t 0), [], none⟩,
 ⟨(some 39), .call .heap (.f 61) [(.t 37), (.t 38)], [0, 1], none⟩,
 ⟨(some 36), .mov (.t 39), [2], none⟩,
 ⟨(some 40), .extract 0 (.t 36), [3], none⟩,
 ⟨(some 41), .extract 1 (.t 36), [3], none⟩,
 ⟨(some 9), .mov (.t 40), [4, 2, 0, 1, 2, 3, 4], none⟩,
 ⟨(some 10), .mov (.t 41), [5, 6, 0, 1, 2, 3, 4, 5, 6], none⟩] [] [2, 14, 15, 16, 37, 38, 39, 36, 40, 41])
 (.seq (.seq (.region [⟨(some 42), .mov (.t 10), [], none⟩,
 ⟨(some 43), .un .not (.t 42), [0], none⟩,
 ⟨(some 44), .mov (.t 43), [1], none⟩,
 ⟨(some 45), .mov (.t 9), [2], (some (44, false))⟩,
 ⟨(some 46), .call .borrow (.f 62) [(.t 45), (.f 63)], [3, 2, 2], (some (44, false))⟩,
 ⟨(some 47), .pick (.t 44) (.c (.bool true)) (.t 46), [2, 4], none⟩] [] [46, 45, 10, 42, 43, 44])
 (.cond (.t 47)
 .ret
 .skip))
 (.seq (.region [⟨(some 48), .mov (.t 5), [], none⟩,
 ⟨(some 49), .build [(.int .u16 0), (.int .i64 0), (.int .i64 0), (.int .i64 0), (.int .i64 0), (.int .i64 0), (.int .i64 0), (.int .i64 0), (.int .i64 0), (.int .i64 0), (.int .i64 0)] [(0, 1, (.t 48))], [0], none⟩,
 ⟨(some 11), .alloc .dyn (.agg [(.int .u16 0), (.int .i64 0), (.int .i64 0), (.int .i64 0), (.int .i64 0), (.int .i64 0), (.int .i64 0), (.int .i64 0), (.int .i64 0), (.int .i64 0), (.int .i64 0)]), [], none⟩,
 ⟨none, .store 11 (.t 11) (.t 49), [2, 1, 0, 1, 2], none⟩] [] [47, 48, 49])
 (.seq (.seq (.region [⟨(some 50), .mov (.t 0), [], none⟩,
 ⟨(some 51), .len 1 (.t 50), [0], none⟩,
 ⟨(some 52), .mov (.c (.int .i64 0)), [], none⟩] [] [0])
 (.block 4 (.loop (.seq (.region [⟨(some 53), .bin .lss (.t 52) (.t 51), [], none⟩] [] [])
 (.seq (.cond (.t 53)
 .skip
 (.exit 4))
 (.seq (.block 5 (.seq (.region [⟨(some 54), .mov (.t 52), [], none⟩,
 ⟨(some 55), .iaddr none 1 (.t 50) (.t 52), [], none⟩,
 ⟨(some 56), .load none (.t 55), [1], none⟩,
 ⟨(some 12), .mov (.t 54), [0, 0, 1, 2], none⟩,
 ⟨(some 13), .mov (.t 56), [2, 3, 0, 1, 2, 3], none⟩] [] [53, 54, 55, 56])
 (.region [⟨(some 57), .mov (.t 13), [], none⟩,
 ⟨(some 58), .mov (.t 9), [], none⟩,
 ⟨(some 59), .mov (.t 12), [], none⟩,
 ⟨(some 60), .iaddr none 1 (.t 58) (.t 59), [1, 2], none⟩,
 ⟨(some 61), .load none (.t 60), [3], none⟩,
 ⟨(some 62), .faddr 1 (.t 11), [], none⟩,
 ⟨(some 63), .iaddr (some 10) 1 (.t 62) (.t 57), [5, 0, 0, 1, 2, 3, 4], none⟩,
 ⟨none, .store 1 (.t 63) (.t 61), [6, 4, 0, 1, 2, 3, 4], none⟩] [] [12, 13, 57, 58, 59, 60, 61, 62, 63])))
 (.region [⟨(some 64), .bin .add (.t 52) (.c (.int .i64 1)), [], none⟩,
 ⟨(some 52), .mov (.t 64), [0], none⟩] [] [64])))))))
 (.seq (.region [⟨(some 65), .load none (.t 1), [], none⟩,
 ⟨(some 66), .mov (.t 5), [], none⟩,
 ⟨none, .mupd false [.i] (.t 65) (.t 66) (.c (.bool true)), [0, 1, 0, 1], none⟩] [] [1, 5, 9, 50, 51, 52, 65, 66])
 (.region [⟨(some 67), .load none (.t 3), [], none⟩,
 ⟨(some 68), .load (some 11) (.t 11), [], none⟩,
 ⟨(some 69), .bslice false .dyn 11 1 [(.int .u16 0), (.int .i64 0), (.int .i64 0), (.int .i64 0), (.int .i64 0), (.int .i64 0), (.int .i64 0), (.int .i64 0), (.int .i64 0), (.int .i64 0), (.int .i64 0)] [(0, 11, (.t 68))], [1], none⟩,
 ⟨(some 70), .append .dyn 11 88 (.t 67) (.t 69), [0, 2], none⟩,
 ⟨none, .store 1 (.t 3) (.t 70), [3, 3, 0, 1, 2, 3], none⟩] [] [3, 11, 67, 68, 69, 70])))))))))⟩
theorem ok14 : okFn Try.prog 14 s14 = true := by kernel_rfl
theorem ok15 : okFn Try.prog 15 s15 = true := by kernel_rfl
theorem ok40 : okFn Try.prog 40 s40 = true := by kernel_rfl
theorem ok41 : okFn Try.prog 41 s41 = true := by kernel_rfl
theorem ok59 : okFn Try.prog 59 s59 = true := by kernel_rfl
theorem ok60 : okFn Try.prog 60 s60 = true := by kernel_rfl
end Go.AM.SM
set_option linter.unusedSimpArgs false
set_option linter.unusedVariables false
namespace Go.AM
variable {P : Program}
def noLoop : SCode → Bool
  | .loop _ | .mloop .. => false
  | .seq a b => noLoop a && noLoop b
  | .cond _ a b => noLoop a && noLoop b
  | .block _ b => noLoop b
  | _ => true
theorem wpC.toW1 {N : NM} : ∀ {c : SCode} {n : Nat} {T : Tmps} {h : Heap} {Q : QC}, noLoop c = true → wpC P N c n T h Q → W P N.n c (fun e B => ∃ n, Q e B.T B.h n) ⟨T, h⟩
  | .skip, n, T, h, Q, _, hk => W.skip ⟨n, hk⟩
  | .ret, n, T, h, Q, _, hk => W.ret ⟨n, hk⟩
  | .exit i, n, T, h, Q, _, hk => W.exit ⟨n, hk⟩
  | .bad, _, _, _, _, _, hk => hk.elim
  | .mloop .., n, T, h, Q, hn, hk => by simp [noLoop] at hn
  | .loop _, n, T, h, Q, hn, hk => by simp [noLoop] at hn
  | .region ops [] dead, n, T, h, Q, _, hk => by
    have := wpR.toWR (i := 0) hk
    exact W.regionR n (this |> fun h => by simpa using (show _ from (wpC.toW.wr_mono h)))
  | .region ops (p :: ps) dead, n, T, h, Q, _, hk => by
    obtain ⟨fs, T', h', h1, h2, h3⟩ := wpRF.toF (i := 0) hk
    exact W.regionF n fs h1 h2 ⟨_, h3⟩
  | .seq a b, n, T, h, Q, hn, hk => by
    simp only [wpC] at hk
    simp only [noLoop, Bool.and_eq_true] at hn
    refine W.seq ((wpC.toW1 (c := a) hn.1 hk).mono ?_)
    rintro e B ⟨n', hq⟩
    cases e with
    | normal => exact wpC.toW1 hn.2 hq
    | exit i => exact ⟨n', hq⟩
    | ret => exact ⟨n', hq⟩
  | .cond x a b, n, T, h, Q, hn, ⟨t, hx, hk⟩ => by
    simp only [noLoop, Bool.and_eq_true] at hn
    refine W.cond hx ?_ ?_
    · intro e; rw [if_pos e] at hk; exact wpC.toW1 hn.1 hk
    · intro e; rw [if_neg (by simp [e])] at hk; exact wpC.toW1 hn.2 hk
  | .block i b, n, T, h, Q, hn, hk => by
    simp only [wpC] at hk
    refine W.block ((wpC.toW1 (c := b) hn hk).mono ?_)
    rintro e B ⟨n', hq⟩
    cases e with
    | normal => exact ⟨n', hq⟩
    | ret => exact ⟨n', hq⟩
    | exit j =>
      simp only at hq ⊢
      split
      · rename_i e; rw [if_pos e] at hq; exact ⟨n', hq⟩
      · rename_i e; rw [if_neg e] at hq; exact ⟨n', hq⟩
theorem W.weak1 {N : Nat} {c : SCode} {Q : SX → St → Prop} {T L : Tmps} {h : Heap} (hT : Sub L T) (hw : W P N c Q ⟨L, h⟩) : W P N c Q ⟨T, h⟩ := by
  intro code hok ctx a w S Q' hQ
  refine hw code hok ctx a w ⟨S.heap, fun i => ?_, S.size, S.defers⟩ Q' hQ
  rcases hT i with e | e
  · show VRel ctx w (lk L i) _
    rw [e]; simp [VRel]
  · show VRel ctx w (lk L i) _
    rw [e]; exact S.tmps i
def msQ (P : Program) (N : NM) (L : Tmps) (h : Heap) (b2 : Nat) (G : Prop) (fs : List Fr) (Q : QC) : QC := fun e T h' n =>
  match e with
  | .normal => G ∧ Sub L T ∧ h' = h
  | .exit j => if j = b2 then G ∧ Sub L T ∧ h' = h else False
  | .ret => wX P N .ret fs n T h' Q
section
variable {N : NM} {n : Nat} {T L : Tmps} {h : Heap} {Q : QC} {fs : List Fr} {b2 : Nat} {G : Prop}
theorem msQ_normal {h' : Heap} : msQ P N L h b2 G fs Q .normal T h' n = (G ∧ Sub L T ∧ h' = h) := rfl
theorem msQ_exit {j : Nat} {h' : Heap} : msQ P N L h b2 G fs Q (.exit j) T h' n = if j = b2 then G ∧ Sub L T ∧ h' = h else False := rfl
theorem msQ_ret {h' : Heap} : msQ P N L h b2 G fs Q .ret T h' n = wX P N .ret fs n T h' Q := rfl
theorem Rec.sub {m : Nat} {T1 T Lx : Tmps} {L : HL} {h : Heap} (hr : Rec m T1 L Lx h) (hS : Sub Lx T) : Rec m T1 L T h := by
  obtain ⟨ps, h1, h2, h3, h4⟩ := hr
  refine ⟨ps, h1, h2, h3, fun i => ?_⟩
  rcases hS i with e | e
  · intro c w v H M _
    exact h4 i c w v H M (by rw [e]; simp [VRel])
  · rw [← e]; exact h4 i
theorem wS_msearch {kk m : Nat} {p d it nx ok en b1 a e8 : Nat} {l1 l2 : List Nat} {body : SCode} {b g off mb mg : Nat} {cs : List AV} {es : List (AV × AV)} (n0 n1 k0 : Nat) (L T1 : Tmps) (L1 : HL) (G : AV → AV → Prop)
    (htp : lk T p = .ptr b g off) (hb : h.get b = some (.cells g cs)) (hc : cs[off]? = some (.map mb mg)) (hm : h.get mb = some (.map mg es)) (hn : h.get k0 = none) (hk : k0 < 1099511627775) (hmk : mb ≠ k0)
    (hL : Sub ((it, .ptr k0 0 0) :: L) (up (up T d (.map mb mg)) it (.ptr k0 0 0)))
    (hfree : (((it, AV.any) :: L).all fun q => !Nat.beq q.1 nx && !Nat.beq q.1 ok && !Nat.beq q.1 en && !Nat.beq q.1 a && !Nat.beq q.1 e8) = true) (hae : a ≠ en) (hno : noLoop body = true)
    (round : ∀ (i : Nat) (k v : AV), es[i]? = some (k, v) → wS P ⟨kk, m⟩ body [] n0 ((e8, k) :: (it, .ptr k0 0 0) :: L) (h.set k0 (.dead 0)) (msQ P ⟨kk, m⟩ ((it, .ptr k0 0 0) :: L) (h.set k0 (.dead 0)) b2 (G k v) fs Q))
    (hrec : Rec m T1 L1 ((it, .ptr k0 0 0) :: L) (h.set k0 (.dead 0))) (cont : (∀ (i : Nat) (k v : AV), es[i]? = some (k, v) → G k v) → wX P ⟨kk, m⟩ .normal fs n1 T1 (hp L1) Q) :
    wS P ⟨kk, m⟩ (.mloop [⟨some d, .load none (.t p), [], none⟩] (.t d) it nx ok en b1 b2 [⟨some a, .extract 0 (.t en), l1, none⟩, ⟨some e8, .mov (.t a), l2, none⟩] body) fs n T h Q := by
  show W2 P ⟨kk, m⟩ (.mloop [⟨some d, .load none (.t p), [], none⟩] (.t d) it nx ok en b1 b2 _ body) (fun e B => ∃ n, ct P ⟨kk, m⟩ fs Q e B.T B.h n) ⟨T, h⟩
  have hkl : k0 < lim := by unfold lim; omega
  have hrun : ∃ f, RunF P n 0 [⟨some d, .load none (.t p), [], none⟩] [f] ⟨T, h⟩ ⟨up T d (.map mb mg), h⟩ := by
    refine ⟨_, _, [], .map mb mg, h, rfl, ⟨.val (.map mb mg), h, ?_, rfl, rfl, rfl⟩, rfl, rfl⟩
    show (hval (aLoad none (lk T p))).run h = _
    rw [htp]
    have : (aLoad none (.ptr b g off)).run h = some (.map mb mg, h) := by
      simp only [aLoad, HM.cells, HM.run, hb]
      have : Nat.beq g g = true := by simp
      rw [this]; simp only [cond_true, hc, HM.opt, HM.run]
    exact run_hval' _ _ this
  obtain ⟨f0, hrun⟩ := hrun
  have hf : ∀ j, (j = nx ∨ j = ok ∨ j = en ∨ j = a ∨ j = e8) → ∀ (X : Tmps) (v : AV), Sub ((it, .ptr k0 0 0) :: L) X → Sub ((it, .ptr k0 0 0) :: L) (up X j v) := by
    intro j hj X v hS i
    rw [lk_up]
    split
    · rename_i e; subst e
      left
      have hq : ∀ q ∈ ((it, AV.any) :: L), q.1 ≠ i := by
        intro q hq e
        have := List.all_eq_true.1 hfree q hq
        simp only [Bool.and_eq_true, Bool.not_eq_true', Bool.not_eq_true] at this
        have hne : Nat.beq q.1 i = false → False := fun h => by rw [show q.1 = i from e] at h; simp at h
        rcases hj with rfl | rfl | rfl | rfl | rfl
        · exact hne this.1.1.1.1
        · exact hne this.1.1.1.2
        · exact hne this.1.1.2
        · exact hne this.1.2
        · exact hne this.2
      have hmem : ∀ (M : Tmps), (∀ q ∈ M, q.1 ≠ i) → lk M i = .any := by
        intro M
        induction M with
        | nil => intro _; rfl
        | cons q M ih =>
          intro hM
          obtain ⟨j, u⟩ := q
          rw [lk_cons, if_neg (hM (j, u) (by simp)), ih fun q hq => hM q (by simp [hq])]
      refine hmem _ fun q hq' => ?_
      rcases List.mem_cons.1 hq' with rfl | h2
      · exact hq (it, AV.any) (by simp)
      · exact hq q (by simp [h2])
    · exact hS i
  refine W2.post (W2.of_W (W.mloop (A := ⟨T, h⟩) (B0 := ⟨up T d (.map mb mg), h⟩) (mb := mb) (mg := mg) (es := es) n _ hrun ?_ hm hn hkl
    (fun vis B => B.h = h.set k0 (.dead 0) ∧ Sub ((it, .ptr k0 0 0) :: L) B.T ∧ (lk B.T it = .ptr k0 0 0) ∧ ∀ i, i ∈ vis → ∀ (k v : AV), es[i]? = some (k, v) → G k v) ?_ ?_ ?_ ?_))
  · show lk (up T d (.map mb mg)) d = _
    rw [lk_up, if_pos rfl]
  · rintro vis B ⟨h1, h2, h3, _⟩
    exact ⟨h3, es, by rw [h1, get_ne hk hmk, hm], rfl⟩
  · exact ⟨rfl, hL, by rw [lk_up, if_pos rfl], fun i hi => by cases hi⟩
  · rintro vis B i k v es' ⟨h1, h2, h3, h4⟩ hi hme hes
    have hes' : es' = es := by
      rw [h1, get_ne hk hmk, hm] at hme; cases hme; rfl
    subst hes'
    generalize hX : up (up B.T nx .any) ok (.bool true) = X
    have hXS : Sub ((it, .ptr k0 0 0) :: L) X := by rw [← hX]; exact hf ok (.inr (.inl rfl)) _ _ (hf nx (.inl rfl) _ _ h2)
    refine ⟨n, _, ⟨up (up (up X en (.tup [k, v])) a k) e8 k, B.h⟩, ⟨_, _, k, B.h, rfl, ⟨.val k, B.h, ?_, rfl, rfl, rfl⟩, ⟨_, [], k, B.h, rfl, ⟨.val k, B.h, ?_, rfl, rfl, rfl⟩, rfl, rfl⟩⟩, ?_⟩
    · show (lift (aExtract 0 (lk (up X en (.tup [k, v])) en))).run B.h = _
      rw [lk_up, if_pos rfl]; rfl
    · show (HM.ret (AOut.val (lk (up (up X en (.tup [k, v])) a k) a))).run B.h = _
      rw [lk_up, if_pos rfl]; rfl
    · have hS2 := hf e8 (.inr (.inr (.inr (.inr rfl)))) _ k (hf a (.inr (.inr (.inr (.inl rfl)))) _ k (hf en (.inr (.inr (.inl rfl))) X (.tup [k, v]) hXS))
      rw [h1]
      refine W.weak1 (L := (e8, k) :: (it, .ptr k0 0 0) :: L) (Sub.cons (by rw [lk_up, if_pos rfl]) hS2) ((wpC.toW1 hno (round i k v hes)).mono ?_)
      have again : ∀ D : St, G k v ∧ Sub ((it, .ptr k0 0 0) :: L) D.T ∧ D.h = h.set k0 (.dead 0) → D.h = h.set k0 (.dead 0) ∧ Sub ((it, .ptr k0 0 0) :: L) D.T ∧ lk D.T it = .ptr k0 0 0 ∧ ∀ i', i' ∈ i :: vis → ∀ (k v : AV), es'[i']? = some (k, v) → G k v := by
        rintro D ⟨g1, g2, g3⟩
        refine ⟨g3, g2, ?_, fun i' hi' k' v' he => ?_⟩
        · rcases g2 it with e | e
          · rw [lk_cons, if_pos rfl] at e; cases e
          · rw [lk_cons, if_pos rfl] at e; exact e.symm
        · rcases List.mem_cons.1 hi' with rfl | hi'
          · rw [hes] at he; cases he; exact g1
          · exact h4 i' hi' k' v' he
      rintro e D ⟨n', hq⟩
      cases e with
      | normal => exact again D hq
      | exit j =>
        have hq : (if j = b2 then G k v ∧ Sub ((it, .ptr k0 0 0) :: L) D.T ∧ D.h = h.set k0 (.dead 0) else False) := hq
        split at hq
        · rename_i e; show (if j = b2 then _ else _); rw [if_pos e]; exact again D hq
        · exact hq.elim
      | ret => exact .inl ⟨n', hq⟩
  · rintro vis B ⟨h1, h2, h3, h4⟩ hall
    have hG := cont fun i k v hi => h4 i (hall i (List.getElem?_eq_some_iff.1 hi).1) k v hi
    right
    refine ⟨T1, L1, ?_, n1, hG⟩
    show Rec m T1 L1 (up (up B.T nx .any) ok (.bool false)) B.h
    rw [h1]
    exact hrec.sub (hf ok (.inr (.inl rfl)) _ _ (hf nx (.inl rfl) _ _ h2))
end
end Go.AM
set_option linter.unusedSimpArgs false
set_option linter.unusedVariables false
namespace Go.AM
variable {P : Program}
section
variable {N : NM} {n : Nat} {d : Option Nat} {af dead : List Nat} {r : List SOper} {T : Tmps} {h : Heap} {Q : QC} {fs : List Fr}
theorem aMakeMap_new (hl : n < 1099511627775) : wM P N (aMakeMap .dyn n) d r dead fs n T h Q = if h.get n = none then wR P N r dead fs (n + 1) (putD T d (.map n 0)) (h.set n (.map 0 [])) Q else False := by
  have hl' : Nat.blt n lim = true := by simp [Nat.blt]; unfold lim; omega
  apply propext; constructor
  · rintro ⟨v', h1, hm, hk⟩
    unfold aMakeMap HM.new at hm
    simp only [HM.run] at hm
    cases hn : h.get n with
    | none =>
      rw [hn] at hm
      obtain ⟨hl, hm⟩ := run_put hm
      simp only [HM.run, Option.some.injEq, Prod.mk.injEq] at hm
      obtain ⟨rfl, rfl⟩ := hm
      rw [if_pos rfl]; exact hk
    | some z => rw [hn] at hm; cases hm
  · split
    · rename_i hn
      intro hk
      refine ⟨_, _, ?_, hk⟩
      unfold aMakeMap HM.new
      simp only [HM.run, hn]
      rw [hl']; rfl
    · exact fun h => h.elim
def keyM (k : IntKind) (v : AV) (l : List Nat) : List (AV × AV) := l.map fun x : Nat => (.int k (x : Int), v)
theorem keyM_get {k : IntKind} {v : AV} {l : List Nat} {i : Nat} {a b : AV} (hi : (keyM k v l)[i]? = some (a, b)) : ∃ x : Nat, l[i]? = some x ∧ a = .int k (x : Int) ∧ b = v := by
  simp only [keyM, List.getElem?_map] at hi
  cases hx : l[i]? with
  | none => rw [hx] at hi; cases hi
  | some x => rw [hx] at hi; cases hi; exact ⟨x, rfl, rfl, rfl⟩
theorem aFind_keyM {k : IntKind} {v : AV} {x : Nat} : ∀ (l : List Nat) (i : Nat), x ∉ l → aFind false [.i] (.int k (x : Int)) (keyM k v l) i = some none
  | [], _, _ => rfl
  | y :: l, i, hx => by
    simp only [List.mem_cons, not_or] at hx
    show (match keyEq false [.i] (.int k (x : Int)) (.int k (y : Int)) with | some true => _ | some false => _ | none => _) = _
    have : keyEq false [.i] (.int k (x : Int)) (.int k (y : Int)) = some false := by
      have : ¬ (x : Int) = y := by omega
      simp [keyEq, eqCells, eqCell, this]
    rw [this]
    exact aFind_keyM l (i + 1) hx.2
theorem RnM.keyM {m : Nat} {π : Nat → Option Src} {h : Heap} {k : IntKind} {v : AV} (hv : noRef v = true) : ∀ {l : List Nat}, RnM m π h (keyM k v l) (keyM k v l)
  | [] => trivial
  | x :: l => ⟨⟨Rn.same rfl, Rn.same hv⟩, RnM.keyM hv (l := l)⟩
def wU (P : Program) (N : NM) (o : Option Blk) (b g : Nat) (k v : AV) (d : Option Nat) (ops : List SOper) (dead : List Nat) (fs : List Fr) (n : Nat) (T : Tmps) (h : Heap) (Q : QC) : Prop :=
  ∃ es, o = some (.map g es) ∧ aFind false [.i] k es 0 = some none ∧ b < lim ∧ wR P N ops dead fs (n + 1) (putD T d .any) (h.set b (.map g (es ++ [(k, v)]))) Q
theorem aMapUpd_new {k : IntKind} {x : Int} {b g : Nat} {v : AV} (hu : wU P N (h.get b) b g (.int k x) v d r dead fs n T h Q) : wM P N (aMapUpd false [.i] (.map b g) (.int k x) v) d r dead fs n T h Q := by
  obtain ⟨es, hb, hf, hl, hk⟩ := hu
  refine ⟨_, _, ?_, hk⟩
  have hok : keyOK false [.i] (.int k x) = true := by simp [keyOK, keyEq, eqCells, eqCell]
  have hl' : Nat.blt b lim = true := by simp [Nat.blt]; exact hl
  have hg : Nat.beq g g = true := by simp
  unfold aMapUpd
  rw [if_pos hok]
  simp only [HM.entries, HM.run, hb, hg, cond_true, hf, hl']
theorem wU_ins {k : IntKind} {x : Nat} {l : List Nat} {b g : Nat} {u : AV} (hx : x ∉ l) (hl : b < 1099511627775) (hk : wR P N r dead fs (n + 1) (putD T d .any) (h.set b (.map g (keyM k u (l ++ [x])))) Q) :
    wU P N (some (.map g (keyM k u l))) b g (.int k (x : Int)) u d r dead fs n T h Q :=
by
  have e : keyM k u l ++ [(.int k (x : Int), u)] = keyM k u (l ++ [x]) := by simp [keyM]
  have hl' : b < lim := hl
  rw [← e] at hk
  exact ⟨_, rfl, aFind_keyM l 0 hx, hl', hk⟩
end
def wZ (P : Program) (N : NM) (o : Option (List AV)) (k len sz : Nat) (d : Option Nat) (ops : List SOper) (dead : List Nat) (fs : List Fr) (n : Nat) (T : Tmps) (h : Heap) (Q : QC) : Prop :=
  ∃ cs, o = some cs ∧ cs.length = k ∧ cs.all AV.one = true ∧ wR P N ops dead fs (n + 1) (putD T d (.fsl cs len sz)) h Q
theorem wZ_some {N : NM} {n : Nat} {d : Option Nat} {dead : List Nat} {r : List SOper} {T : Tmps} {h : Heap} {Q : QC} {fs : List Fr} {cs : List AV} {k len sz : Nat} :
    wZ P N (some cs) k len sz d r dead fs n T h Q = if cs.length = k then (if cs.all AV.one = true then wR P N r dead fs (n + 1) (putD T d (.fsl cs len sz)) h Q else False) else False := by
  by_cases h1 : cs.length = k <;> by_cases h2 : cs.all AV.one = true <;> simp only [wZ, h1, h2, if_true, if_false, Option.some.injEq, exists_eq_left', true_and, false_and] <;> simp [h1, h2]
theorem aBuildSlice_frz {N : NM} {n : Nat} {d : Option Nat} {dead : List Nat} {r : List SOper} {T : Tmps} {h : Heap} {Q : QC} {fs : List Fr} {s : Site} {sz len : Nat} {z : List AV} {ps : List (Nat × Nat × AV)} :
    wM P N (aBuildSlice true s n sz len z ps) d r dead fs n T h Q = wZ P N (fillA z ps) (len * sz) len sz d r dead fs n T h Q := by
  unfold aBuildSlice
  cases fillA z ps with
  | none => simp [wM_fail, wZ]
  | some cs =>
    simp only [wZ_some, if_true]
    split
    · split
      · exact wM_ret
      · exact wM_fail
    · exact wM_fail
theorem wordsM : AV.nilmap.boxable = true ∧ AV.nilmap.cells = [.nilmap] ∧ (∀ b g, (AV.map b g).cells = [.map b g]) ∧ (∀ b g, (AV.map b g).one = true) ∧ (∀ b g, (AV.map b g).boxable = true) ∧ AV.nilmap.one = true :=
  ⟨rfl, rfl, fun _ _ => rfl, fun _ _ => rfl, fun _ _ => rfl, rfl⟩
theorem or16 {x y : Nat} (hx : x < 65536) (hy : y < 65536) : aBin .or (.int .u16 (x : Int)) (.int .u16 (y : Int)) = some (.int .u16 ((x ||| y : Nat) : Int)) := by
  have h1 : (BitVec.ofInt 16 (x : Int) ||| BitVec.ofInt 16 (y : Int)).toNat = x ||| y := by
    have e1 : BitVec.ofInt 16 (x : Int) = BitVec.ofNat 16 x := by simp
    have e2 : BitVec.ofInt 16 (y : Int) = BitVec.ofNat 16 y := by simp
    rw [e1, e2, BitVec.toNat_or, BitVec.toNat_ofNat, BitVec.toNat_ofNat, Nat.mod_eq_of_lt (by omega), Nat.mod_eq_of_lt (by omega)]
  have h2 : x ||| y < 2 ^ 16 := Nat.or_lt_two_pow (by omega) (by omega)
  have e2 : aBin .or (.int .u16 (x : Int)) (.int .u16 (y : Int)) = some (.int .u16 (wr .u16 ((BitVec.ofInt 16 (x : Int) ||| BitVec.ofInt 16 (y : Int)).toNat : Int))) := rfl
  rw [e2, h1, wr_u16 (by omega) (by omega)]
theorem and16 {x y : Nat} (hx : x < 65536) (hy : y < 65536) : aBin .and (.int .u16 (x : Int)) (.int .u16 (y : Int)) = some (.int .u16 ((x &&& y : Nat) : Int)) := by
  have h1 : (BitVec.ofInt 16 (x : Int) &&& BitVec.ofInt 16 (y : Int)).toNat = x &&& y := by
    have e1 : BitVec.ofInt 16 (x : Int) = BitVec.ofNat 16 x := by simp
    have e2 : BitVec.ofInt 16 (y : Int) = BitVec.ofNat 16 y := by simp
    rw [e1, e2, BitVec.toNat_and, BitVec.toNat_ofNat, BitVec.toNat_ofNat, Nat.mod_eq_of_lt (by omega), Nat.mod_eq_of_lt (by omega)]
  have h2 : x &&& y < 2 ^ 16 := Nat.and_lt_two_pow x (by omega)
  have e2 : aBin .and (.int .u16 (x : Int)) (.int .u16 (y : Int)) = some (.int .u16 (wr .u16 ((BitVec.ofInt 16 (x : Int) &&& BitVec.ofInt 16 (y : Int)).toNat : Int))) := rfl
  rw [e2, h1, wr_u16 (by omega) (by omega)]
theorem shl16 {c : Nat} {k : IntKind} (hc : c < 16) : aBin .shl (.int .u16 1) (.int k (c : Int)) = some (.int .u16 ((1 <<< c : Nat) : Int)) := by
  have h0 : ¬ (c : Int) < 0 := by omega
  have h1 : 1 <<< c < 65536 := by
    rw [Nat.shiftLeft_eq, Nat.one_mul]
    exact Nat.lt_of_lt_of_le (Nat.pow_lt_pow_right (by decide) hc) (by decide)
  have e2 : aBin .shl (.int .u16 1) (.int k (c : Int)) = if (c : Int) < 0 then none else some (.int .u16 (wr .u16 (1 * 2 ^ (min (c : Int).toNat 16)))) := rfl
  have e3 : (1 * 2 ^ (min (c : Int).toNat 16) : Int) = ((1 <<< c : Nat) : Int) := by
    rw [Int.toNat_natCast, Nat.min_eq_left (show c ≤ 16 by omega), Nat.shiftLeft_eq]
    simp
  have h3 : wr .u16 ((1 <<< c : Nat) : Int) = ((1 <<< c : Nat) : Int) := by
    generalize 1 <<< c = z at h1
    exact wr_u16 (by omega) (by omega)
  rw [e2, if_neg h0, e3, h3]
theorem shl_lt {c : Nat} (hc : c < 16) : 1 <<< c < 65536 := by
  rw [Nat.shiftLeft_eq, Nat.one_mul]
  exact Nat.lt_of_lt_of_le (Nat.pow_lt_pow_right (by decide) hc) (by decide)
theorem HSpec.of_rec {f m : Nat} {sf : SFn} {args : List AV} {L0 L : HL} {v : AV} (n : Nat) (hok : okFn P f sf = true) (hl : Nat.ble args.length sf.n = true) (hm : (Nat.ble m 1099511627775 && L0.all fun p => Nat.blt p.1 m) = true)
    (hv : noRef v = true) (hw : wS P ⟨sf.n, m⟩ sf.body [] n (argT 0 args) (hp L0) fun e T k _ => (e = .normal ∨ e = .ret) ∧ ∃ vs, resV T k sf.res = some vs ∧ resOf vs = v ∧ Rec m [] L T k) : HSpec P f args (hp L0) v (hp L) := by
  simp only [Bool.and_eq_true, Nat.ble_eq] at hm
  refine HSpec.of_W2 hok (Nat.le_of_ble_eq_true hl) (fun b hb => ?_) ((wpC.toW hw).mono ?_)
  · have : ∀ M : HL, M.all (fun p => Nat.blt p.1 m) = true → (hp M).get b = none := by
      intro M
      induction M with
      | nil => intro _; exact get_e
      | cons q M ih =>
        obtain ⟨j, x⟩ := q
        intro hM
        simp only [List.all_cons, Bool.and_eq_true, Nat.blt, Nat.ble_eq] at hM
        rw [hp_cons, get_ne (by omega) (by omega)]; exact ih (by simpa [Nat.blt] using hM.2)
    exact this L0 hm.2
  · rintro e B ⟨n', h1, vs, h2, h3, ps, ho, hro, hb, ht⟩
    exact ⟨h1, vs, _, h2, Rec.maps ho hb, Rec.heap ho hb, Rec.dom ho hro, by rw [h3]; exact Rn.same hv⟩
end Go.AM
namespace Go.AM.SN
open Go.Proofs Go.AM.SK
set_option maxRecDepth 100000
set_option linter.unusedSimpArgs false
set_option linter.unusedVariables false
abbrev Flow := Nat × (Nat → Int)
def flowC (F : List Flow) : List AV := F.flatMap fun f => .int .u16 f.1 :: rowF 10 f.2
def supOf (set : List Nat) : Nat := set.foldl (fun a c => a ||| 1 <<< c) 0
def scat (set : List Nat) (l : List Int) : Nat → Int := (set.zip l).foldl (fun f p => fun c => if c = p.1 then p.2 else f c) fun _ => 0
def visitR (R : List (List Int)) (F : List Flow) (set : List Nat) : List Flow :=
  if (F.any fun f => decide (f.1 &&& supOf set = f.1)) = true then F else
  match kerR R set with
  | none => F
  | some l => if (l.any fun x => decide (x < 0)) = true then F else F ++ [(supOf set, scat set l)]
theorem noRefs_flowC (F : List Flow) : noRefs (flowC F) = true := by
  induction F with
  | nil => rfl
  | cons f F ih =>
    unfold flowC at ih ⊢
    rw [List.flatMap_cons, noRefs_append, ih]
    simp only [noRefs, noRef, noRefs_rowF]; rfl
theorem flowC_len (F : List Flow) : (flowC F).length = F.length * 11 := by
  induction F with
  | nil => rfl
  | cons f F ih =>
    unfold flowC at ih ⊢
    rw [List.flatMap_cons, List.length_append, ih, List.length_cons, rowF_len, List.length_cons]; omega
theorem supOf_take {set : List Nat} {i c : Nat} (h : set[i]? = some c) : supOf (set.take (i + 1)) = supOf (set.take i) ||| 1 <<< c := by
  unfold supOf
  rw [List.take_add_one, List.foldl_append, h]; rfl
theorem supOf_lt {set : List Nat} (h : ∀ c ∈ set, c < 16) : supOf set < 65536 := by
  unfold supOf
  have : ∀ (l : List Nat) (a : Nat), (∀ c ∈ l, c < 16) → a < 65536 → l.foldl (fun a c => a ||| 1 <<< c) a < 65536 := by
    intro l
    induction l with
    | nil => intro a _ ha; exact ha
    | cons c l ih =>
      intro a hl ha
      rw [List.foldl_cons]
      have := shl_lt (hl c (by simp))
      exact ih _ (fun c hc => hl c (by simp [hc])) (Nat.or_lt_two_pow (n := 16) ha this)
  exact this set 0 h (by decide)
theorem neg63 (x : Int) : PSpec Try.prog 63 [.int .i64 x] (.bool (decide (x < 0))) := by
  refine PSpec.of_flat 64 SK.ok63 rfl rfl rfl ?_
  simp (maxSteps := 1000000) (disch := first | omega | (simp only [lenW] <;> omega)) only [SK.s63, wordsN, Int.reduceGT, wordsR, ne_eq, words, Nat.reduceAdd, Nat.reduceEqDiff, Nat.reduceBEq, ↓reduceIte, reduceCtorEq, SX.exit.injEq, if_true, if_false, Int.reduceAdd, Int.reduceSub, Int.reduceMul, Int.reduceLT, Int.reduceLE, Int.reduceEq, Int.reduceNe, Int.reduceNeg, Int.reduceToNat, Nat.reduceMul, Nat.reduceLT, Nat.reduceSub, Nat.reduceLeDiff]
  exact ⟨.inr trivial, _, rfl, rfl⟩
theorem _root_.Go.AM.au9 {p : Prop} (h : p := by repeat' (first | exact RB.nil | (refine RnL.same ?_; first | rfl | (simp only [noRef, noRefs, noRefs_append, Bool.and_self, Bool.and_true, Bool.true_and, noRefs_flat10, noRefs_ints, noRefs_lsts, noRefs_pad, noRefs_tnC, noRefs_arcC, noRefs_rowF, noRefs_flowC]; done)) | exact RnM.keyM rfl | exact RnL.nil | refine RnL.cons ?_ ?_ | (refine Rn.same ?_; first | rfl | (simp only [noRef, noRefs, noRefs_append, Bool.and_self, Bool.and_true, Bool.true_and, noRefs_flat10, noRefs_ints, noRefs_lsts, noRefs_pad, noRefs_tnC, noRefs_arcC, noRefs_rowF, noRefs_flowC]; done)) | exact Rn.x1 rfl rfl | exact Rn.x2 rfl rfl | exact Rn.x3 rfl rfl | exact Rn.x4 rfl rfl | exact Rn.x5 rfl | exact Rn.x6 rfl | exact Rn.x7 rfl | refine RB.newnil rfl rfl ?_ | refine RB.cells rfl rfl rfl ?_ ?_ | refine RB.map rfl rfl rfl ?_ ?_ | refine RB.cellsB rfl rfl ?_ ?_ | refine RB.mapB rfl rfl ?_ ?_)) : p := h
theorem _root_.Go.AM.au10 {p : Prop} (h : p := by repeat (first | exact RT.nil | (refine RT.cons ?_ ?_; · (first | exact Rn.any | exact Rn.x1 rfl rfl | exact Rn.x2 rfl rfl | exact Rn.x3 rfl rfl | exact Rn.x4 rfl rfl | exact Rn.x5 rfl | exact Rn.x6 rfl | exact Rn.x7 rfl | (refine Rn.slot ?_ ?_; (first | rfl | (rw [Int.natCast_add]; rfl)); (first | rfl | (simp only [noRef, noRefs, noRefs_append, Bool.and_self, Bool.and_true, Bool.true_and, noRefs_flat10, noRefs_ints, noRefs_lsts, noRefs_pad, noRefs_tnC, noRefs_arcC, noRefs_rowF, noRefs_flowC]; done))) | (refine Rn.fn ?_ ?_ <;> (repeat' (first | exact RnL.nil | refine RnL.cons ?_ ?_ | exact Rn.same rfl | exact Rn.x6 rfl | exact Rn.x2 rfl rfl | exact Rn.x5 rfl | exact Rn.x1 rfl rfl))))))) : p := h
theorem index75 (l : List Int) (hl : l.length ≤ 1000) : PSpec Try.prog 75 [sli l, .fn 63 [] []] (.int .i64 (firstAt (fun x => decide (x < 0)) l)) := by
  refine PSpec.of_flat 64 SK.ok75 rfl (by simp [noRefs, noRef, noRefs_ints]) rfl ?_
  simp (maxSteps := 1000000) (disch := first | omega | (simp only [lenW] <;> omega)) only [SK.s75, wordsN, Int.reduceGT, wordsR, ne_eq, words, Nat.reduceAdd, Nat.reduceEqDiff, Nat.reduceBEq, ↓reduceIte, reduceCtorEq, SX.exit.injEq, if_true, if_false, Int.reduceAdd, Int.reduceSub, Int.reduceMul, Int.reduceLT, Int.reduceLE, Int.reduceEq, Int.reduceNe, Int.reduceNeg, Int.reduceToNat, Nat.reduceMul, Nat.reduceLT, Nat.reduceSub, Nat.reduceLeDiff]
  refine wS_loopR 100 (fun i : Nat => [(0, sli l), (1, .fn 63 [] []), (7, .int .i64 l.length), (8, .int .i64 i)]) (fun _ => []) (fun i => i ≤ l.length ∧ ∀ j y, j < i → l[j]? = some y → (decide (y < 0)) = false) (fun i => l.length - i) 0 ⟨[], rfl, au0, au9, au10⟩ ⟨Nat.zero_le _, fun j y hj => absurd hj (Nat.not_lt_zero _)⟩ ?_
  rintro i ⟨hi, hb⟩
  by_cases hlt : i < l.length
  · obtain ⟨x, hx⟩ := get_ex hlt
    simp (maxSteps := 1000000) (disch := first | omega | (simp only [lenW] <;> omega)) only [hlt, head_ints hx, wordsN, Int.reduceGT, wordsR, ne_eq, words, Nat.reduceAdd, Nat.reduceEqDiff, Nat.reduceBEq, ↓reduceIte, reduceCtorEq, SX.exit.injEq, if_true, if_false, Int.reduceAdd, Int.reduceSub, Int.reduceMul, Int.reduceLT, Int.reduceLE, Int.reduceEq, Int.reduceNe, Int.reduceNeg, Int.reduceToNat, Nat.reduceMul, Nat.reduceLT, Nat.reduceSub, Nat.reduceLeDiff]
    refine cp (neg63 x) ?_
    cases hp : decide (x < 0) with
    | true =>
      simp (maxSteps := 1000000) (disch := first | omega | (simp only [lenW] <;> omega)) only [wordsN, Int.reduceGT, wordsR, ne_eq, words, Nat.reduceAdd, Nat.reduceEqDiff, Nat.reduceBEq, ↓reduceIte, reduceCtorEq, SX.exit.injEq, if_true, if_false, Int.reduceAdd, Int.reduceSub, Int.reduceMul, Int.reduceLT, Int.reduceLE, Int.reduceEq, Int.reduceNe, Int.reduceNeg, Int.reduceToNat, Nat.reduceMul, Nat.reduceLT, Nat.reduceSub, Nat.reduceLeDiff]
      exact ⟨.inr trivial, _, rfl, by rw [firstAt_found (p := fun x => decide (x < 0)) hx hp hb]; rfl⟩
    | false =>
      simp (maxSteps := 1000000) (disch := first | omega | (simp only [lenW] <;> omega)) only [wordsN, Int.reduceGT, wordsR, ne_eq, words, Nat.reduceAdd, Nat.reduceEqDiff, Nat.reduceBEq, ↓reduceIte, reduceCtorEq, SX.exit.injEq, if_true, if_false, Int.reduceAdd, Int.reduceSub, Int.reduceMul, Int.reduceLT, Int.reduceLE, Int.reduceEq, Int.reduceNe, Int.reduceNeg, Int.reduceToNat, Nat.reduceMul, Nat.reduceLT, Nat.reduceSub, Nat.reduceLeDiff]
      refine ⟨i + 1, by omega, ⟨by omega, fun j y hj hy => ?_⟩, ⟨[], rfl, au0, au9, au10⟩⟩
      by_cases e : j = i
      · subst e; rw [hx] at hy; cases hy; exact of_decide_eq_false hp
      · exact of_decide_eq_false (hb j y (by omega) hy)
  · simp (maxSteps := 1000000) (disch := first | omega | (simp only [lenW] <;> omega)) only [hlt, wordsN, Int.reduceGT, wordsR, ne_eq, words, Nat.reduceAdd, Nat.reduceEqDiff, Nat.reduceBEq, ↓reduceIte, reduceCtorEq, SX.exit.injEq, if_true, if_false, Int.reduceAdd, Int.reduceSub, Int.reduceMul, Int.reduceLT, Int.reduceLE, Int.reduceEq, Int.reduceNe, Int.reduceNeg, Int.reduceToNat, Nat.reduceMul, Nat.reduceLT, Nat.reduceSub, Nat.reduceLeDiff]
    exact ⟨.inr trivial, _, rfl, by rw [firstAt_none fun j y hy => hb j y (by have := (List.getElem?_eq_some_iff.1 hy).1; omega) hy]; rfl⟩
theorem contains62 (l : List Int) (hl : l.length ≤ 1000) : PSpec Try.prog 62 [sli l, .fn 63 [] []] (.bool (l.any fun x => decide (x < 0))) := by
  refine PSpec.of_flat 64 SK.ok62 rfl (by simp [noRefs, noRef, noRefs_ints]) rfl ?_
  simp (maxSteps := 1000000) (disch := first | omega | (simp only [lenW] <;> omega)) only [SK.s62, wordsN, Int.reduceGT, wordsR, ne_eq, words, Nat.reduceAdd, Nat.reduceEqDiff, Nat.reduceBEq, ↓reduceIte, reduceCtorEq, SX.exit.injEq, if_true, if_false, Int.reduceAdd, Int.reduceSub, Int.reduceMul, Int.reduceLT, Int.reduceLE, Int.reduceEq, Int.reduceNe, Int.reduceNeg, Int.reduceToNat, Nat.reduceMul, Nat.reduceLT, Nat.reduceSub, Nat.reduceLeDiff]
  refine cp (index75 l hl) ?_
  simp (maxSteps := 1000000) (disch := first | omega | (simp only [lenW] <;> omega)) only [firstAt_ge, wordsN, Int.reduceGT, wordsR, ne_eq, words, Nat.reduceAdd, Nat.reduceEqDiff, Nat.reduceBEq, ↓reduceIte, reduceCtorEq, SX.exit.injEq, if_true, if_false, Int.reduceAdd, Int.reduceSub, Int.reduceMul, Int.reduceLT, Int.reduceLE, Int.reduceEq, Int.reduceNe, Int.reduceNeg, Int.reduceToNat, Nat.reduceMul, Nat.reduceLT, Nat.reduceSub, Nat.reduceLeDiff]
  exact ⟨.inr trivial, _, rfl, rfl⟩
theorem ker_len {R : List (List Int)} {cols : List Nat} {l : List Int} (h : kerR R cols = some l) : l.length = cols.length := by
  unfold kerR at h
  cases hs : krun R cols cols.length with
  | none => rw [hs] at h; cases h
  | some s =>
    rw [hs] at h
    have h : kfin cols.length s = some l := h
    unfold kfin at h
    split at h
    · cases h
    · split at h
      · cases h
      · cases h; simp
def vH (K : Nat) (R : List (List Int)) (F : List Flow) (g : Nat) : HL :=
  [(20, .cells 0 [.sl 23 g 0 F.length 11]), (21, .cells 0 [.map 22 0]), (22, .map 0 (keyM .u16 (.bool true) (F.map (·.1)))), (23, .cells g (flowC F)), (24, .cells 0 [.int .i64 K, .fsl (R.flatMap pad) R.length 10])]
def vS (K : Nat) (R : List (List Int)) (F : List Flow) (g : Nat) (set : List Nat) : HL :=
  [(20, .cells 0 [.sl 23 g 0 F.length 11]), (21, .cells 0 [.map 22 0]), (22, .map 0 (keyM .u16 (.bool true) (F.map (·.1)))), (23, .cells g (flowC F)), (24, .cells 0 [.int .i64 K, .fsl (R.flatMap pad) R.length 10]), (150, .cells 0 (ints (colI set)))]
def vW (K : Nat) (R : List (List Int)) (F : List Flow) (g : Nat) (set : List Nat) (f : Nat → Int) : HL :=
  [(20, .cells 0 [.sl 23 g 0 F.length 11]), (21, .cells 0 [.map 22 0]), (22, .map 0 (keyM .u16 (.bool true) (F.map (·.1)))), (23, .cells g (flowC F)), (24, .cells 0 [.int .i64 K, .fsl (R.flatMap pad) R.length 10]), (150, .cells 0 (ints (colI set))), (210, .cells 0 (.int .u16 (supOf set : Nat) :: rowF 10 f))]
theorem scat_take {set : List Nat} {l : List Int} {i c : Nat} {x : Int} (h : set[i]? = some c) (hx : l[i]? = some x) : scat (set.take (i + 1)) (l.take (i + 1)) = fun j => if j = c then x else scat (set.take i) (l.take i) j := by
  unfold scat
  have e : ∀ n, (set.take n).zip (l.take n) = (set.zip l).take n := fun n => by rw [List.zip_eq_zipWith, List.zip_eq_zipWith, List.take_zipWith]
  have hz : (set.zip l)[i]? = some (c, x) := by rw [List.zip_eq_zipWith, List.getElem?_zipWith, h, hx]
  rw [e, e, List.take_add_one, List.foldl_append, hz]
  rfl
set_option maxHeartbeats 8000000 in
theorem visit (K : Nat) (R : List (List Int)) (F : List Flow) (g : Nat) (set : List Nat) (hK : K ≤ 10) (hR : R.length ≤ 100) (hRk : ∀ r ∈ R, r.length = K) (hc : ∀ c ∈ set, c < K) (hn : set.length ≤ 10) (hb : KBd R set)
    (hF : F.length ≤ 1000) (hFs : ∀ f ∈ F, f.1 < 65536) :
    HSpec Try.prog 60 [.sl 150 0 0 set.length 1, .ptr 21 0 0, .ptr 24 0 0, .ptr 20 0 0] (hp (vS K R F g set)) (.tup [])
      (hp (vS K R (visitR R F set) (g + ((visitR R F set).length - F.length)) set)) := by
  refine HSpec.of_rec (m := 200) 300 SM.ok60 rfl rfl rfl ?_
  generalize hL : vS K R (visitR R F set) (g + ((visitR R F set).length - F.length)) set = L1
  have hcil := colI_len set
  have hc16 : ∀ c ∈ set, c < 16 := fun c h => by have := hc c h; omega
  have hs16 : ∀ i, supOf (set.take i) < 65536 := fun i => supOf_lt fun c h => hc16 c (List.mem_of_mem_take h)
  simp (maxSteps := 1000000) (disch := first | omega | (simp only [lenW] <;> omega)) only [SM.s60, vS, wordsN, Int.reduceGT, wordsR, ne_eq, words, Nat.reduceAdd, Nat.reduceEqDiff, Nat.reduceBEq, ↓reduceIte, reduceCtorEq, SX.exit.injEq, if_true, if_false, Int.reduceAdd, Int.reduceSub, Int.reduceMul, Int.reduceLT, Int.reduceLE, Int.reduceEq, Int.reduceNe, Int.reduceNeg, Int.reduceToNat, Nat.reduceMul, Nat.reduceLT, Nat.reduceSub, Nat.reduceLeDiff]
  refine wS_loopX 400 (fun i : Nat => [(0, .sl 150 0 0 set.length 1), (1, .ptr 21 0 0), (2, .ptr 24 0 0), (3, .ptr 20 0 0), (5, .int .u16 (supOf (set.take i) : Nat)), (14, .sl 150 0 0 set.length 1), (15, .int .i64 set.length), (16, .int .i64 i)])
    (fun _ => vS K R F g set) (fun i => i ≤ set.length) (fun i => set.length - i) 0 0 500
    (fun _ : Unit => [(0, .sl 150 0 0 set.length 1), (1, .ptr 21 0 0), (2, .ptr 24 0 0), (3, .ptr 20 0 0), (5, .int .u16 (supOf set : Nat))]) (fun _ => vS K R F g set) (fun _ => True) ⟨[(20, .blk 20 0), (21, .blk 21 0), (22, .blk 22 0), (23, .blk 23 0), (24, .blk 24 0), (150, .blk 150 0)], rfl, au0, au9, au10⟩ (Nat.zero_le _) ?_ ?_
  · intro i hi
    by_cases hlt : i < set.length
    · obtain ⟨c, hcc⟩ := get_ex hlt
      have hcl := hc16 c (List.mem_of_getElem? hcc)
      have hgi : (ints (colI set))[i]? = some (.int .i64 c) := by simp [ints, colI_get hcc]
      simp (maxSteps := 1000000) (disch := first | omega | (simp only [lenW] <;> omega)) only [hlt, hgi, vS, shl16 hcl, or16 (hs16 i) (shl_lt hcl), wordsN, Int.reduceGT, wordsR, ne_eq, words, Nat.reduceAdd, Nat.reduceEqDiff, Nat.reduceBEq, ↓reduceIte, reduceCtorEq, SX.exit.injEq, if_true, if_false, Int.reduceAdd, Int.reduceSub, Int.reduceMul, Int.reduceLT, Int.reduceLE, Int.reduceEq, Int.reduceNe, Int.reduceNeg, Int.reduceToNat, Nat.reduceMul, Nat.reduceLT, Nat.reduceSub, Nat.reduceLeDiff]
      refine ⟨i + 1, by omega, by omega, ?_⟩
      rw [supOf_take hcc]
      exact ⟨[(20, .blk 20 0), (21, .blk 21 0), (22, .blk 22 0), (23, .blk 23 0), (24, .blk 24 0), (150, .blk 150 0)], rfl, au0, au9, au10⟩
    · have e : i = set.length := by omega
      subst e
      rw [List.take_length]
      simp (maxSteps := 1000000) (disch := first | omega | (simp only [lenW] <;> omega)) only [hlt, vS, wordsN, Int.reduceGT, wordsR, ne_eq, words, Nat.reduceAdd, Nat.reduceEqDiff, Nat.reduceBEq, ↓reduceIte, reduceCtorEq, SX.exit.injEq, if_true, if_false, Int.reduceAdd, Int.reduceSub, Int.reduceMul, Int.reduceLT, Int.reduceLE, Int.reduceEq, Int.reduceNe, Int.reduceNeg, Int.reduceToNat, Nat.reduceMul, Nat.reduceLT, Nat.reduceSub, Nat.reduceLeDiff]
      exact ⟨(), ⟨[(20, .blk 20 0), (21, .blk 21 0), (22, .blk 22 0), (23, .blk 23 0), (24, .blk 24 0), (150, .blk 150 0)], rfl, au0, au9, au10⟩⟩
  rintro _ -
  have hS := hs16 set.length
  rw [List.take_length] at hS
  simp (maxSteps := 1000000) (disch := first | omega | (simp only [lenW] <;> omega)) only [vS, wordsN, Int.reduceGT, wordsR, ne_eq, words, Nat.reduceAdd, Nat.reduceEqDiff, Nat.reduceBEq, ↓reduceIte, reduceCtorEq, SX.exit.injEq, if_true, if_false, Int.reduceAdd, Int.reduceSub, Int.reduceMul, Int.reduceLT, Int.reduceLE, Int.reduceEq, Int.reduceNe, Int.reduceNeg, Int.reduceToNat, Nat.reduceMul, Nat.reduceLT, Nat.reduceSub, Nat.reduceLeDiff]
  refine wS_msearch (b := 21) (g := 0) (off := 0) (cs := [.map 22 0]) (mb := 22) (mg := 0) (es := keyM .u16 (.bool true) (F.map (·.1))) 610 700 600 [(0, .sl 150 0 0 set.length 1), (1, .ptr 21 0 0), (2, .ptr 24 0 0), (3, .ptr 20 0 0), (5, .int .u16 (supOf set : Nat))]
    [(0, .sl 150 0 0 set.length 1), (1, .ptr 21 0 0), (2, .ptr 24 0 0), (3, .ptr 20 0 0), (5, .int .u16 (supOf set : Nat))] (vS K R F g set) (fun k _ => ∀ x : Nat, k = .int .u16 x → ¬ (x &&& supOf set = x))
    rfl rfl rfl rfl rfl (by decide) (by decide) (by repeat (first | exact Sub.nil | refine Sub.cons (by first | rfl | (rw [Int.natCast_add]; rfl)) ?_)) rfl (by decide) rfl ?_ ?_ ?_
  · intro i k v hi
    obtain ⟨x, hx, rfl, rfl⟩ := keyM_get hi
    have hxm := List.mem_of_getElem? hx
    have hx16 : x < 65536 := by
      obtain ⟨f, hf, rfl⟩ := List.mem_map.1 hxm
      exact hFs f hf
    by_cases he : x &&& supOf set = x
    · have hv : visitR R F set = F := by
        obtain ⟨f, hf, rfl⟩ := List.mem_map.1 hxm
        unfold visitR
        rw [if_pos (List.any_eq_true.2 ⟨f, hf, decide_eq_true he⟩)]
      rw [hv, Nat.sub_self] at hL
      simp (maxSteps := 1000000) (disch := first | omega | (simp only [lenW] <;> omega)) only [vS, and16 hx16 hS, msQ_normal, msQ_exit, msQ_ret, he, wordsN, Int.reduceGT, wordsR, ne_eq, words, Nat.reduceAdd, Nat.reduceEqDiff, Nat.reduceBEq, ↓reduceIte, reduceCtorEq, SX.exit.injEq, if_true, if_false, Int.reduceAdd, Int.reduceSub, Int.reduceMul, Int.reduceLT, Int.reduceLE, Int.reduceEq, Int.reduceNe, Int.reduceNeg, Int.reduceToNat, Nat.reduceMul, Nat.reduceLT, Nat.reduceSub, Nat.reduceLeDiff]
      refine ⟨.inr trivial, _, rfl, rfl, ?_⟩
      rw [← hL]
      exact ⟨[(20, .blk 20 0), (21, .blk 21 0), (22, .blk 22 0), (23, .blk 23 0), (24, .blk 24 0), (150, .blk 150 0)], rfl, au0, au9, au10⟩
    · simp (maxSteps := 1000000) (disch := first | omega | (simp only [lenW] <;> omega)) only [vS, and16 hx16 hS, msQ_normal, msQ_exit, msQ_ret, he, wordsN, Int.reduceGT, wordsR, ne_eq, words, Nat.reduceAdd, Nat.reduceEqDiff, Nat.reduceBEq, ↓reduceIte, reduceCtorEq, SX.exit.injEq, if_true, if_false, Int.reduceAdd, Int.reduceSub, Int.reduceMul, Int.reduceLT, Int.reduceLE, Int.reduceEq, Int.reduceNe, Int.reduceNeg, Int.reduceToNat, Nat.reduceMul, Nat.reduceLT, Nat.reduceSub, Nat.reduceLeDiff]
      refine ⟨fun y hy hy2 => ?_, by repeat (first | exact Sub.nil | refine Sub.cons (by first | rfl | (rw [Int.natCast_add]; rfl)) ?_)⟩
      injection hy with _ hy
      have : x = y := by omega
      subst this
      exact he hy2
  · exact ⟨[(20, .blk 20 0), (21, .blk 21 0), (22, .blk 22 0), (23, .blk 23 0), (24, .blk 24 0), (150, .blk 150 0)], rfl, au0, au9, au10⟩
  · intro hnone
    have hany : (F.any fun f => decide (f.1 &&& supOf set = f.1)) = false := by
      rw [List.any_eq_false]
      intro f hf hd
      obtain ⟨j, hj, hjl⟩ := mem_at (List.mem_map.2 ⟨f, hf, rfl⟩ : f.1 ∈ F.map (·.1))
      exact hnone j (.int .u16 (f.1 : Nat)) (.bool true) (by simp only [keyM, List.getElem?_map, hj]; rfl) f.1 rfl (of_decide_eq_true hd)
    simp (maxSteps := 1000000) (disch := first | omega | (simp only [lenW] <;> omega)) only [vS, wordsN, Int.reduceGT, wordsR, ne_eq, words, Nat.reduceAdd, Nat.reduceEqDiff, Nat.reduceBEq, ↓reduceIte, reduceCtorEq, SX.exit.injEq, if_true, if_false, Int.reduceAdd, Int.reduceSub, Int.reduceMul, Int.reduceLT, Int.reduceLE, Int.reduceEq, Int.reduceNe, Int.reduceNeg, Int.reduceToNat, Nat.reduceMul, Nat.reduceLT, Nat.reduceSub, Nat.reduceLeDiff]
    have hkf := kernelF R K set hK hR hRk hc hn hb
    rw [show sli (colI set) = .fsl (ints (colI set)) set.length 1 by rw [← hcil]] at hkf
    refine ch (HSpec.of_F (bs := [tabV K R, .fsl (ints (colI set)) set.length 1]) ?_ hkf) ?_
    · refine ⟨FrzTo.same _, FrzTo.sl (cs := ints (colI set)) rfl ?_ ?_, trivial⟩
      · simp [ints, hcil]
      · rw [List.drop_zero, List.take_of_length_le (by simp [ints, hcil])]; exact FrzL.same _
    cases hk : kerR R set with
    | none =>
      have hv : visitR R F set = F := by
        unfold visitR
        rw [hany, hk]; rfl
      rw [hv, Nat.sub_self] at hL
      unfold kerV
      simp (maxSteps := 1000000) (disch := first | omega | (simp only [lenW] <;> omega)) only [vS, wordsN, Int.reduceGT, wordsR, ne_eq, words, Nat.reduceAdd, Nat.reduceEqDiff, Nat.reduceBEq, ↓reduceIte, reduceCtorEq, SX.exit.injEq, if_true, if_false, Int.reduceAdd, Int.reduceSub, Int.reduceMul, Int.reduceLT, Int.reduceLE, Int.reduceEq, Int.reduceNe, Int.reduceNeg, Int.reduceToNat, Nat.reduceMul, Nat.reduceLT, Nat.reduceSub, Nat.reduceLeDiff]
      refine ⟨.inr trivial, _, rfl, rfl, ?_⟩
      rw [← hL]
      exact ⟨[(20, .blk 20 0), (21, .blk 21 0), (22, .blk 22 0), (23, .blk 23 0), (24, .blk 24 0), (150, .blk 150 0)], rfl, au0, au9, au10⟩
    | some l =>
      have hll := ker_len hk
      unfold kerV
      simp (maxSteps := 1000000) (disch := first | omega | (simp only [lenW] <;> omega)) only [vS, wordsN, Int.reduceGT, wordsR, ne_eq, words, Nat.reduceAdd, Nat.reduceEqDiff, Nat.reduceBEq, ↓reduceIte, reduceCtorEq, SX.exit.injEq, if_true, if_false, Int.reduceAdd, Int.reduceSub, Int.reduceMul, Int.reduceLT, Int.reduceLE, Int.reduceEq, Int.reduceNe, Int.reduceNeg, Int.reduceToNat, Nat.reduceMul, Nat.reduceLT, Nat.reduceSub, Nat.reduceLeDiff]
      refine call_borrow rfl (contains62 l (by omega)) rfl ?_
      cases hng : l.any fun x => decide (x < 0) with
      | true =>
        have hv : visitR R F set = F := by
          unfold visitR
          rw [hany, hk]; simp only [Bool.false_eq_true, if_false, hng, if_true]
        rw [hv, Nat.sub_self] at hL
        simp (maxSteps := 1000000) (disch := first | omega | (simp only [lenW] <;> omega)) only [vS, wordsN, Int.reduceGT, wordsR, ne_eq, words, Nat.reduceAdd, Nat.reduceEqDiff, Nat.reduceBEq, ↓reduceIte, reduceCtorEq, SX.exit.injEq, if_true, if_false, Int.reduceAdd, Int.reduceSub, Int.reduceMul, Int.reduceLT, Int.reduceLE, Int.reduceEq, Int.reduceNe, Int.reduceNeg, Int.reduceToNat, Nat.reduceMul, Nat.reduceLT, Nat.reduceSub, Nat.reduceLeDiff]
        refine ⟨.inr trivial, _, rfl, rfl, ?_⟩
        rw [← hL]
        exact ⟨[(20, .blk 20 0), (21, .blk 21 0), (22, .blk 22 0), (23, .blk 23 0), (24, .blk 24 0), (150, .blk 150 0)], rfl, au0, au9, au10⟩
      | false =>
        have hv : visitR R F set = F ++ [(supOf set, scat set l)] := by
          unfold visitR
          rw [hany, hk]; simp only [Bool.false_eq_true, if_false, hng]
        rw [hv, List.length_append, List.length_singleton, Nat.add_sub_cancel_left] at hL
        simp (maxSteps := 1000000) (disch := first | omega | (simp only [lenW] <;> omega)) only [vS, wordsN, Int.reduceGT, wordsR, ne_eq, words, Nat.reduceAdd, Nat.reduceEqDiff, Nat.reduceBEq, ↓reduceIte, reduceCtorEq, SX.exit.injEq, if_true, if_false, Int.reduceAdd, Int.reduceSub, Int.reduceMul, Int.reduceLT, Int.reduceLE, Int.reduceEq, Int.reduceNe, Int.reduceNeg, Int.reduceToNat, Nat.reduceMul, Nat.reduceLT, Nat.reduceSub, Nat.reduceLeDiff]
        refine wS_loopX 800 (fun i : Nat => [(1, .ptr 21 0 0), (3, .ptr 20 0 0), (5, .int .u16 (supOf set : Nat)), (9, sli l), (11, .ptr 210 0 0), (50, .sl 150 0 0 set.length 1), (51, .int .i64 set.length), (52, .int .i64 i)])
          (fun i => vW K R F g set (scat (set.take i) (l.take i))) (fun i => i ≤ set.length) (fun i => set.length - i) 0 4 900
          (fun _ : Unit => [(1, .ptr 21 0 0), (3, .ptr 20 0 0), (5, .int .u16 (supOf set : Nat)), (11, .ptr 210 0 0)]) (fun _ => vW K R F g set (scat set l)) (fun _ => True) ⟨[(20, .blk 20 0), (21, .blk 21 0), (22, .blk 22 0), (23, .blk 23 0), (24, .blk 24 0), (150, .blk 150 0), (210, .blk 716 0)], rfl, au0, au9, au10⟩ (Nat.zero_le _) ?_ ?_
        · intro i hi
          by_cases hlt : i < set.length
          · obtain ⟨c, hcc⟩ := get_ex hlt
            obtain ⟨x, hx⟩ := get_ex (show i < l.length by omega)
            have hcl := hc c (List.mem_of_getElem? hcc)
            have hgi : (ints (colI set))[i]? = some (.int .i64 c) := by simp [ints, colI_get hcc]
            have hi2 : i < l.length := by omega
            have hc10 : (c : Int) < 10 := by omega
            have hst := scat_take hcc hx
            generalize scat (set.take i) (l.take i) = f at hst
            have hset : ∀ a v, (a :: rowF 10 f).set (1 + c) (.int .i64 v) = a :: rowF 10 (fun j => if j = c then v else f j) := fun a v => by
              rw [Nat.add_comm 1 c, List.set_cons_succ, rowF_set]
            have hle : 1 + c + 1 ≤ 10 + 1 := by omega
            simp (maxSteps := 1000000) (disch := first | omega | (simp only [lenW] <;> omega)) only [hlt, hgi, vW, head_ints hx, hc10, hi2, hset, rowF_len, hle, wordsN, Int.reduceGT, wordsR, ne_eq, words, Nat.reduceAdd, Nat.reduceEqDiff, Nat.reduceBEq, ↓reduceIte, reduceCtorEq, SX.exit.injEq, if_true, if_false, Int.reduceAdd, Int.reduceSub, Int.reduceMul, Int.reduceLT, Int.reduceLE, Int.reduceEq, Int.reduceNe, Int.reduceNeg, Int.reduceToNat, Nat.reduceMul, Nat.reduceLT, Nat.reduceSub, Nat.reduceLeDiff]
            refine ⟨i + 1, by omega, by omega, ?_⟩
            rw [hst]
            exact ⟨[(20, .blk 20 0), (21, .blk 21 0), (22, .blk 22 0), (23, .blk 23 0), (24, .blk 24 0), (150, .blk 150 0), (210, .blk 210 0)], rfl, au0, au9, au10⟩
          · have e : i = set.length := by omega
            subst e
            rw [List.take_length, ← hll, List.take_length]
            simp (maxSteps := 1000000) (disch := first | omega | (simp only [lenW] <;> omega)) only [hlt, vW, hll, wordsN, Int.reduceGT, wordsR, ne_eq, words, Nat.reduceAdd, Nat.reduceEqDiff, Nat.reduceBEq, ↓reduceIte, reduceCtorEq, SX.exit.injEq, if_true, if_false, Int.reduceAdd, Int.reduceSub, Int.reduceMul, Int.reduceLT, Int.reduceLE, Int.reduceEq, Int.reduceNe, Int.reduceNeg, Int.reduceToNat, Nat.reduceMul, Nat.reduceLT, Nat.reduceSub, Nat.reduceLeDiff]
            exact ⟨(), ⟨[(20, .blk 20 0), (21, .blk 21 0), (22, .blk 22 0), (23, .blk 23 0), (24, .blk 24 0), (150, .blk 150 0), (210, .blk 210 0)], rfl, au0, au9, au10⟩⟩
        rintro _ -
        simp (maxSteps := 1000000) (disch := first | omega | (simp only [lenW] <;> omega)) only [vW, wordsN, Int.reduceGT, wordsR, ne_eq, words, Nat.reduceAdd, Nat.reduceEqDiff, Nat.reduceBEq, ↓reduceIte, reduceCtorEq, SX.exit.injEq, if_true, if_false, Int.reduceAdd, Int.reduceSub, Int.reduceMul, Int.reduceLT, Int.reduceLE, Int.reduceEq, Int.reduceNe, Int.reduceNeg, Int.reduceToNat, Nat.reduceMul, Nat.reduceLT, Nat.reduceSub, Nat.reduceLeDiff]
        have hx : supOf set ∉ F.map (·.1) := by
          intro hm
          obtain ⟨f, hf, he⟩ := List.mem_map.1 hm
          have := List.any_eq_false.1 hany f hf
          rw [he] at this
          simp at this
        refine aMapUpd_new (wU_ins (l := F.map (·.1)) hx (by decide) ?_)
        have ht : (AV.int .u16 (supOf set : Nat) :: rowF 10 (scat set l)).take 11 = AV.int .u16 (supOf set : Nat) :: rowF 10 (scat set l) := List.take_of_length_le (by rw [List.length_cons, rowF_len]; exact Nat.le_refl _)
        have hone : (AV.int .u16 (supOf set : Nat) :: rowF 10 (scat set l)).all AV.one = true := by rw [List.all_cons, one_rowF]; rfl
        have hput : putR [.int .u16 0, .int .i64 0, .int .i64 0, .int .i64 0, .int .i64 0, .int .i64 0, .int .i64 0, .int .i64 0, .int .i64 0, .int .i64 0, .int .i64 0] 0 (AV.int .u16 (supOf set : Nat) :: rowF 10 (scat set l)) = AV.int .u16 (supOf set : Nat) :: rowF 10 (scat set l) := rfl
        have hsrc : srcB (some (.cells g (flowC F))) g 0 F.length 11 = some (flowC F) := srcB_all (flowC_len F)
        have hfl : flowC F ++ (AV.int .u16 (supOf set : Nat) :: rowF 10 (scat set l)) = flowC (F ++ [(supOf set, scat set l)]) := by
          unfold flowC; rw [List.flatMap_append, List.flatMap_singleton]
        have hrl := rowF_len 10 (scat set l)
        simp (maxSteps := 1000000) (disch := first | omega | (simp only [lenW] <;> omega)) only [ht, hone, hrl, hput, hsrc, hfl, wordsN, Int.reduceGT, wordsR, ne_eq, words, Nat.reduceAdd, Nat.reduceEqDiff, Nat.reduceBEq, ↓reduceIte, reduceCtorEq, SX.exit.injEq, if_true, if_false, Int.reduceAdd, Int.reduceSub, Int.reduceMul, Int.reduceLT, Int.reduceLE, Int.reduceEq, Int.reduceNe, Int.reduceNeg, Int.reduceToNat, Nat.reduceMul, Nat.reduceLT, Nat.reduceSub, Nat.reduceLeDiff]
        refine ⟨.inl trivial, _, rfl, rfl, ?_⟩
        rw [← hL]
        simp only [vS, List.length_append, List.length_cons, List.length_nil, List.map_append, List.map_cons, List.map_nil, Nat.zero_add]
        exact ⟨[(20, .blk 20 0), (21, .blk 21 0), (22, .blk 22 0), (23, .blk 23 0), (24, .blk 24 0), (150, .blk 150 0)], rfl, au0, au9, au10⟩
end Go.AM.SN
namespace Go.AM.SN
open Go.Proofs Go.AM.SK
set_option maxRecDepth 100000
set_option linter.unusedSimpArgs false
set_option linter.unusedVariables false
def setsF : Nat → Nat → Nat → List (List Nat)
  | 0, _, _ => [[]]
  | _ + 1, 0, _ => []
  | s + 1, c + 1, a => (setsF s c (a + 1)).map (a :: ·) ++ setsF (s + 1) c (a + 1)
def nxt (s : List Nat) (i : Nat) : List Nat := (List.range s.length).map fun p => if p < i then s.getD p 0 else s.getD i 0 + 1 + (p - i)
theorem sets_props : ∀ n, n < 6 → ∀ k, k < 6 → ∀ s ∈ setsF k n 0, s.length = k ∧ (∀ c ∈ s, c < n) ∧ s.Pairwise (· < ·) := by decide +kernel
theorem sets_first : ∀ n, n < 6 → ∀ k, k < 6 → k ≤ n → (setsF k n 0)[0]? = some (List.range k) := by decide +kernel
theorem sets_small : ∀ n, n < 6 → ∀ k, k < 6 → (setsF k n 0).length ≤ 10 := by decide +kernel
def chkNext : Bool := (List.range 6).all fun n => (List.range 6).all fun k => (List.range (setsF k n 0).length).all fun j => (List.range k).all fun i =>
  (((setsF k n 0).getD j []).getD i 0 == n - k + i) || !((List.range k).all fun p => !(decide (i < p)) || ((setsF k n 0).getD j []).getD p 0 == n - k + p) || decide ((setsF k n 0)[j + 1]? = some (nxt ((setsF k n 0).getD j []) i))
theorem chkNext_ok : chkNext = true := by decide +kernel
theorem sets_next (n : Nat) (hn : n < 6) (k : Nat) (hk : k < 6) (j : Nat) (hj : j < (setsF k n 0).length) (i : Nat) (hi : i < k) (h1 : ((setsF k n 0).getD j []).getD i 0 ≠ n - k + i) (h2 : ∀ p, p < k → i < p → ((setsF k n 0).getD j []).getD p 0 = n - k + p) :
    (setsF k n 0)[j + 1]? = some (nxt ((setsF k n 0).getD j []) i) := by
  have h := chkNext_ok
  unfold chkNext at h
  simp only [List.all_eq_true, List.mem_range] at h
  have h := h n hn k hk j hj i hi
  simp only [Bool.or_eq_true, Bool.not_eq_true', decide_eq_true_eq, beq_iff_eq] at h
  rcases h with (h | h) | h
  · exact absurd h h1
  · exfalso
    rw [Bool.eq_false_iff] at h
    apply h
    rw [List.all_eq_true]
    intro p hp
    simp only [Bool.or_eq_true, Bool.not_eq_true', decide_eq_false_iff_not, beq_iff_eq]
    by_cases hip : i < p
    · exact .inr (h2 p (by simpa using hp) hip)
    · exact .inl hip
  · exact h
theorem sets_last : ∀ n, n < 6 → ∀ k, k < 6 → ∀ j, j < (setsF k n 0).length → (∀ p, p < k → ((setsF k n 0).getD j []).getD p 0 = n - k + p) → j + 1 = (setsF k n 0).length := by decide +kernel
theorem visit_len (R : List (List Int)) (F : List Flow) (s : List Nat) : F.length ≤ (visitR R F s).length ∧ (visitR R F s).length ≤ F.length + 1 := by
  unfold visitR
  split
  · omega
  · split
    · omega
    · split
      · omega
      · simp
theorem visit_sup {R : List (List Int)} {F : List Flow} {s : List Nat} (hs : ∀ c ∈ s, c < 16) (hF : ∀ f ∈ F, f.1 < 65536) : ∀ f ∈ visitR R F s, f.1 < 65536 := by
  unfold visitR
  split
  · exact hF
  · split
    · exact hF
    · split
      · exact hF
      · intro f hf
        rcases List.mem_append.1 hf with h | h
        · exact hF f h
        · simp only [List.mem_singleton] at h
          subst h; exact supOf_lt hs
def foldV (R : List (List Int)) (F : List Flow) (S : List (List Nat)) : List Flow := S.foldl (visitR R) F
theorem foldV_len (R : List (List Int)) : ∀ (S : List (List Nat)) (F : List Flow), F.length ≤ (foldV R F S).length ∧ (foldV R F S).length ≤ F.length + S.length
  | [], F => by simp [foldV]
  | s :: S, F => by
    have h1 := visit_len R F s
    have h2 := foldV_len R S (visitR R F s)
    simp only [foldV, List.foldl_cons, List.length_cons] at h2 ⊢
    omega
theorem foldV_sup {R : List (List Int)} : ∀ (S : List (List Nat)) (F : List Flow), (∀ s ∈ S, ∀ c ∈ s, c < 16) → (∀ f ∈ F, f.1 < 65536) → ∀ f ∈ foldV R F S, f.1 < 65536
  | [], F, _, hF => hF
  | s :: S, F, hS, hF => foldV_sup S _ (fun t ht => hS t (by simp [ht])) (visit_sup (hS s (by simp)) hF)
theorem foldV_take (R : List (List Int)) (F : List Flow) (S : List (List Nat)) {j : Nat} {s : List Nat} (h : S[j]? = some s) : foldV R F (S.take (j + 1)) = visitR R (foldV R F (S.take j)) s := by
  unfold foldV
  rw [List.take_add_one, List.foldl_append, h]; rfl
def vC (K : Nat) (R : List (List Int)) (F : List Flow) (g : Nat) (cs : List AV) : HL :=
  [(20, .cells 0 [.sl 23 g 0 F.length 11]), (21, .cells 0 [.map 22 0]), (22, .map 0 (keyM .u16 (.bool true) (F.map (·.1)))), (23, .cells g (flowC F)), (24, .cells 0 [.int .i64 K, .fsl (R.flatMap pad) R.length 10]), (150, .cells 0 cs)]
def vJ (K : Nat) (R : List (List Int)) (F : List Flow) (g : Nat) (S : List (List Nat)) (j : Nat) : HL :=
  vC K R (foldV R F (S.take j)) (g + ((foldV R F (S.take j)).length - F.length)) (ints (colI (S.getD j [])))
theorem ints_rowF {s : List Nat} : ints (colI s) = rowF s.length (fun p => (s.getD p 0 : Nat)) := by
  unfold rowF colI
  congr 1
  refine List.ext_getElem? fun p => ?_
  by_cases hp : p < s.length
  · simp [List.getElem?_range hp, List.getElem?_eq_getElem hp, List.getD_eq_getElem?_getD]
  · simp [List.getElem?_eq_none (show s.length ≤ p by omega), List.getElem?_eq_none (show (List.range s.length).length ≤ p by simp; omega)]
set_option maxHeartbeats 8000000 in
theorem choose (K : Nat) (R : List (List Int)) (F : List Flow) (g k : Nat) (hK : K ≤ 5) (hR : R.length ≤ 100) (hRk : ∀ r ∈ R, r.length = K) (hRb : ∀ r ∈ R, ∀ x ∈ r, -8 ≤ x ∧ x ≤ 8) (hk0 : 0 < k) (hkK : k ≤ K)
    (hF : F.length ≤ 900) (hFs : ∀ f ∈ F, f.1 < 65536) :
    HSpec Try.prog 59 [.int .i64 K, .int .i64 k, .fn 60 [] [.ptr 21 0 0, .ptr 24 0 0, .ptr 20 0 0]] (hp (vH K R F g)) (.tup [])
      (hp (vH K R (foldV R F (setsF k K 0)) (g + ((foldV R F (setsF k K 0)).length - F.length)))) := by
  refine HSpec.of_rec (m := 100) 300 SM.ok59 rfl rfl rfl ?_
  generalize hL : vH K R (foldV R F (setsF k K 0)) (g + ((foldV R F (setsF k K 0)).length - F.length)) = L1
  have hp1 := sets_props K (by omega) k (by omega)
  have hp2 := sets_first K (by omega) k (by omega) hkK
  have hp3 := sets_small K (by omega) k (by omega)
  have hp4 := sets_next K (by omega) k (by omega)
  have hp5 := sets_last K (by omega) k (by omega)
  generalize setsF k K 0 = S at *
  have hk8 : (8 : Int) * (k : Int) ≤ 1099511627776 := by omega
  have hk1 : (k : Int) ≤ 1099511627776 := by omega
  have hkK' : (k : Int) ≤ K := by omega
  simp (maxSteps := 1000000) (disch := first | omega | (simp only [lenW] <;> omega)) only [SM.s59, vH, hk8, hk1, rowF_zero, wordsN, Int.reduceGT, wordsR, ne_eq, words, Nat.reduceAdd, Nat.reduceEqDiff, Nat.reduceBEq, ↓reduceIte, reduceCtorEq, SX.exit.injEq, if_true, if_false, Int.reduceAdd, Int.reduceSub, Int.reduceMul, Int.reduceLT, Int.reduceLE, Int.reduceEq, Int.reduceNe, Int.reduceNeg, Int.reduceToNat, Nat.reduceMul, Nat.reduceLT, Nat.reduceSub, Nat.reduceLeDiff]
  refine wS_loopX 400 (fun i : Nat => [(0, .int .i64 K), (1, .int .i64 k), (2, .fn 60 [] [.ptr 21 0 0, .ptr 24 0 0, .ptr 20 0 0]), (6, .sl 150 0 0 k 1), (13, .int .i64 k), (14, .int .i64 i)])
    (fun i => vC K R F g (rowF k fun p => if p < i then p else 0)) (fun i => i ≤ k) (fun i => k - i) 0 0 500
    (fun _ : Unit => [(0, .int .i64 K), (1, .int .i64 k), (2, .fn 60 [] [.ptr 21 0 0, .ptr 24 0 0, .ptr 20 0 0]), (6, .sl 150 0 0 k 1)]) (fun _ => vC K R F g (ints (colI (List.range k)))) (fun _ => True) ?_ (Nat.zero_le _) ?_ ?_
  · refine ⟨[(20, .blk 20 0), (21, .blk 21 0), (22, .blk 22 0), (23, .blk 23 0), (24, .blk 24 0), (150, .blk 301 0)], rfl, au0, ?_, au10⟩
    refine RB.cellsB rfl rfl ?_ (RB.cellsB rfl rfl ?_ (RB.mapB rfl rfl ?_ (RB.cellsB rfl rfl ?_ (RB.cellsB rfl rfl ?_ (RB.cells rfl rfl rfl (RnL.eq (rowF_congr fun p _ => ?_) (noRefs_rowF _ _)) RB.nil)))))
    all_goals first | (simp only [Nat.not_lt_zero, if_false]; done) | repeat' (first | exact RB.nil | (refine RnL.same ?_; first | rfl | (simp only [noRef, noRefs, noRefs_append, Bool.and_self, Bool.and_true, Bool.true_and, noRefs_flat10, noRefs_ints, noRefs_lsts, noRefs_pad, noRefs_tnC, noRefs_arcC, noRefs_rowF, noRefs_flowC]; done)) | exact RnM.keyM rfl | exact RnL.nil | refine RnL.cons ?_ ?_ | (refine Rn.same ?_; first | rfl | (simp only [noRef, noRefs, noRefs_append, Bool.and_self, Bool.and_true, Bool.true_and, noRefs_flat10, noRefs_ints, noRefs_lsts, noRefs_pad, noRefs_tnC, noRefs_arcC, noRefs_rowF, noRefs_flowC]; done)) | exact Rn.x1 rfl rfl | exact Rn.x2 rfl rfl | exact Rn.x3 rfl rfl | exact Rn.x4 rfl rfl | exact Rn.x5 rfl | exact Rn.x6 rfl | exact Rn.x7 rfl | refine RB.newnil rfl rfl ?_ | refine RB.cells rfl rfl rfl ?_ ?_ | refine RB.map rfl rfl rfl ?_ ?_ | refine RB.cellsB rfl rfl ?_ ?_ | refine RB.mapB rfl rfl ?_ ?_)
  · intro i hi
    by_cases hlt : i < k
    · have hset : ∀ v, (rowF k fun p => if p < i then (p : Int) else 0).set i (.int .i64 v) = rowF k (fun p => if p = i then v else if p < i then (p : Int) else 0) := fun v => rowF_set _ v
      have hle : i + 1 ≤ k := by omega
      simp (maxSteps := 1000000) (disch := first | omega | (simp only [lenW] <;> omega)) only [hlt, vC, hset, rowF_len, hle, wordsN, Int.reduceGT, wordsR, ne_eq, words, Nat.reduceAdd, Nat.reduceEqDiff, Nat.reduceBEq, ↓reduceIte, reduceCtorEq, SX.exit.injEq, if_true, if_false, Int.reduceAdd, Int.reduceSub, Int.reduceMul, Int.reduceLT, Int.reduceLE, Int.reduceEq, Int.reduceNe, Int.reduceNeg, Int.reduceToNat, Nat.reduceMul, Nat.reduceLT, Nat.reduceSub, Nat.reduceLeDiff]
      refine ⟨i + 1, by omega, by omega, ?_⟩
      have hf : (fun p => if p = i then (i : Int) else if p < i then (p : Int) else 0) = fun p : Nat => if p < i + 1 then (p : Int) else 0 := by
        funext p
        by_cases e : p = i
        · subst e; simp
        · have : (p < i + 1) ↔ (p < i) := by omega
          simp only [e, if_false, this]
      rw [hf]
      exact ⟨[(20, .blk 20 0), (21, .blk 21 0), (22, .blk 22 0), (23, .blk 23 0), (24, .blk 24 0), (150, .blk 150 0)], rfl, au0, au9, au10⟩
    · have e : i = k := by omega
      subst e
      simp (maxSteps := 1000000) (disch := first | omega | (simp only [lenW] <;> omega)) only [hlt, vC, wordsN, Int.reduceGT, wordsR, ne_eq, words, Nat.reduceAdd, Nat.reduceEqDiff, Nat.reduceBEq, ↓reduceIte, reduceCtorEq, SX.exit.injEq, if_true, if_false, Int.reduceAdd, Int.reduceSub, Int.reduceMul, Int.reduceLT, Int.reduceLE, Int.reduceEq, Int.reduceNe, Int.reduceNeg, Int.reduceToNat, Nat.reduceMul, Nat.reduceLT, Nat.reduceSub, Nat.reduceLeDiff]
      refine ⟨(), ?_⟩
      rw [ints_rowF, List.length_range, rowF_congr (g := fun p => if p < i then (p : Int) else 0) fun p hp => by simp [hp, List.getD_eq_getElem?_getD, List.getElem?_range hp]]
      exact ⟨[(20, .blk 20 0), (21, .blk 21 0), (22, .blk 22 0), (23, .blk 23 0), (24, .blk 24 0), (150, .blk 150 0)], rfl, au0, au9, au10⟩
  rintro _ -
  have hKB : ∀ s : List Nat, s.length = k → KBd R s := fun s hs => KBd_of R s (by omega) fun r hr x hx => by have := hRb r hr x hx; omega
  have hS0 : 0 < S.length := (List.getElem?_eq_some_iff.1 hp2).1
  have hg0 : S.getD 0 [] = List.range k := by rw [List.getD_eq_getElem?_getD, hp2]; rfl
  simp (maxSteps := 1000000) (disch := first | omega | (simp only [lenW] <;> omega)) only [vC, wordsN, Int.reduceGT, wordsR, ne_eq, words, Nat.reduceAdd, Nat.reduceEqDiff, Nat.reduceBEq, ↓reduceIte, reduceCtorEq, SX.exit.injEq, if_true, if_false, Int.reduceAdd, Int.reduceSub, Int.reduceMul, Int.reduceLT, Int.reduceLE, Int.reduceEq, Int.reduceNe, Int.reduceNeg, Int.reduceToNat, Nat.reduceMul, Nat.reduceLT, Nat.reduceSub, Nat.reduceLeDiff]
  refine wS_loopR 600 (fun j : Nat => [(0, .int .i64 K), (1, .int .i64 k), (2, .fn 60 [] [.ptr 21 0 0, .ptr 24 0 0, .ptr 20 0 0]), (6, .sl 150 0 0 k 1)])
    (fun j => vJ K R F g S j) (fun j => j < S.length) (fun j => S.length - j) 0 ?_ hS0 ?_
  · unfold vJ
    rw [hg0, List.take_zero, show foldV R F [] = F from rfl, Nat.sub_self, Nat.add_zero]
    exact ⟨[(20, .blk 20 0), (21, .blk 21 0), (22, .blk 22 0), (23, .blk 23 0), (24, .blk 24 0), (150, .blk 150 0)], rfl, au0, au9, au10⟩
  intro j hj
  have hJ : vJ K R F g S (j + 1) = vC K R (foldV R F (S.take (j + 1))) (g + ((foldV R F (S.take (j + 1))).length - F.length)) (ints (colI (S.getD (j + 1) []))) := rfl
  rw [show vJ K R F g S j = vC K R (foldV R F (S.take j)) (g + ((foldV R F (S.take j)).length - F.length)) (ints (colI (S.getD j []))) from rfl]
  have hsj : S[j]? = some (S.getD j []) := by rw [List.getD_eq_getElem?_getD, List.getElem?_eq_getElem hj]; rfl
  have hnx := hp4 j hj
  have hls := hp5 j hj
  obtain ⟨hl1, hl2⟩ := foldV_len R (S.take j) F
  have hft := foldV_take R F S hsj
  generalize S.getD j [] = s at *
  obtain ⟨hsl, hsc, hsp⟩ := hp1 s (List.mem_of_getElem? hsj)
  have hS16 : ∀ s ∈ S.take j, ∀ c ∈ s, c < 16 := fun t ht c hc => by have := (hp1 t (List.mem_of_mem_take ht)).2.1 c hc; omega
  have hsup := foldV_sup (R := R) (S.take j) F hS16 hFs
  have hlj : (S.take j).length ≤ 10 := by rw [List.length_take]; omega
  obtain ⟨v1, v2⟩ := visit_len R (foldV R F (S.take j)) s
  rw [← hft] at v1 v2
  generalize hFj : foldV R F (S.take j) = Fj at *
  have hvis := visit K R Fj (g + (Fj.length - F.length)) s (by omega) hR hRk hsc (by omega) (hKB s hsl) (by omega) hsup
  rw [hsl, ← hft] at hvis
  rw [show g + (Fj.length - F.length) + ((foldV R F (S.take (j + 1))).length - Fj.length) = g + ((foldV R F (S.take (j + 1))).length - F.length) by omega] at hvis
  simp (maxSteps := 1000000) (disch := first | omega | (simp only [lenW] <;> omega)) only [vC, hkK', wordsN, Int.reduceGT, wordsR, ne_eq, words, Nat.reduceAdd, Nat.reduceEqDiff, Nat.reduceBEq, ↓reduceIte, reduceCtorEq, SX.exit.injEq, if_true, if_false, Int.reduceAdd, Int.reduceSub, Int.reduceMul, Int.reduceLT, Int.reduceLE, Int.reduceEq, Int.reduceNe, Int.reduceNeg, Int.reduceToNat, Nat.reduceMul, Nat.reduceLT, Nat.reduceSub, Nat.reduceLeDiff]
  refine call_heap hvis ?_
  generalize hgG : g + ((foldV R F (S.take (j + 1))).length - F.length) = g' at *
  generalize hFG : foldV R F (S.take (j + 1)) = F' at *
  have hci : ints (colI s) = rowF k (fun p => (s.getD p 0 : Nat)) := by rw [ints_rowF, hsl]
  simp (maxSteps := 1000000) (disch := first | omega | (simp only [lenW] <;> omega)) only [vS, hci, wordsN, Int.reduceGT, wordsR, ne_eq, words, Nat.reduceAdd, Nat.reduceEqDiff, Nat.reduceBEq, ↓reduceIte, reduceCtorEq, SX.exit.injEq, if_true, if_false, Int.reduceAdd, Int.reduceSub, Int.reduceMul, Int.reduceLT, Int.reduceLE, Int.reduceEq, Int.reduceNe, Int.reduceNeg, Int.reduceToNat, Nat.reduceMul, Nat.reduceLT, Nat.reduceSub, Nat.reduceLeDiff]
  refine wS_loopX 700 (fun a : Nat => [(0, .int .i64 K), (1, .int .i64 k), (2, .fn 60 [] [.ptr 21 0 0, .ptr 24 0 0, .ptr 20 0 0]), (6, .sl 150 0 0 k 1), (8, .int .i64 ((a : Int) - 1))])
    (fun _ => vC K R F' g' (rowF k fun p => (s.getD p 0 : Nat))) (fun a => a ≤ k ∧ ∀ p, p < k → a ≤ p → s.getD p 0 = K - k + p) (fun a => a) k 4 800
    (fun i : Int => [(0, .int .i64 K), (1, .int .i64 k), (2, .fn 60 [] [.ptr 21 0 0, .ptr 24 0 0, .ptr 20 0 0]), (6, .sl 150 0 0 k 1), (8, .int .i64 i)])
    (fun _ => vC K R F' g' (rowF k fun p => (s.getD p 0 : Nat))) (fun i => (i = -1 ∧ ∀ p, p < k → s.getD p 0 = K - k + p) ∨ ∃ b : Nat, i = b ∧ b < k ∧ s.getD b 0 ≠ K - k + b ∧ ∀ p, p < k → b < p → s.getD p 0 = K - k + p)
    ⟨[(20, .blk 20 0), (21, .blk 21 0), (22, .blk 22 0), (23, .blk 23 0), (24, .blk 24 0), (150, .blk 150 0)], rfl, au0, au9, au10⟩ ⟨Nat.le_refl _, fun p h1 h2 => absurd h1 (by omega)⟩ ?_ ?_
  · rintro a ⟨ha, hall⟩
    cases a with
    | zero =>
      simp (maxSteps := 1000000) (disch := first | omega | (simp only [lenW] <;> omega)) only [vC, wordsN, Int.reduceGT, wordsR, ne_eq, words, Nat.reduceAdd, Nat.reduceEqDiff, Nat.reduceBEq, ↓reduceIte, reduceCtorEq, SX.exit.injEq, if_true, if_false, Int.reduceAdd, Int.reduceSub, Int.reduceMul, Int.reduceLT, Int.reduceLE, Int.reduceEq, Int.reduceNe, Int.reduceNeg, Int.reduceToNat, Nat.reduceMul, Nat.reduceLT, Nat.reduceSub, Nat.reduceLeDiff]
      refine ⟨-1, .inl ⟨rfl, fun p hp => hall p hp (Nat.zero_le _)⟩, ?_⟩
      exact ⟨[(20, .blk 20 0), (21, .blk 21 0), (22, .blk 22 0), (23, .blk 23 0), (24, .blk 24 0), (150, .blk 150 0)], rfl, au0, au9, au10⟩
    | succ b =>
      have hbk : b < k := by omega
      have hgb := rowF_get (n := k) (fun p => ((s.getD p 0 : Nat) : Int)) hbk
      by_cases hq : s.getD b 0 = K - k + b
      · have hq' : (((s.getD b 0 : Nat) : Int) = (K : Int) - k + b) = True := eq_true (by omega)
        simp (maxSteps := 1000000) (disch := first | omega | (simp only [lenW] <;> omega)) only [vC, Int.add_sub_cancel, hbk, hgb, hq', wordsN, Int.reduceGT, wordsR, ne_eq, words, Nat.reduceAdd, Nat.reduceEqDiff, Nat.reduceBEq, ↓reduceIte, reduceCtorEq, SX.exit.injEq, if_true, if_false, Int.reduceAdd, Int.reduceSub, Int.reduceMul, Int.reduceLT, Int.reduceLE, Int.reduceEq, Int.reduceNe, Int.reduceNeg, Int.reduceToNat, Nat.reduceMul, Nat.reduceLT, Nat.reduceSub, Nat.reduceLeDiff]
        refine ⟨b, by omega, ⟨by omega, fun p hp hbp => ?_⟩, ?_⟩
        · by_cases e : p = b
          · subst e; exact hq
          · exact hall p hp (by omega)
        · exact ⟨[(20, .blk 20 0), (21, .blk 21 0), (22, .blk 22 0), (23, .blk 23 0), (24, .blk 24 0), (150, .blk 150 0)], rfl, au0, au9, au10⟩
      · have hq' : (((s.getD b 0 : Nat) : Int) = (K : Int) - k + b) = False := eq_false (by omega)
        simp (maxSteps := 1000000) (disch := first | omega | (simp only [lenW] <;> omega)) only [vC, Int.add_sub_cancel, hbk, hgb, hq', wordsN, Int.reduceGT, wordsR, ne_eq, words, Nat.reduceAdd, Nat.reduceEqDiff, Nat.reduceBEq, ↓reduceIte, reduceCtorEq, SX.exit.injEq, if_true, if_false, Int.reduceAdd, Int.reduceSub, Int.reduceMul, Int.reduceLT, Int.reduceLE, Int.reduceEq, Int.reduceNe, Int.reduceNeg, Int.reduceToNat, Nat.reduceMul, Nat.reduceLT, Nat.reduceSub, Nat.reduceLeDiff]
        refine ⟨b, .inr ⟨b, rfl, hbk, hq, fun p hp hbp => hall p hp (by omega)⟩, ?_⟩
        exact ⟨[(20, .blk 20 0), (21, .blk 21 0), (22, .blk 22 0), (23, .blk 23 0), (24, .blk 24 0), (150, .blk 150 0)], rfl, au0, au9, au10⟩
  rintro i (⟨rfl, hall⟩ | ⟨b, rfl, hbk, hq, hall⟩)
  · have hje := hls hall
    have hfS : F' = foldV R F S := by rw [← hFG, hje, List.take_length]
    simp (maxSteps := 1000000) (disch := first | omega | (simp only [lenW] <;> omega)) only [vC, wordsN, Int.reduceGT, wordsR, ne_eq, words, Nat.reduceAdd, Nat.reduceEqDiff, Nat.reduceBEq, ↓reduceIte, reduceCtorEq, SX.exit.injEq, if_true, if_false, Int.reduceAdd, Int.reduceSub, Int.reduceMul, Int.reduceLT, Int.reduceLE, Int.reduceEq, Int.reduceNe, Int.reduceNeg, Int.reduceToNat, Nat.reduceMul, Nat.reduceLT, Nat.reduceSub, Nat.reduceLeDiff]
    refine ⟨.inr trivial, _, rfl, rfl, ?_⟩
    rw [← hL, ← hfS, show g + (F'.length - F.length) = g' by rw [← hgG]]
    unfold vH
    exact ⟨[(20, .blk 20 0), (21, .blk 21 0), (22, .blk 22 0), (23, .blk 23 0), (24, .blk 24 0)], rfl, au0, au9, au10⟩
  have hb0 : ¬ ((b : Nat) : Int) < 0 := by omega
  have hgb := rowF_get (n := k) (fun p => ((s.getD p 0 : Nat) : Int)) hbk
  have hset : ∀ v, (rowF k fun p => ((s.getD p 0 : Nat) : Int)).set b (.int .i64 v) = rowF k (fun p => if p = b then v else ((s.getD p 0 : Nat) : Int)) := fun v => rowF_set _ v
  have hle : b + 1 ≤ k := by omega
  have hsb : s.getD b 0 < 6 := by
    rw [List.getD_eq_getElem?_getD]
    cases hx : s[b]? with
    | none => simp
    | some x => have := hsc x (List.mem_of_getElem? hx); simp; omega
  simp (maxSteps := 1000000) (disch := first | omega | (simp only [lenW] <;> omega)) only [vC, hb0, hgb, hbk, hset, rowF_len, hle, wordsN, Int.reduceGT, wordsR, ne_eq, words, Nat.reduceAdd, Nat.reduceEqDiff, Nat.reduceBEq, ↓reduceIte, reduceCtorEq, SX.exit.injEq, if_true, if_false, Int.reduceAdd, Int.reduceSub, Int.reduceMul, Int.reduceLT, Int.reduceLE, Int.reduceEq, Int.reduceNe, Int.reduceNeg, Int.reduceToNat, Nat.reduceMul, Nat.reduceLT, Nat.reduceSub, Nat.reduceLeDiff]
  have hnb := hnx b hbk hq fun p hp hb => hall p hp hb
  generalize hs0 : s.getD b 0 = s0 at *
  refine wS_loopR 900 (fun d : Nat => [(0, .int .i64 K), (1, .int .i64 k), (2, .fn 60 [] [.ptr 21 0 0, .ptr 24 0 0, .ptr 20 0 0]), (6, .sl 150 0 0 k 1), (9, .int .i64 ((d : Int) + 1))])
    (fun d => vC K R F' g' (rowF k fun p => if p < b then ((s.getD p 0 : Nat) : Int) else if p < d + 1 then (s0 : Int) + 1 + ((p : Int) - b) else ((s.getD p 0 : Nat) : Int))) (fun d => b ≤ d ∧ d + 1 ≤ k) (fun d => k - d) b ?_ ⟨Nat.le_refl _, by omega⟩ ?_
  · refine ⟨[(20, .blk 20 0), (21, .blk 21 0), (22, .blk 22 0), (23, .blk 23 0), (24, .blk 24 0), (150, .blk 150 0)], rfl, au0, ?_, au10⟩
    refine RB.cellsB rfl rfl ?_ (RB.cellsB rfl rfl ?_ (RB.mapB rfl rfl ?_ (RB.cellsB rfl rfl ?_ (RB.cellsB rfl rfl ?_ (RB.cells rfl rfl rfl (RnL.eq (rowF_congr fun p _ => ?_) (noRefs_rowF _ _)) RB.nil)))))
    rotate_right 1
    · by_cases e : p = b
      · subst e; simp
      · have : (p < b + 1) ↔ (p < b) := by omega
        simp only [this, e, if_false]
        split <;> rfl
    all_goals repeat' (first | exact RB.nil | (refine RnL.same ?_; first | rfl | (simp only [noRef, noRefs, noRefs_append, Bool.and_self, Bool.and_true, Bool.true_and, noRefs_flat10, noRefs_ints, noRefs_lsts, noRefs_pad, noRefs_tnC, noRefs_arcC, noRefs_rowF, noRefs_flowC]; done)) | exact RnM.keyM rfl | exact RnL.nil | refine RnL.cons ?_ ?_ | (refine Rn.same ?_; first | rfl | (simp only [noRef, noRefs, noRefs_append, Bool.and_self, Bool.and_true, Bool.true_and, noRefs_flat10, noRefs_ints, noRefs_lsts, noRefs_pad, noRefs_tnC, noRefs_arcC, noRefs_rowF, noRefs_flowC]; done)) | exact Rn.x1 rfl rfl | exact Rn.x2 rfl rfl | exact Rn.x3 rfl rfl | exact Rn.x4 rfl rfl | exact Rn.x5 rfl | exact Rn.x6 rfl | exact Rn.x7 rfl | refine RB.newnil rfl rfl ?_ | refine RB.cells rfl rfl rfl ?_ ?_ | refine RB.map rfl rfl rfl ?_ ?_ | refine RB.cellsB rfl rfl ?_ ?_ | refine RB.mapB rfl rfl ?_ ?_)
  rintro d ⟨hbd, hdk⟩
  by_cases hlt : d + 1 < k
  · have hlt' : (d : Int) + 1 < k := by omega
    have hdk2 : d < k := by omega
    have hle2 : d + 1 + 1 ≤ k := by omega
    have hd0 : ¬ d < b := by omega
    have hgd := rowF_get (n := k) (fun p => if p < b then ((s.getD p 0 : Nat) : Int) else if p < d + 1 then (s0 : Int) + 1 + ((p : Int) - b) else ((s.getD p 0 : Nat) : Int)) hdk2
    rw [if_neg hd0, if_pos (Nat.lt_succ_self d)] at hgd
    have hset2 : ∀ v, (rowF k fun p => if p < b then ((s.getD p 0 : Nat) : Int) else if p < d + 1 then (s0 : Int) + 1 + ((p : Int) - b) else ((s.getD p 0 : Nat) : Int)).set (d + 1) (.int .i64 v) =
      rowF k (fun p => if p = d + 1 then v else if p < b then ((s.getD p 0 : Nat) : Int) else if p < d + 1 then (s0 : Int) + 1 + ((p : Int) - b) else ((s.getD p 0 : Nat) : Int)) := fun v => rowF_set _ v
    have htn : ((d : Int) + 1).toNat = d + 1 := by omega
    simp (maxSteps := 1000000) (disch := first | omega | (simp only [lenW] <;> omega)) only [vC, hlt', Int.add_sub_cancel, hdk2, hgd, htn, hset2, rowF_len, hle2, wordsN, Int.reduceGT, wordsR, ne_eq, words, Nat.reduceAdd, Nat.reduceEqDiff, Nat.reduceBEq, ↓reduceIte, reduceCtorEq, SX.exit.injEq, if_true, if_false, Int.reduceAdd, Int.reduceSub, Int.reduceMul, Int.reduceLT, Int.reduceLE, Int.reduceEq, Int.reduceNe, Int.reduceNeg, Int.reduceToNat, Nat.reduceMul, Nat.reduceLT, Nat.reduceSub, Nat.reduceLeDiff]
    refine ⟨d + 1, by omega, ⟨by omega, by omega⟩, ?_⟩
    refine ⟨[(20, .blk 20 0), (21, .blk 21 0), (22, .blk 22 0), (23, .blk 23 0), (24, .blk 24 0), (150, .blk 150 0)], rfl, au0, ?_, au10⟩
    refine RB.cellsB rfl rfl ?_ (RB.cellsB rfl rfl ?_ (RB.mapB rfl rfl ?_ (RB.cellsB rfl rfl ?_ (RB.cellsB rfl rfl ?_ (RB.cells rfl rfl rfl (RnL.eq (rowF_congr fun p hp => ?_) (noRefs_rowF _ _)) RB.nil)))))
    rotate_right 1
    · by_cases e : p = d + 1
      · subst e
        rw [if_neg (by omega), if_pos (by omega), if_pos rfl]; omega
      · have : (p < d + 1 + 1) ↔ (p < d + 1) := by omega
        simp only [this, e, if_false]
    all_goals repeat' (first | exact RB.nil | (refine RnL.same ?_; first | rfl | (simp only [noRef, noRefs, noRefs_append, Bool.and_self, Bool.and_true, Bool.true_and, noRefs_flat10, noRefs_ints, noRefs_lsts, noRefs_pad, noRefs_tnC, noRefs_arcC, noRefs_rowF, noRefs_flowC]; done)) | exact RnM.keyM rfl | exact RnL.nil | refine RnL.cons ?_ ?_ | (refine Rn.same ?_; first | rfl | (simp only [noRef, noRefs, noRefs_append, Bool.and_self, Bool.and_true, Bool.true_and, noRefs_flat10, noRefs_ints, noRefs_lsts, noRefs_pad, noRefs_tnC, noRefs_arcC, noRefs_rowF, noRefs_flowC]; done)) | exact Rn.x1 rfl rfl | exact Rn.x2 rfl rfl | exact Rn.x3 rfl rfl | exact Rn.x4 rfl rfl | exact Rn.x5 rfl | exact Rn.x6 rfl | exact Rn.x7 rfl | refine RB.newnil rfl rfl ?_ | refine RB.cells rfl rfl rfl ?_ ?_ | refine RB.map rfl rfl rfl ?_ ?_ | refine RB.cellsB rfl rfl ?_ ?_ | refine RB.mapB rfl rfl ?_ ?_)
  · have e : d + 1 = k := by omega
    have hlt' : ¬ (d : Int) + 1 < k := by omega
    simp (maxSteps := 1000000) (disch := first | omega | (simp only [lenW] <;> omega)) only [vC, hlt', wordsN, Int.reduceGT, wordsR, ne_eq, words, Nat.reduceAdd, Nat.reduceEqDiff, Nat.reduceBEq, ↓reduceIte, reduceCtorEq, SX.exit.injEq, if_true, if_false, Int.reduceAdd, Int.reduceSub, Int.reduceMul, Int.reduceLT, Int.reduceLE, Int.reduceEq, Int.reduceNe, Int.reduceNeg, Int.reduceToNat, Nat.reduceMul, Nat.reduceLT, Nat.reduceSub, Nat.reduceLeDiff]
    have hj1 : j + 1 < S.length := (List.getElem?_eq_some_iff.1 hnb).1
    refine ⟨j + 1, by omega, hj1, ?_⟩
    rw [hJ, show S.getD (j + 1) [] = nxt s b by rw [List.getD_eq_getElem?_getD, hnb]; rfl, ints_rowF, show (nxt s b).length = k by simp [nxt, hsl]]
    unfold vC
    refine ⟨[(20, .blk 20 0), (21, .blk 21 0), (22, .blk 22 0), (23, .blk 23 0), (24, .blk 24 0), (150, .blk 150 0)], rfl, au0, ?_, au10⟩
    refine RB.cellsB rfl rfl ?_ (RB.cellsB rfl rfl ?_ (RB.mapB rfl rfl ?_ (RB.cellsB rfl rfl ?_ (RB.cellsB rfl rfl ?_ (RB.cells rfl rfl rfl (RnL.eq (rowF_congr fun p hp => ?_) (noRefs_rowF _ _)) RB.nil)))))
    rotate_right 1
    · have hpr : (List.range s.length)[p]? = some p := List.getElem?_range (by omega)
      have hv : (nxt s b).getD p 0 = if p < b then s.getD p 0 else s.getD b 0 + 1 + (p - b) := by
        unfold nxt
        rw [List.getD_eq_getElem?_getD, List.getElem?_map, hpr]; rfl
      rw [hv, hs0]
      by_cases h1 : p < b
      · rw [if_pos h1, if_pos h1]
      · rw [if_neg h1, if_neg h1, if_pos (by omega)]; omega
    all_goals repeat' (first | exact RB.nil | (refine RnL.same ?_; first | rfl | (simp only [noRef, noRefs, noRefs_append, Bool.and_self, Bool.and_true, Bool.true_and, noRefs_flat10, noRefs_ints, noRefs_lsts, noRefs_pad, noRefs_tnC, noRefs_arcC, noRefs_rowF, noRefs_flowC]; done)) | exact RnM.keyM rfl | exact RnL.nil | refine RnL.cons ?_ ?_ | (refine Rn.same ?_; first | rfl | (simp only [noRef, noRefs, noRefs_append, Bool.and_self, Bool.and_true, Bool.true_and, noRefs_flat10, noRefs_ints, noRefs_lsts, noRefs_pad, noRefs_tnC, noRefs_arcC, noRefs_rowF, noRefs_flowC]; done)) | exact Rn.x1 rfl rfl | exact Rn.x2 rfl rfl | exact Rn.x3 rfl rfl | exact Rn.x4 rfl rfl | exact Rn.x5 rfl | exact Rn.x6 rfl | exact Rn.x7 rfl | refine RB.newnil rfl rfl ?_ | refine RB.cells rfl rfl rfl ?_ ?_ | refine RB.map rfl rfl rfl ?_ ?_ | refine RB.cellsB rfl rfl ?_ ?_ | refine RB.mapB rfl rfl ?_ ?_)
end Go.AM.SN
namespace Go.AM.SN
open Go.Proofs Go.AM.SK
set_option maxRecDepth 100000
set_option linter.unusedSimpArgs false
set_option linter.unusedVariables false
def minF (R : List (List Int)) (K : Nat) : Nat → List Flow
  | 0 => []
  | m + 1 => foldV R (minF R K m) (setsF (m + 1) K 0)
theorem minF_len (R : List (List Int)) {K : Nat} (hK : K < 6) : ∀ m, m < 6 → (minF R K m).length ≤ 10 * m
  | 0, _ => by simp [minF]
  | m + 1, hm => by
    have h1 := minF_len R hK m (by omega)
    have h2 := (foldV_len R (setsF (m + 1) K 0) (minF R K m)).2
    have h3 := sets_small K hK (m + 1) hm
    unfold minF; omega
theorem minF_sup (R : List (List Int)) {K : Nat} (hK : K < 6) : ∀ m, m < 6 → ∀ f ∈ minF R K m, f.1 < 65536
  | 0, _ => by simp [minF]
  | m + 1, hm => foldV_sup _ _ (fun s hs c hc => by have := (sets_props K hK (m + 1) hm s hs).2.1 c hc; omega) (minF_sup R hK m (by omega))
abbrev flowsV (F : List Flow) : AV := .fsl (flowC F) F.length 11
theorem noRef_flows (F : List Flow) : noRef (flowsV F) = true := by simp only [noRef]; exact noRefs_flowC F
set_option maxHeartbeats 8000000 in
theorem minimalP (K : Nat) (R : List (List Int)) (hK : K ≤ 5) (hR : R.length ≤ 100) (hRk : ∀ r ∈ R, r.length = K) (hRb : ∀ r ∈ R, ∀ x ∈ r, -8 ≤ x ∧ x ≤ 8) :
    PSpec Try.prog 41 [tabV K R] (flowsV (minF R K K)) := by
  refine PSpec.of_rn 64 SM.ok41 rfl (by (try simp only [noRefs, noRef_net, noRef_sli, noRef_lsts, noRef_arcs, noRef_tns, noRef_tab]) <;> rfl) (noRef_flows _) ?_
  simp (maxSteps := 1000000) (disch := first | omega | (simp only [lenW] <;> omega)) only [SM.s41, aMakeMap_new, wordsM, wordsN, Int.reduceGT, wordsR, ne_eq, words, Nat.reduceAdd, Nat.reduceEqDiff, Nat.reduceBEq, ↓reduceIte, reduceCtorEq, SX.exit.injEq, if_true, if_false, Int.reduceAdd, Int.reduceSub, Int.reduceMul, Int.reduceLT, Int.reduceLE, Int.reduceEq, Int.reduceNe, Int.reduceNeg, Int.reduceToNat, Nat.reduceMul, Nat.reduceLT, Nat.reduceSub, Nat.reduceLeDiff]
  refine wS_loopR 100 (fun a : Nat => [(1, .ptr 24 0 0), (3, .ptr 20 0 0), (4, .ptr 21 0 0), (5, .int .i64 ((a : Int) + 1))])
    (fun a => vH K R (minF R K a) 0) (fun a => a ≤ K) (fun a => K - a) 0 ?_ (Nat.zero_le _) ?_
  · exact ⟨[(20, .blk 66 0), (21, .blk 68 0), (22, .blk 67 0), (23, .nil), (24, .blk 64 0)], rfl, au0, au9, au10⟩
  intro a ha
  have hl := minF_len R (K := K) (by omega) a (by omega)
  have hs := minF_sup R (K := K) (by omega) a (by omega)
  by_cases hlt : a + 1 ≤ K
  · have hlt' : (a : Int) + 1 ≤ K := by omega
    have hch := choose K R (minF R K a) 0 (a + 1) hK hR hRk hRb (by omega) hlt (by omega) hs
    generalize hg : 0 + ((foldV R (minF R K a) (setsF (a + 1) K 0)).length - (minF R K a).length) = gg at hch
    have hF : minF R K (a + 1) = foldV R (minF R K a) (setsF (a + 1) K 0) := rfl
    rw [← hF] at hch
    simp (maxSteps := 1000000) (disch := first | omega | (simp only [lenW] <;> omega)) only [vH, hlt', wordsN, Int.reduceGT, wordsR, ne_eq, words, Nat.reduceAdd, Nat.reduceEqDiff, Nat.reduceBEq, ↓reduceIte, reduceCtorEq, SX.exit.injEq, if_true, if_false, Int.reduceAdd, Int.reduceSub, Int.reduceMul, Int.reduceLT, Int.reduceLE, Int.reduceEq, Int.reduceNe, Int.reduceNeg, Int.reduceToNat, Nat.reduceMul, Nat.reduceLT, Nat.reduceSub, Nat.reduceLeDiff]
    refine ch hch ?_
    generalize hF' : minF R K (a + 1) = F' at *
    simp (maxSteps := 1000000) (disch := first | omega | (simp only [lenW] <;> omega)) only [vH, wordsN, Int.reduceGT, wordsR, ne_eq, words, Nat.reduceAdd, Nat.reduceEqDiff, Nat.reduceBEq, ↓reduceIte, reduceCtorEq, SX.exit.injEq, if_true, if_false, Int.reduceAdd, Int.reduceSub, Int.reduceMul, Int.reduceLT, Int.reduceLE, Int.reduceEq, Int.reduceNe, Int.reduceNeg, Int.reduceToNat, Nat.reduceMul, Nat.reduceLT, Nat.reduceSub, Nat.reduceLeDiff]
    refine ⟨a + 1, by omega, hlt, ?_⟩
    rw [hF']
    exact ⟨[(20, .blk 20 0), (21, .blk 21 0), (22, .blk 22 0), (23, .blk 23 gg), (24, .blk 24 0)], rfl, au0, au9, au10⟩
  · have e : a = K := by omega
    have hlt' : ¬ (a : Int) + 1 ≤ K := by omega
    subst e
    simp (maxSteps := 1000000) (disch := first | omega | (simp only [lenW] <;> omega)) only [vH, hlt', wordsN, Int.reduceGT, wordsR, ne_eq, words, Nat.reduceAdd, Nat.reduceEqDiff, Nat.reduceBEq, ↓reduceIte, reduceCtorEq, SX.exit.injEq, if_true, if_false, Int.reduceAdd, Int.reduceSub, Int.reduceMul, Int.reduceLT, Int.reduceLE, Int.reduceEq, Int.reduceNe, Int.reduceNeg, Int.reduceToNat, Nat.reduceMul, Nat.reduceLT, Nat.reduceSub, Nat.reduceLeDiff]
    exact ⟨.inr trivial, _, rfl, Rn.fz0 rfl (flowC_len _) (RnL.same (noRefs_flowC _))⟩
end Go.AM.SN
namespace Go.AM.SN
open Go.Proofs Go.AM.SK
set_option maxRecDepth 100000
set_option linter.unusedSimpArgs false
set_option linter.unusedVariables false
def listR (K : Nat) (F : List Flow) : List (List Int) := F.map fun f => (List.range K).map f.2
theorem flow_len (f : Flow) : (AV.int .u16 (f.1 : Nat) :: rowF 10 f.2).length = 11 := by rw [List.length_cons, rowF_len]
theorem flowC_at {F : List Flow} {a : Nat} {f : Flow} (h : F[a]? = some f) : (flowC F).drop (a * 11) = (AV.int .u16 (f.1 : Nat) :: rowF 10 f.2) ++ flowC (F.drop (a + 1)) :=
  drop_flat' (f := fun f : Flow => AV.int .u16 (f.1 : Nat) :: rowF 10 f.2) (k := 11) (fun y _ => flow_len y) h
theorem put11 {f : Flow} : putR [.int .u16 0, .int .i64 0, .int .i64 0, .int .i64 0, .int .i64 0, .int .i64 0, .int .i64 0, .int .i64 0, .int .i64 0, .int .i64 0, .int .i64 0] 0 (AV.int .u16 (f.1 : Nat) :: rowF 10 f.2) = AV.int .u16 (f.1 : Nat) :: rowF 10 f.2 := rfl
set_option maxHeartbeats 8000000 in
theorem listedP (K : Nat) (R : List (List Int)) (hK : K ≤ 5) (hR : R.length ≤ 100) (hRk : ∀ r ∈ R, r.length = K) (hRb : ∀ r ∈ R, ∀ x ∈ r, -8 ≤ x ∧ x ≤ 8) (hW : ∀ f ∈ minF R K K, ∀ i, i < K → f.2 i ≤ 65536) :
    PSpec Try.prog 40 [tabV K R] (.tup [lsts (listR K (minF R K K)), .int .i64 0]) := by
  refine PSpec.of_rn 64 SM.ok40 rfl (by (try simp only [noRefs, noRef_net, noRef_sli, noRef_lsts, noRef_arcs, noRef_tns, noRef_tab]) <;> rfl) (by simp only [noRef, noRefs, noRefs_lsts]; rfl) ?_
  have hm := minimalP K R hK hR hRk hRb
  have hl := minF_len R (K := K) (by omega) K (by omega)
  generalize minF R K K = F at *
  have hF1 : ¬ (128 : Int) < F.length := by omega
  simp (maxSteps := 1000000) (disch := first | omega | (simp only [lenW] <;> omega)) only [SM.s40, wordsN, Int.reduceGT, wordsR, ne_eq, words, Nat.reduceAdd, Nat.reduceEqDiff, Nat.reduceBEq, ↓reduceIte, reduceCtorEq, SX.exit.injEq, if_true, if_false, Int.reduceAdd, Int.reduceSub, Int.reduceMul, Int.reduceLT, Int.reduceLE, Int.reduceEq, Int.reduceNe, Int.reduceNeg, Int.reduceToNat, Nat.reduceMul, Nat.reduceLT, Nat.reduceSub, Nat.reduceLeDiff]
  refine cp hm ?_
  simp (maxSteps := 1000000) (disch := first | omega | (simp only [lenW] <;> omega)) only [hF1, wordsN, Int.reduceGT, wordsR, ne_eq, words, Nat.reduceAdd, Nat.reduceEqDiff, Nat.reduceBEq, ↓reduceIte, reduceCtorEq, SX.exit.injEq, if_true, if_false, Int.reduceAdd, Int.reduceSub, Int.reduceMul, Int.reduceLT, Int.reduceLE, Int.reduceEq, Int.reduceNe, Int.reduceNeg, Int.reduceToNat, Nat.reduceMul, Nat.reduceLT, Nat.reduceSub, Nat.reduceLeDiff]
  refine wS_loopR 100 (fun a : Nat => [(1, .ptr 51 0 0), (5, .sl 50 0 0 a 1), (15, flowsV F), (16, .int .i64 F.length), (17, .int .i64 a)])
    (fun a => [(50, .cells 0 ((listR K (F.take a)).map sli)), (51, .cells 0 [.int .i64 K, .fsl (R.flatMap pad) R.length 10])]) (fun a => a ≤ F.length) (fun a => F.length - a) 0 ?_ (Nat.zero_le _) ?_
  · simp only [List.take_zero, listR, List.map_nil]
    exact ⟨[(50, .nil), (51, .blk 64 0)], rfl, au0, au9, au10⟩
  intro a ha
  by_cases hlt : a < F.length
  · obtain ⟨f, hf⟩ := get_ex hlt
    have hfm := List.mem_of_getElem? hf
    have hd := flowC_at hf
    have ht11 : ((AV.int .u16 (f.1 : Nat) :: rowF 10 f.2) ++ flowC (F.drop (a + 1))).take 11 = AV.int .u16 (f.1 : Nat) :: rowF 10 f.2 := by rw [← flow_len f, List.take_left']; rfl
    have hl11 : (11 ≤ ((AV.int .u16 (f.1 : Nat) :: rowF 10 f.2) ++ flowC (F.drop (a + 1))).length) = True := by simp only [List.length_append, flow_len]; exact eq_true (by omega)
    have hone : (AV.int .u16 (f.1 : Nat) :: rowF 10 f.2).all AV.one = true := by rw [List.all_cons, one_rowF]; rfl
    have hfl := flow_len f
    have hp := put11 (f := f)
    have hk8 : (8 : Int) * (K : Int) ≤ 1099511627776 := by omega
    have hk1 : (K : Int) ≤ 1099511627776 := by omega
    generalize hfc : (AV.int .u16 (f.1 : Nat) :: rowF 10 f.2) = fc at *
    have hfr : noRefs fc = true := by rw [← hfc]; simp only [noRefs, noRef, noRefs_rowF]; rfl
    have hget : ∀ i, i < K → fc[1 + i]? = some (.int .i64 (f.2 i)) := fun i hi => by rw [← hfc, Nat.add_comm 1 i, List.getElem?_cons_succ]; exact rowF_get _ (by omega)
    have hw := hW f hfm
    have hla : (listR K (F.take a)).length = a := by simp [listR]; omega
    have hls : (listR K (F.take (a + 1))).map sli = (listR K (F.take a)).map sli ++ [sli ((List.range K).map f.2)] := by
      unfold listR
      rw [List.take_add_one, hf, List.map_append, List.map_append]; rfl
    simp (maxSteps := 1000000) (disch := first | omega | (simp only [lenW] <;> omega)) only [hlt, hd, ht11, hl11, hfl, hone, hp, hk8, hk1, rowF_zero, wordsN, Int.reduceGT, wordsR, ne_eq, words, Nat.reduceAdd, Nat.reduceEqDiff, Nat.reduceBEq, ↓reduceIte, reduceCtorEq, SX.exit.injEq, if_true, if_false, Int.reduceAdd, Int.reduceSub, Int.reduceMul, Int.reduceLT, Int.reduceLE, Int.reduceEq, Int.reduceNe, Int.reduceNeg, Int.reduceToNat, Nat.reduceMul, Nat.reduceLT, Nat.reduceSub, Nat.reduceLeDiff]
    refine wS_loopR 200 (fun i : Nat => [(1, .ptr 51 0 0), (5, .sl 50 0 0 a 1), (15, flowsV F), (16, .int .i64 F.length), (17, .int .i64 a), (7, .ptr 52 0 0), (8, .sl 53 0 0 K 1), (25, .int .i64 K), (26, .int .i64 i)])
      (fun i => [(50, .cells 0 ((listR K (F.take a)).map sli)), (51, .cells 0 [.int .i64 K, .fsl (R.flatMap pad) R.length 10]), (52, .cells 0 fc), (53, .cells 0 (rowF K fun p => if p < i then f.2 p else 0))]) (fun i => i ≤ K) (fun i => K - i) 0 ?_ (Nat.zero_le _) ?_
    · refine ⟨[(50, .blk 50 0), (51, .blk 51 0), (52, .blk 103 0), (53, .blk 107 0)], rfl, au0, ?_, au10⟩
      refine RB.cells rfl rfl rfl (RnL.same (noRefs_lsts _)) (RB.cells rfl rfl rfl ?_ (RB.cells rfl rfl rfl (RnL.same hfr) (RB.cells rfl rfl rfl (RnL.eq (rowF_congr fun p _ => if_neg (Nat.not_lt_zero _)) (noRefs_rowF _ _)) RB.nil)))
      repeat' (first | exact RB.nil | (refine RnL.same ?_; first | rfl | (simp only [noRef, noRefs, noRefs_append, Bool.and_self, Bool.and_true, Bool.true_and, noRefs_flat10, noRefs_ints, noRefs_lsts, noRefs_pad, noRefs_tnC, noRefs_arcC, noRefs_rowF, noRefs_flowC]; done)) | exact RnM.keyM rfl | exact RnL.nil | refine RnL.cons ?_ ?_ | (refine Rn.same ?_; first | rfl | (simp only [noRef, noRefs, noRefs_append, Bool.and_self, Bool.and_true, Bool.true_and, noRefs_flat10, noRefs_ints, noRefs_lsts, noRefs_pad, noRefs_tnC, noRefs_arcC, noRefs_rowF, noRefs_flowC]; done)) | exact Rn.x1 rfl rfl | exact Rn.x2 rfl rfl | exact Rn.x3 rfl rfl | exact Rn.x4 rfl rfl | exact Rn.x5 rfl | exact Rn.x6 rfl | exact Rn.x7 rfl | refine RB.newnil rfl rfl ?_ | refine RB.cells rfl rfl rfl ?_ ?_ | refine RB.map rfl rfl rfl ?_ ?_ | refine RB.cellsB rfl rfl ?_ ?_ | refine RB.mapB rfl rfl ?_ ?_)
    intro i hi
    by_cases hil : i < K
    · have hi10 : (i : Int) < 10 := by omega
      have hgi := hget i hil
      have hwi : ¬ (65536 : Int) < f.2 i := by have := hw i hil; omega
      have hset : ∀ v, (rowF K fun p => if p < i then f.2 p else 0).set i (.int .i64 v) = rowF K (fun p => if p = i then v else if p < i then f.2 p else 0) := fun v => rowF_set _ v
      have hle : i + 1 ≤ K := by omega
      simp (maxSteps := 1000000) (disch := first | omega | (simp only [lenW] <;> omega)) only [hil, hi10, hgi, hwi, hset, hle, rowF_len, wordsN, Int.reduceGT, wordsR, ne_eq, words, Nat.reduceAdd, Nat.reduceEqDiff, Nat.reduceBEq, ↓reduceIte, reduceCtorEq, SX.exit.injEq, if_true, if_false, Int.reduceAdd, Int.reduceSub, Int.reduceMul, Int.reduceLT, Int.reduceLE, Int.reduceEq, Int.reduceNe, Int.reduceNeg, Int.reduceToNat, Nat.reduceMul, Nat.reduceLT, Nat.reduceSub, Nat.reduceLeDiff]
      refine ⟨i + 1, by omega, by omega, ?_⟩
      refine ⟨[(50, .blk 50 0), (51, .blk 51 0), (52, .blk 52 0), (53, .blk 53 0)], rfl, au0, ?_, au10⟩
      refine RB.cells rfl rfl rfl (RnL.same (noRefs_lsts _)) (RB.cells rfl rfl rfl ?_ (RB.cells rfl rfl rfl (RnL.same hfr) (RB.cells rfl rfl rfl (RnL.eq (rowF_congr fun p _ => ?_) (noRefs_rowF _ _)) RB.nil)))
      rotate_right 1
      · by_cases e : p = i
        · subst e; simp
        · have : (p < i + 1) ↔ (p < i) := by omega
          simp only [this, e, if_false]
      repeat' (first | exact RB.nil | (refine RnL.same ?_; first | rfl | (simp only [noRef, noRefs, noRefs_append, Bool.and_self, Bool.and_true, Bool.true_and, noRefs_flat10, noRefs_ints, noRefs_lsts, noRefs_pad, noRefs_tnC, noRefs_arcC, noRefs_rowF, noRefs_flowC]; done)) | exact RnM.keyM rfl | exact RnL.nil | refine RnL.cons ?_ ?_ | (refine Rn.same ?_; first | rfl | (simp only [noRef, noRefs, noRefs_append, Bool.and_self, Bool.and_true, Bool.true_and, noRefs_flat10, noRefs_ints, noRefs_lsts, noRefs_pad, noRefs_tnC, noRefs_arcC, noRefs_rowF, noRefs_flowC]; done)) | exact Rn.x1 rfl rfl | exact Rn.x2 rfl rfl | exact Rn.x3 rfl rfl | exact Rn.x4 rfl rfl | exact Rn.x5 rfl | exact Rn.x6 rfl | exact Rn.x7 rfl | refine RB.newnil rfl rfl ?_ | refine RB.cells rfl rfl rfl ?_ ?_ | refine RB.map rfl rfl rfl ?_ ?_ | refine RB.cellsB rfl rfl ?_ ?_ | refine RB.mapB rfl rfl ?_ ?_)
    · have e : i = K := by omega
      simp (maxSteps := 1000000) (disch := first | omega | (simp only [lenW] <;> omega)) only [hil, hlt, wordsN, Int.reduceGT, wordsR, ne_eq, words, Nat.reduceAdd, Nat.reduceEqDiff, Nat.reduceBEq, ↓reduceIte, reduceCtorEq, SX.exit.injEq, if_true, if_false, Int.reduceAdd, Int.reduceSub, Int.reduceMul, Int.reduceLT, Int.reduceLE, Int.reduceEq, Int.reduceNe, Int.reduceNeg, Int.reduceToNat, Nat.reduceMul, Nat.reduceLT, Nat.reduceSub, Nat.reduceLeDiff]
      refine ⟨a + 1, by omega, by omega, ?_⟩
      refine ⟨[(50, .blk 50 1), (51, .blk 51 0)], rfl, au0, ?_, au10⟩
      rw [hls]
      refine RB.cells rfl rfl rfl (RnL.append (RnL.same (noRefs_lsts _)) (RnL.cons (Rn.fzm rfl rfl rfl (by simp) (by rw [rowF_len, Nat.mul_one]) (RnL.eq ?_ (noRefs_ints _))) RnL.nil)) (RB.cells rfl rfl rfl ?_ RB.nil)
      · show rowF K f.2 = _
        exact rowF_congr fun p hp => (if_pos (by omega)).symm
      · repeat' (first | exact RB.nil | (refine RnL.same ?_; first | rfl | (simp only [noRef, noRefs, noRefs_append, Bool.and_self, Bool.and_true, Bool.true_and, noRefs_flat10, noRefs_ints, noRefs_lsts, noRefs_pad, noRefs_tnC, noRefs_arcC, noRefs_rowF, noRefs_flowC]; done)) | exact RnM.keyM rfl | exact RnL.nil | refine RnL.cons ?_ ?_ | (refine Rn.same ?_; first | rfl | (simp only [noRef, noRefs, noRefs_append, Bool.and_self, Bool.and_true, Bool.true_and, noRefs_flat10, noRefs_ints, noRefs_lsts, noRefs_pad, noRefs_tnC, noRefs_arcC, noRefs_rowF, noRefs_flowC]; done)) | exact Rn.x1 rfl rfl | exact Rn.x2 rfl rfl | exact Rn.x3 rfl rfl | exact Rn.x4 rfl rfl | exact Rn.x5 rfl | exact Rn.x6 rfl | exact Rn.x7 rfl | refine RB.newnil rfl rfl ?_ | refine RB.cells rfl rfl rfl ?_ ?_ | refine RB.map rfl rfl rfl ?_ ?_ | refine RB.cellsB rfl rfl ?_ ?_ | refine RB.mapB rfl rfl ?_ ?_)
  · have e : a = F.length := by omega
    subst e
    simp (maxSteps := 1000000) (disch := first | omega | (simp only [lenW] <;> omega)) only [hlt, wordsN, Int.reduceGT, wordsR, ne_eq, words, Nat.reduceAdd, Nat.reduceEqDiff, Nat.reduceBEq, ↓reduceIte, reduceCtorEq, SX.exit.injEq, if_true, if_false, Int.reduceAdd, Int.reduceSub, Int.reduceMul, Int.reduceLT, Int.reduceLE, Int.reduceEq, Int.reduceNe, Int.reduceNeg, Int.reduceToNat, Nat.reduceMul, Nat.reduceLT, Nat.reduceSub, Nat.reduceLeDiff]
    refine ⟨.inr trivial, _, rfl, ?_⟩
    refine Rn.tup (RnL.cons ?_ (RnL.same rfl))
    have hlen : (listR K F).length = F.length := by simp [listR]
    show Rn 0 π0 _ (.fsl ((listR K F).map sli) (listR K F).length 1) _
    rw [hlen]
    exact Rn.fz0 rfl (by simp [hlen]) (RnL.same (noRefs_lsts _))
end Go.AM.SN
namespace Go.AM.SN
open Go.Proofs Go.AM.SK
set_option maxRecDepth 100000
set_option linter.unusedSimpArgs false
set_option linter.unusedVariables false
theorem MinimalT (x : Nt) (kind : Int) (K : Nat) (R : List (List Int)) (hT : PSpec Try.prog 39 [netV x, .int .i64 kind] (.tup [tabV K R, .int .i64 0]))
    (hK : K ≤ 5) (hR : R.length ≤ 100) (hRk : ∀ r ∈ R, r.length = K) (hRb : ∀ r ∈ R, ∀ x ∈ r, -8 ≤ x ∧ x ≤ 8) (hW : ∀ f ∈ minF R K K, ∀ i, i < K → f.2 i ≤ 65536) :
    PSpec Try.prog 14 [netV x, .int .i64 kind] (.tup [lsts (listR K (minF R K K)), .int .i64 0]) := by
  refine PSpec.of_rn 64 SM.ok14 rfl (by rw [noRefs, noRef_net]; rfl) (by simp only [noRef, noRefs, noRefs_lsts]; rfl) ?_
  have hl := listedP K R hK hR hRk hRb hW
  simp (maxSteps := 1000000) (disch := first | omega | (simp only [lenW] <;> omega)) only [SM.s14, wordsN, Int.reduceGT, wordsR, ne_eq, words, Nat.reduceAdd, Nat.reduceEqDiff, Nat.reduceBEq, ↓reduceIte, reduceCtorEq, SX.exit.injEq, if_true, if_false, Int.reduceAdd, Int.reduceSub, Int.reduceMul, Int.reduceLT, Int.reduceLE, Int.reduceEq, Int.reduceNe, Int.reduceNeg, Int.reduceToNat, Nat.reduceMul, Nat.reduceLT, Nat.reduceSub, Nat.reduceLeDiff]
  refine cp hT ?_
  simp (maxSteps := 1000000) (disch := first | omega | (simp only [lenW] <;> omega)) only [wordsN, Int.reduceGT, wordsR, ne_eq, words, Nat.reduceAdd, Nat.reduceEqDiff, Nat.reduceBEq, ↓reduceIte, reduceCtorEq, SX.exit.injEq, if_true, if_false, Int.reduceAdd, Int.reduceSub, Int.reduceMul, Int.reduceLT, Int.reduceLE, Int.reduceEq, Int.reduceNe, Int.reduceNeg, Int.reduceToNat, Nat.reduceMul, Nat.reduceLT, Nat.reduceSub, Nat.reduceLeDiff]
  refine cp hl ?_
  simp (maxSteps := 1000000) (disch := first | omega | (simp only [lenW] <;> omega)) only [wordsN, Int.reduceGT, wordsR, ne_eq, words, Nat.reduceAdd, Nat.reduceEqDiff, Nat.reduceBEq, ↓reduceIte, reduceCtorEq, SX.exit.injEq, if_true, if_false, Int.reduceAdd, Int.reduceSub, Int.reduceMul, Int.reduceLT, Int.reduceLE, Int.reduceEq, Int.reduceNe, Int.reduceNeg, Int.reduceToNat, Nat.reduceMul, Nat.reduceLT, Nat.reduceSub, Nat.reduceLeDiff]
  exact ⟨.inr trivial, _, rfl, Rn.same (by simp only [resOf, noRef, noRefs, noRefs_lsts]; rfl)⟩
def covR (F : List Flow) : Nat := F.foldl (fun a f => a ||| f.1) 0
theorem covR_take {F : List Flow} {a : Nat} {f : Flow} (h : F[a]? = some f) : covR (F.take (a + 1)) = covR (F.take a) ||| f.1 := by
  unfold covR
  rw [List.take_add_one, List.foldl_append, h]; rfl
theorem covR_lt {F : List Flow} (h : ∀ f ∈ F, f.1 < 65536) : covR F < 65536 := by
  unfold covR
  have : ∀ (l : List Flow) (a : Nat), (∀ c ∈ l, c.1 < 65536) → a < 65536 → l.foldl (fun a c => a ||| c.1) a < 65536 := by
    intro l
    induction l with
    | nil => intro a _ ha; exact ha
    | cons c l ih =>
      intro a hl ha
      rw [List.foldl_cons]
      exact ih _ (fun c hc => hl c (by simp [hc])) (Nat.or_lt_two_pow (n := 16) ha (hl c (by simp)))
  exact this F 0 h (by decide)
theorem _root_.Go.AM.au11 {p : Prop} (h : p := by repeat' (first | exact RB.nil | (refine RnL.same ?_; first | rfl | (simp only [noRef, noRefs, noRefs_append, Bool.and_self, Bool.and_true, Bool.true_and, noRefs_flat10, noRefs_ints, noRefs_lsts, noRefs_pad, noRefs_tnC, noRefs_arcC, noRefs_rowF, noRefs_flowC, noRef_tab]; done)) | exact RnM.keyM rfl | exact RnL.nil | refine RnL.cons ?_ ?_ | (refine Rn.same ?_; first | rfl | (simp only [noRef, noRefs, noRefs_append, Bool.and_self, Bool.and_true, Bool.true_and, noRefs_flat10, noRefs_ints, noRefs_lsts, noRefs_pad, noRefs_tnC, noRefs_arcC, noRefs_rowF, noRefs_flowC, noRef_tab]; done)) | exact Rn.x1 rfl rfl | exact Rn.x2 rfl rfl | exact Rn.x3 rfl rfl | exact Rn.x4 rfl rfl | exact Rn.x5 rfl | exact Rn.x6 rfl | exact Rn.x7 rfl | refine RB.newnil rfl rfl ?_ | refine RB.cells rfl rfl rfl ?_ ?_ | refine RB.map rfl rfl rfl ?_ ?_ | refine RB.cellsB rfl rfl ?_ ?_ | refine RB.mapB rfl rfl ?_ ?_)) : p := h
theorem _root_.Go.AM.au12 {p : Prop} (h : p := by repeat (first | exact RT.nil | (refine RT.cons ?_ ?_; · (first | exact Rn.any | exact Rn.x1 rfl rfl | exact Rn.x2 rfl rfl | exact Rn.x3 rfl rfl | exact Rn.x4 rfl rfl | exact Rn.x5 rfl | exact Rn.x6 rfl | exact Rn.x7 rfl | (refine Rn.slot ?_ ?_; (first | rfl | (rw [Int.natCast_add]; rfl)); (first | rfl | (simp only [noRef, noRefs, noRefs_append, Bool.and_self, Bool.and_true, Bool.true_and, noRefs_flat10, noRefs_ints, noRefs_lsts, noRefs_pad, noRefs_tnC, noRefs_arcC, noRefs_rowF, noRefs_flowC, noRef_tab]; done))) | (refine Rn.fn ?_ ?_ <;> (repeat' (first | exact RnL.nil | refine RnL.cons ?_ ?_ | exact Rn.same rfl | exact Rn.x6 rfl | exact Rn.x2 rfl rfl | exact Rn.x5 rfl | exact Rn.x1 rfl rfl))))))) : p := h
set_option maxHeartbeats 8000000 in
theorem CoveredT (x : Nt) (kind : Int) (K : Nat) (R : List (List Int)) (hT : PSpec Try.prog 39 [netV x, .int .i64 kind] (.tup [tabV K R, .int .i64 0]))
    (hK : K ≤ 5) (hR : R.length ≤ 100) (hRk : ∀ r ∈ R, r.length = K) (hRb : ∀ r ∈ R, ∀ x ∈ r, -8 ≤ x ∧ x ≤ 8) :
    PSpec Try.prog 15 [netV x, .int .i64 kind] (.tup [.bool (decide (covR (minF R K K) = 2 ^ K - 1)), .int .i64 0]) := by
  refine PSpec.of_rn 64 SM.ok15 rfl (by rw [noRefs, noRef_net]; rfl) rfl ?_
  have hm := minimalP K R hK hR hRk hRb
  have hl := minF_len R (K := K) (by omega) K (by omega)
  have hs := minF_sup R (K := K) (by omega) K (by omega)
  generalize minF R K K = F at *
  have hsh := shl16 (c := K) (k := .i64) (by omega)
  have h1 := shl_lt (c := K) (by omega)
  have e2 : 1 <<< K = 2 ^ K := by rw [Nat.shiftLeft_eq, Nat.one_mul]
  have h2 : 0 < 2 ^ K := Nat.two_pow_pos K
  rw [e2] at hsh h1
  generalize 2 ^ K = p at *
  simp (maxSteps := 1000000) (disch := first | omega | (simp only [lenW] <;> omega)) only [SM.s15, wordsN, Int.reduceGT, wordsR, ne_eq, words, Nat.reduceAdd, Nat.reduceEqDiff, Nat.reduceBEq, ↓reduceIte, reduceCtorEq, SX.exit.injEq, if_true, if_false, Int.reduceAdd, Int.reduceSub, Int.reduceMul, Int.reduceLT, Int.reduceLE, Int.reduceEq, Int.reduceNe, Int.reduceNeg, Int.reduceToNat, Nat.reduceMul, Nat.reduceLT, Nat.reduceSub, Nat.reduceLeDiff]
  refine cp hT ?_
  simp (maxSteps := 1000000) (disch := first | omega | (simp only [lenW] <;> omega)) only [wordsN, Int.reduceGT, wordsR, ne_eq, words, Nat.reduceAdd, Nat.reduceEqDiff, Nat.reduceBEq, ↓reduceIte, reduceCtorEq, SX.exit.injEq, if_true, if_false, Int.reduceAdd, Int.reduceSub, Int.reduceMul, Int.reduceLT, Int.reduceLE, Int.reduceEq, Int.reduceNe, Int.reduceNeg, Int.reduceToNat, Nat.reduceMul, Nat.reduceLT, Nat.reduceSub, Nat.reduceLeDiff]
  refine cp hm ?_
  simp (maxSteps := 1000000) (disch := first | omega | (simp only [lenW] <;> omega)) only [wordsN, Int.reduceGT, wordsR, ne_eq, words, Nat.reduceAdd, Nat.reduceEqDiff, Nat.reduceBEq, ↓reduceIte, reduceCtorEq, SX.exit.injEq, if_true, if_false, Int.reduceAdd, Int.reduceSub, Int.reduceMul, Int.reduceLT, Int.reduceLE, Int.reduceEq, Int.reduceNe, Int.reduceNeg, Int.reduceToNat, Nat.reduceMul, Nat.reduceLT, Nat.reduceSub, Nat.reduceLeDiff]
  refine wS_loopR 100 (fun a : Nat => [(6, .ptr 51 0 0), (8, .int .u16 (covR (F.take a) : Nat)), (21, flowsV F), (22, .int .i64 F.length), (23, .int .i64 a)])
    (fun a => [(51, .cells 0 [.int .i64 K, .fsl (R.flatMap pad) R.length 10])]) (fun a => a ≤ F.length) (fun a => F.length - a) 0 ?_ (Nat.zero_le _) ?_
  · exact ⟨[(51, .blk 73 0)], rfl, au0, au11, au12⟩
  intro a ha
  by_cases hlt : a < F.length
  · obtain ⟨f, hf⟩ := get_ex hlt
    have hfm := List.mem_of_getElem? hf
    have hd := flowC_at hf
    have hor := or16 (covR_lt fun f hf => hs f (List.mem_of_mem_take hf) : covR (F.take a) < 65536) (hs f hfm)
    have ht11 : ((AV.int .u16 (f.1 : Nat) :: rowF 10 f.2) ++ flowC (F.drop (a + 1))).take 11 = AV.int .u16 (f.1 : Nat) :: rowF 10 f.2 := by rw [← flow_len f, List.take_left']; rfl
    have hl11 : (11 ≤ ((AV.int .u16 (f.1 : Nat) :: rowF 10 f.2) ++ flowC (F.drop (a + 1))).length) = True := by simp only [List.length_append, flow_len]; exact eq_true (by omega)
    have hone : (AV.int .u16 (f.1 : Nat) :: rowF 10 f.2).all AV.one = true := by rw [List.all_cons, one_rowF]; rfl
    have hfl := flow_len f
    have hp := put11 (f := f)
    have h0 : (AV.int .u16 (f.1 : Nat) :: rowF 10 f.2)[0]? = some (.int .u16 (f.1 : Nat)) := rfl
    generalize hfc : (AV.int .u16 (f.1 : Nat) :: rowF 10 f.2) = fc at *
    simp (maxSteps := 1000000) (disch := first | omega | (simp only [lenW] <;> omega)) only [hlt, hd, ht11, hl11, hfl, hone, hp, h0, hor, wordsN, Int.reduceGT, wordsR, ne_eq, words, Nat.reduceAdd, Nat.reduceEqDiff, Nat.reduceBEq, ↓reduceIte, reduceCtorEq, SX.exit.injEq, if_true, if_false, Int.reduceAdd, Int.reduceSub, Int.reduceMul, Int.reduceLT, Int.reduceLE, Int.reduceEq, Int.reduceNe, Int.reduceNeg, Int.reduceToNat, Nat.reduceMul, Nat.reduceLT, Nat.reduceSub, Nat.reduceLeDiff]
    refine ⟨a + 1, by omega, by omega, ?_⟩
    rw [covR_take hf]
    exact ⟨[(51, .blk 51 0)], rfl, au0, au11, au12⟩
  · have e : a = F.length := by omega
    subst e
    have hcl := covR_lt hs
    rw [List.take_length]
    simp (maxSteps := 1000000) (disch := first | omega | (simp only [lenW] <;> omega)) only [hlt, hsh, wordsN, Int.reduceGT, wordsR, ne_eq, words, Nat.reduceAdd, Nat.reduceEqDiff, Nat.reduceBEq, ↓reduceIte, reduceCtorEq, SX.exit.injEq, if_true, if_false, Int.reduceAdd, Int.reduceSub, Int.reduceMul, Int.reduceLT, Int.reduceLE, Int.reduceEq, Int.reduceNe, Int.reduceNeg, Int.reduceToNat, Nat.reduceMul, Nat.reduceLT, Nat.reduceSub, Nat.reduceLeDiff]
    have e3 : (((covR F : Nat) : Int) = (p : Int) - 1) ↔ (covR F = p - 1) := by omega
    simp only [e3]
    exact ⟨.inr trivial, _, rfl, Rn.same rfl⟩
end Go.AM.SN
namespace Go.AM.SN
open Go.Proofs Go.AM.SK
set_option linter.unusedSimpArgs false
set_option linter.unusedVariables false
theorem visit_mem {R : List (List Int)} {F : List Flow} {s : List Nat} {f : Flow} (h : f ∈ visitR R F s) : f ∈ F ∨ ∃ l, kerR R s = some l ∧ (∀ x ∈ l, 0 ≤ x) ∧ f = (supOf s, scat s l) := by
  unfold visitR at h
  split at h
  · exact .inl h
  · split at h
    · exact .inl h
    · rename_i l hk
      split at h
      · exact .inl h
      · rename_i hn
        rcases List.mem_append.1 h with h | h
        · exact .inl h
        · simp only [List.mem_singleton] at h
          refine .inr ⟨l, hk, fun x hx => ?_, h⟩
          rw [Bool.not_eq_true, List.any_eq_false] at hn
          have := hn x hx
          simpa using this
theorem foldV_mem {R : List (List Int)} : ∀ {S : List (List Nat)} {F : List Flow} {f : Flow}, f ∈ foldV R F S → f ∈ F ∨ ∃ s ∈ S, ∃ l, kerR R s = some l ∧ (∀ x ∈ l, 0 ≤ x) ∧ f = (supOf s, scat s l)
  | [], F, f, h => .inl h
  | s :: S, F, f, h => by
    rcases foldV_mem (S := S) (F := visitR R F s) h with h | ⟨t, ht, h⟩
    · rcases visit_mem h with h | h
      · exact .inl h
      · exact .inr ⟨s, by simp, h⟩
    · exact .inr ⟨t, by simp [ht], h⟩
theorem minF_mem {R : List (List Int)} {K : Nat} : ∀ {m : Nat} {f : Flow}, f ∈ minF R K m → ∃ k s l, 0 < k ∧ k ≤ m ∧ s ∈ setsF k K 0 ∧ kerR R s = some l ∧ (∀ x ∈ l, 0 ≤ x) ∧ f = (supOf s, scat s l)
  | 0, f, h => by simp [minF] at h
  | m + 1, f, h => by
    rcases foldV_mem h with h | ⟨s, hs, l, h1, h2, h3⟩
    · obtain ⟨k, s, l, a, b, c⟩ := minF_mem h
      exact ⟨k, s, l, a, by omega, c⟩
    · exact ⟨m + 1, s, l, by omega, by omega, hs, h1, h2, h3⟩
theorem scat_not {s : List Nat} {l : List Int} {c : Nat} (h : c ∉ s) (hl : l.length = s.length) : scat s l c = 0 := by
  have : ∀ i, i ≤ s.length → scat (s.take i) (l.take i) c = 0 := by
    intro i
    induction i with
    | zero => intro _; simp [scat]
    | succ i ih =>
      intro hi
      obtain ⟨d, hd⟩ := get_ex (l := s) (i := i) (by omega)
      obtain ⟨x, hx⟩ := get_ex (l := l) (i := i) (by omega)
      rw [scat_take hd hx]
      have hne : c ≠ d := fun e => h (e ▸ List.mem_of_getElem? hd)
      simp only [if_neg hne]
      exact ih (by omega)
  have h1 := this s.length (Nat.le_refl _)
  rw [List.take_length, ← hl, List.take_length] at h1; exact h1
theorem scat_at {s : List Nat} {l : List Int} {p c : Nat} {x : Int} (hs : s.Pairwise (· < ·)) (hl : l.length = s.length) (hc : s[p]? = some c) (hx : l[p]? = some x) : scat s l c = x := by
  have : ∀ i, i ≤ s.length → p < i → scat (s.take i) (l.take i) c = x := by
    intro i
    induction i with
    | zero => intro _ h; omega
    | succ i ih =>
      intro hi hp
      obtain ⟨d, hd⟩ := get_ex (l := s) (i := i) (by omega)
      obtain ⟨y, hy⟩ := get_ex (l := l) (i := i) (by omega)
      rw [scat_take hd hy]
      by_cases e : p = i
      · subst e
        rw [hc] at hd; cases hd
        rw [hx] at hy; cases hy
        simp
      · have hlt : p < i := by omega
        have hne : c ≠ d := by
          obtain ⟨h1, e1⟩ := List.getElem?_eq_some_iff.1 hc
          obtain ⟨h2, e2⟩ := List.getElem?_eq_some_iff.1 hd
          have := List.pairwise_iff_getElem.1 hs p i h1 h2 hlt
          omega
        simp only [if_neg hne]
        exact ih (by omega) hlt
  have hp := (List.getElem?_eq_some_iff.1 hc).1
  have h1 := this s.length (Nat.le_refl _) hp
  rw [List.take_length, ← hl, List.take_length] at h1; exact h1
theorem scat_cases (s : List Nat) (l : List Int) (c : Nat) : scat s l c = 0 ∨ scat s l c ∈ l := by
  unfold scat
  have : ∀ (z : List (Nat × Int)) (f : Nat → Int), (f c = 0 ∨ f c ∈ l) → (∀ p ∈ z, p.2 ∈ l) → ((z.foldl (fun f p => fun c => if c = p.1 then p.2 else f c) f) c = 0 ∨ (z.foldl (fun f p => fun c => if c = p.1 then p.2 else f c) f) c ∈ l) := by
    intro z
    induction z with
    | nil => intro f hf _; exact hf
    | cons p z ih =>
      intro f hf hz
      rw [List.foldl_cons]
      refine ih _ ?_ fun q hq => hz q (by simp [hq])
      by_cases e : c = p.1
      · simp only [if_pos e]; exact .inr (hz p (by simp))
      · simp only [if_neg e]; exact hf
  exact this _ _ (.inl rfl) fun p hp => (List.of_mem_zip hp).2
theorem sumN_upd (a f : Nat → Int) (c : Nat) (x : Int) (h0 : f c = 0) : ∀ n, sumN (fun j => a j * (if j = c then x else f j)) n = sumN (fun j => a j * f j) n + if c < n then a c * x else 0
  | 0 => by simp [sumN]
  | n + 1 => by
    have ih := sumN_upd a f c x h0 n
    simp only [sumN, ih]
    by_cases e : n = c
    · subst e
      simp [h0]
    · have e' : ¬ c = n := fun h => e h.symm
      by_cases h : c < n
      · rw [if_pos h, if_neg e, if_pos (by omega)]; omega
      · rw [if_neg h, if_neg e, if_neg (by omega)]; omega
theorem scat_sum {s : List Nat} {l : List Int} {r : List Int} (hs : s.Pairwise (· < ·)) (hl : l.length = s.length) (hc : ∀ c ∈ s, c < r.length) : rowSum r ((List.range r.length).map (scat s l)) = rowSum (rrow s r) l := by
  have : ∀ i, i ≤ s.length → rowSum r ((List.range r.length).map (scat (s.take i) (l.take i))) = rowSum ((rrow s r).take i) (l.take i) := by
    intro i
    induction i with
    | zero =>
      intro _
      rw [rowSum_sumN]
      have : ∀ n, sumN (fun c => r.getD c 0 * scat (s.take 0) (l.take 0) c) n = 0 := by
        intro n
        induction n with
        | zero => rfl
        | succ n ih => simp only [sumN, ih]; simp [scat]
      rw [this]; simp [rowSum]
    | succ i ih =>
      intro hi
      obtain ⟨d, hd⟩ := get_ex (l := s) (i := i) (by omega)
      obtain ⟨y, hy⟩ := get_ex (l := l) (i := i) (by omega)
      have h0 : scat (s.take i) (l.take i) d = 0 := by
        refine scat_not ?_ (by simp [hl])
        intro hm
        obtain ⟨j, hj, hjd⟩ := mem_at hm
        have hjlt : j < i := by
          have := (List.getElem?_eq_some_iff.1 hj).1
          rw [List.length_take] at this; omega
        rw [List.getElem?_take_of_lt hjlt] at hj
        obtain ⟨h1, e1⟩ := List.getElem?_eq_some_iff.1 hj
        obtain ⟨h2, e2⟩ := List.getElem?_eq_some_iff.1 hd
        have := List.pairwise_iff_getElem.1 hs j i h1 h2 hjlt
        omega
      have ih := ih (by omega)
      rw [rowSum_sumN] at ih
      rw [rowSum_sumN, scat_take hd hy, sumN_upd _ _ _ _ h0, if_pos (hc d (List.mem_of_getElem? hd)), ih]
      have hr : (rrow s r)[i]? = some (r.getD d 0) := by simp [rrow, hd]
      rw [rowSum_take hr hy]
  have h1 := this s.length (Nat.le_refl _)
  have hrl : (rrow s r).length = s.length := by simp [rrow]
  rw [List.take_length, ← hl, List.take_length, hl, ← hrl, List.take_length] at h1
  exact h1
theorem minF_propG {B C : Nat} (hbd : ∀ {n : Nat} {P : Nat → Rw} {K : Nat → Nat} {s : Nat} {M : Mx} {last : Int}, (∀ j c, (P j c).natAbs ≤ B) → s ≤ 4 → Rel n P K s M last → last.natAbs ≤ C ∧ ∀ l c, l < s → c < n → (M l c).natAbs ≤ C)
    {R : List (List Int)} {K : Nat} (hK : K ≤ 5) (hRk : ∀ r ∈ R, r.length = K) (hB : ∀ r ∈ R, ∀ x ∈ r, x.natAbs ≤ B) {f : Flow} (h : f ∈ minF R K K) :
    (∀ i, 0 ≤ f.2 i ∧ f.2 i ≤ C) ∧ (∀ r ∈ R, rowSum r ((List.range K).map f.2) = 0) ∧ ∃ i, i < K ∧ f.2 i ≠ 0 := by
  obtain ⟨k, s, l, hk0, hkm, hs, hker, hl0, rfl⟩ := minF_mem h
  obtain ⟨hsl, hsc, hsp⟩ := sets_props K (by omega) k (by omega) s hs
  obtain ⟨hll, hlx, hz⟩ := ker_propG hbd (by omega) (by omega) hB hker
  refine ⟨fun i => ?_, fun r hr => ?_, ?_⟩
  · rcases scat_cases s l i with e | e
    · dsimp only; rw [e]; omega
    · have := (hlx _ e).2; have := hl0 _ e; dsimp only; omega
  · have := scat_sum (r := r) hsp hll (fun c hc => by rw [hRk r hr]; exact hsc c hc)
    rw [hRk r hr] at this
    rw [this]; exact hz r hr
  · obtain ⟨c, hc⟩ := get_ex (l := s) (i := 0) (by omega)
    obtain ⟨x, hx⟩ := get_ex (l := l) (i := 0) (by omega)
    refine ⟨c, hsc c (List.mem_of_getElem? hc), ?_⟩
    dsimp only
    rw [scat_at hsp hll hc hx]
    exact (hlx x (List.mem_of_getElem? hx)).1
theorem minF_prop {R : List (List Int)} {K : Nat} (hK : K ≤ 5) (hRk : ∀ r ∈ R, r.length = K) (hB : ∀ r ∈ R, ∀ x ∈ r, x.natAbs ≤ 2) {f : Flow} (h : f ∈ minF R K K) :
    (∀ i, 0 ≤ f.2 i ∧ f.2 i ≤ 384) ∧ (∀ r ∈ R, rowSum r ((List.range K).map f.2) = 0) ∧ ∃ i, i < K ∧ f.2 i ≠ 0 := minF_propG (fun h1 h2 h3 => h3.bd2 h1 h2) hK hRk hB h
abbrev minL (R : List (List Int)) (K : Nat) : List (List Int) := listR K (minF R K K)
theorem minL_prop {R : List (List Int)} {K : Nat} (hK : K ≤ 5) (hRk : ∀ r ∈ R, r.length = K) (hB : ∀ r ∈ R, ∀ x ∈ r, x.natAbs ≤ 2) {w : List Int} (h : w ∈ minL R K) :
    w.length = K ∧ (∀ x ∈ w, 0 ≤ x ∧ x ≤ 384) ∧ (∀ r ∈ R, rowSum r w = 0) ∧ w.all (· == 0) = false := by
  unfold minL listR at h
  obtain ⟨f, hf, rfl⟩ := List.mem_map.1 h
  obtain ⟨h1, h2, i, hi, h3⟩ := minF_prop hK hRk hB hf
  refine ⟨by simp, fun x hx => ?_, h2, ?_⟩
  · obtain ⟨j, _, rfl⟩ := List.mem_map.1 hx; exact h1 j
  · rw [Bool.eq_false_iff]
    intro ha
    have := List.all_eq_true.1 ha (f.2 i) (List.mem_map.2 ⟨i, by simpa using hi, rfl⟩)
    exact h3 (by simpa using this)
theorem minL_len {R : List (List Int)} {K : Nat} (hK : K ≤ 5) : (minL R K).length ≤ 50 := by
  have := minF_len R (K := K) (by omega) K (by omega)
  simp only [minL, listR, List.length_map]; omega
end Go.AM.SN
namespace Go.AM.SN
open Go.Proofs Go.AM.SK
set_option linter.unusedSimpArgs false
set_option linter.unusedVariables false
structure Tiny (x : Nt) : Prop where
  places : x.ini.length ≤ 5
  trans : x.tr.length ≤ 5
  two : ∀ p, ∀ y ∈ incR x p, y.natAbs ≤ 2
theorem weightR_cases (l : List (Int × Int)) (p : Int) : weightR l p = 0 ∨ ∃ a ∈ l, weightR l p = a.2 := by
  induction l with
  | nil => exact .inl rfl
  | cons a l ih =>
    unfold weightR
    split
    · exact .inr ⟨a, by simp, rfl⟩
    · rcases ih with h | ⟨b, hb, h⟩
      · exact .inl h
      · exact .inr ⟨b, by simp [hb], h⟩
theorem arcR_two (row : List Nat) (f : Nat → Nat) (n : Nat) (hf : ∀ k, k < 9 → f k ≤ 2) (p : Int) : 0 ≤ weightR (arcR row f n) p ∧ weightR (arcR row f n) p ≤ 2 := by
  rcases weightR_cases (arcR row f n) p with h | ⟨a, ha, h⟩
  · rw [h]; omega
  · obtain ⟨q, _, _, h2, _⟩ := arcR_mem ha
    have := hf (row.getD q 0 % 9) (Nat.mod_lt _ (by decide))
    rw [h, h2]; omega
theorem mkN_tiny (s : Sm) : Tiny (mkN s) where
  places := by rw [mkN_places]; unfold plN; omega
  trans := by rw [mkN_trans]; omega
  two := fun p y hy => by
    simp only [incR, mkN, trR, List.map_map, List.mem_map, List.mem_range] at hy
    obtain ⟨k, _, rfl⟩ := hy
    have h1 := arcR_two (s.mv.getD k []) (· % 3) (plN s) (fun k _ => by show k % 3 ≤ 2; omega) p
    have h2 := arcR_two (s.mv.getD k []) (· / 3) (plN s) (fun k _ => by show k / 3 ≤ 2; omega) p
    simp only [Function.comp]
    omega
theorem tab_two {x : Nt} (ht : Tiny x) (kind : Int) : ∀ r ∈ tabR x kind, ∀ y ∈ r, y.natAbs ≤ 2 := by
  refine tabR_all kind (q := fun r => ∀ y ∈ r, y.natAbs ≤ 2) ht.two fun t y hy => ?_
  simp only [colR, List.mem_map] at hy
  obtain ⟨p, _, rfl⟩ := hy
  rw [List.getD_eq_getElem?_getD]
  cases hk : (incR x p)[t]? with
  | none => simp
  | some z => simpa using ht.two p z (List.mem_of_getElem? hk)
theorem tabC_five {x : Nt} (ht : Tiny x) (kind : Int) : tabC x kind ≤ 5 := by
  have := ht.places; have := ht.trans
  unfold tabC; split <;> omega
theorem tabR_cnt {x : Nt} (ht : Tiny x) (kind : Int) : (tabR x kind).length ≤ 5 := by
  have := ht.places; have := ht.trans
  unfold tabR; split <;> simp [colM, incM] <;> omega
abbrev minN (x : Nt) (kind : Int) : List (List Int) := minL (tabR x kind) (tabC x kind)
theorem MinimalN (x : Nt) (ho : NetOk x) (ht : Tiny x) (kind : Int) (hk : kind = 1 ∨ kind = 2) : PSpec Try.prog 14 [netV x, .int .i64 kind] (.tup [lsts (minN x kind), .int .i64 0]) := by
  have h2 := tab_two ht kind
  refine MinimalT x kind _ _ (newTable x ho kind hk) (tabC_five ht kind) (by have := tabR_cnt ht kind; omega) (tabR_len x kind) (fun r hr y hy => by have := h2 r hr y hy; omega) fun f hf i _ => ?_
  have := (minF_prop (tabC_five ht kind) (tabR_len x kind) h2 hf).1 i
  omega
theorem minN_prop {x : Nt} (ht : Tiny x) (kind : Int) {w : List Int} (h : w ∈ minN x kind) : w.length = tabC x kind ∧ (∀ y ∈ w, 0 ≤ y ∧ y ≤ 384) ∧ (∀ r ∈ tabR x kind, rowSum r w = 0) ∧ w.all (· == 0) = false :=
  minL_prop (tabC_five ht kind) (tabR_len x kind) (tab_two ht kind) h
theorem minN_len {x : Nt} (ht : Tiny x) (kind : Int) : (minN x kind).length ≤ 50 := minL_len (tabC_five ht kind)
end Go.AM.SN
set_option linter.unusedSimpArgs false
set_option linter.unusedVariables false
namespace Go.AM
variable {P : Program}
section
variable {N : NM} {n : Nat} {d : Option Nat} {dead : List Nat} {r : List SOper} {T : Tmps} {h : Heap} {Q : QC} {fs : List Fr}
theorem aAppend_slF {sz bytes len b2 g2 off2 len2 : Nat} {cs : List AV} : wM P N (aAppend .dyn n sz bytes (.sl b2 g2 off2 len2 sz) (.fsl cs len sz)) d r dead fs n T h Q =
    wA P N (srcB (h.get b2) g2 off2 len2 sz) (some cs) g2 len2 len sz bytes b2 d r dead fs n T h Q := by
  simp only [aAppend, aSrc, if_true, slLen, wM_cells, wM_ite, wM_put]
  apply propext; constructor
  · rintro ⟨h2, cs2, hb2, h3, h4⟩
    rw [hb2, srcB_some, if_pos ⟨rfl, h3⟩]
    exact ⟨_, _, rfl, rfl, ⟨h2.1, h2.2.1⟩, h2.2.2, h4⟩
  · rintro ⟨ys, zs, hy, hz, h2, h3, h4⟩
    cases hy
    unfold srcB at hz
    split at hz
    · rename_i g3 cs2 hb2
      split at hz
      · rename_i e2
        obtain ⟨rfl, e2⟩ := e2
        cases hz
        exact ⟨⟨h2.1, h2.2, h3⟩, cs2, hb2, e2, h4⟩
      · cases hz
    · cases hz
end
end Go.AM
set_option linter.unusedSimpArgs false
set_option linter.unusedVariables false
namespace Go.AM
variable {P : Program}
def HM.tch {α : Type} (B : Nat → Prop) : HM α → Prop
  | .ret _ => True
  | .fail => True
  | .look b k => B b ∧ ∀ x, (k x).tch B
  | .put b _ k => B b ∧ k.tch B
theorem HM.tch_fp {α : Type} {B : Nat → Prop} (m : HM α) : m.tch B → ∀ h b, b ∈ (m.fp h).1 ∨ b ∈ (m.fp h).2 → B b := by
  induction m with
  | ret a => intro _ h b hb; simp [HM.fp] at hb
  | fail => intro _ h b hb; simp [HM.fp] at hb
  | look b k ih =>
    rintro ⟨h1, h2⟩ h b' hb
    simp only [HM.fp, List.mem_cons] at hb
    rcases hb with (rfl | hb) | hb
    · exact h1
    · exact ih _ (h2 _) h b' (.inl hb)
    · exact ih _ (h2 _) h b' (.inr hb)
  | put b x k ih =>
    rintro ⟨h1, h2⟩ h b' hb
    simp only [HM.fp, List.mem_cons] at hb
    rcases hb with hb | rfl | hb
    · exact ih h2 _ b' (.inl hb)
    · exact h1
    · exact ih h2 _ b' (.inr hb)
theorem HM.tch_bind {α β : Type} {B : Nat → Prop} {m : HM α} {f : α → HM β} (h1 : m.tch B) (h2 : ∀ a, (f a).tch B) : (m.bind f).tch B := by
  induction m with
  | ret a => exact h2 a
  | fail => trivial
  | look b k ih => exact ⟨h1.1, fun x => ih x (h1.2 x)⟩
  | put b x k ih => exact ⟨h1.1, ih h1.2⟩
theorem tch_opt {α : Type} {B : Nat → Prop} (o : Option α) : (HM.opt o).tch B := by cases o <;> trivial
theorem tch_cells {α : Type} {B : Nat → Prop} {b g : Nat} {k : List AV → HM α} (hb : B b) (hk : ∀ cs, (k cs).tch B) : (HM.cells b g k).tch B := by
  refine ⟨hb, fun x => ?_⟩
  match x with
  | some (.cells g' cs) =>
    simp only
    cases Nat.beq g' g <;> first | exact trivial | exact hk cs
  | some (.map _ _) => trivial
  | some (.dead _) => trivial
  | none => trivial
theorem tch_new {α : Type} {B : Nat → Prop} {i : Nat} {x : Nat → Blk} {k : Nat → Nat → HM α} (hb : B i) (hk : ∀ b g, (k b g).tch B) : (HM.new .dyn i x k).tch B := by
  refine ⟨hb, fun y => ?_⟩
  match y with
  | none => exact ⟨hb, hk _ _⟩
  | some z => trivial
def blks : AV → Option (List Nat)
  | .ptr b _ _ => some [b]
  | .sl b _ _ _ _ => some [b]
  | .map b _ => some [b]
  | .any => none
  | .agg _ => none
  | .tup [] => some []
  | .tup _ => none
  | .fn _ _ _ => none
  | .ifc _ _ => none
  | _ => some []
def Pts (v : AV) (bs : List Nat) : Prop := ∃ cs, blks v = some cs ∧ ∀ b ∈ cs, b ∈ bs
theorem Pts.mono {v : AV} {bs cs : List Nat} (h : Pts v bs) (hs : ∀ b ∈ bs, b ∈ cs) : Pts v cs := by
  obtain ⟨ds, h1, h2⟩ := h
  exact ⟨ds, h1, fun b hb => hs b (h2 b hb)⟩
abbrev Abs := List (Nat × Option (List Nat))
def absT (T : Tmps) : Abs → Nat → Option (List Nat)
  | [], i => blks (lk T i)
  | (j, a) :: r, i => bif Nat.beq j i then a else absT T r i
def absO (T : Tmps) (A : Abs) : Opd → Option (List Nat)
  | .t i => absT T A i
  | .c v => blks v
  | _ => none
def SOp.absV (i : Nat) (ax : Opd → Option (List Nat)) : SOp → Option (List Nat)
  | .mov x => ax x
  | .slice _ x _ _ _ => ax x
  | .iaddr _ _ x _ => ax x
  | .faddr _ x => ax x
  | .alloc .dyn _ => some [i]
  | .box .dyn _ => some [i]
  | .bslice false .dyn _ _ _ _ => some [i]
  | .mkslice .dyn _ _ _ _ _ => some [i]
  | .mkmap .dyn => some [i]
  | .append .dyn _ _ x _ => (ax x).map fun bs => i :: bs
  | _ => none
def SOp.touch (i : Nat) (ax : Opd → Option (List Nat)) : SOp → Option (List Nat)
  | .load _ x => ax x
  | .store _ x _ => ax x
  | .len _ x => ax x
  | .alloc .dyn _ => some [i]
  | .box .dyn _ => some [i]
  | .bslice _ .dyn _ _ _ _ => some [i]
  | .mkslice .dyn _ _ _ _ _ => some [i]
  | .mkmap .dyn => some [i]
  | .append .dyn _ _ x y => match ax x, ax y with
    | some a, some b => some (i :: (a ++ b))
    | _, _ => none
  | .copy _ x y => match ax x, ax y with
    | some a, some b => some (a ++ b)
    | _, _ => none
  | .lookup _ _ _ _ x _ => ax x
  | .mupd _ _ x _ _ => ax x
  | s => bif Nat.beq s.cls 0 then some [] else none
def touches (n : Nat) (T : Tmps) : List SOper → Abs → List (Option (List Nat))
  | [], _ => []
  | s :: r, A => s.op.touch n (absO T A) :: touches (n + 1) T r (match s.dst with | some d => (d, s.op.absV n (absO T A)) :: A | none => A)
def pairsOK (ts : List (Option (List Nat))) (ps : List (Nat × Nat)) : Bool :=
  ps.all fun p => match ts.getD p.1 none, ts.getD p.2 none with
    | some a, some b => a.all fun x => !b.elem x
    | _, _ => false
section
variable {i : Nat} {T : Tmps} {ax : Opd → Option (List Nat)} {B : Nat → Prop}
theorem tch_load {n : Option Nat} {v : AV} {bs : List Nat} (h : Pts v bs) : (aLoad n v).tch (· ∈ bs) := by
  obtain ⟨cs, h1, h2⟩ := h
  unfold aLoad
  split
  · simp only [blks, Option.some.injEq] at h1
    subst h1
    refine tch_cells (h2 _ (by simp)) fun cs => ?_
    split
    · exact tch_opt _
    · split <;> trivial
  · split
    · exact tch_opt _
    · split <;> trivial
  · trivial
theorem tch_store {n : Nat} {v u : AV} {bs : List Nat} (h : Pts v bs) : (aStore n v u).tch (· ∈ bs) := by
  obtain ⟨cs, h1, h2⟩ := h
  unfold aStore
  split
  · simp only [blks, Option.some.injEq] at h1
    subst h1
    have hb := h2 _ (List.mem_singleton.2 rfl)
    refine tch_cells hb fun cs => ?_
    split
    · exact ⟨hb, trivial⟩
    · trivial
  · trivial
theorem tch_len {k : Nat} {v : AV} {bs : List Nat} (h : Pts v bs) : (aLenC k v).tch (· ∈ bs) := by
  obtain ⟨cs, h1, h2⟩ := h
  unfold aLenC
  split
  · unfold aLen
    split <;> try trivial
    simp only [blks, Option.some.injEq] at h1
    subst h1
    refine ⟨h2 _ (by simp), fun y => ?_⟩
    match y with
    | some (.map g' es) =>
      simp only
      generalize Nat.beq g' _ = t
      cases t <;> trivial
    | some (.cells _ _) => trivial
    | some (.dead _) => trivial
    | none => trivial
  · trivial
theorem tch_src {sz : Nat} {v : AV} {bs : List Nat} {k : List AV → Nat → HM AV} (h : Pts v bs) (hs : ∀ b ∈ bs, B b) (hk : ∀ ys n, (k ys n).tch B) : (aSrc sz v k).tch B := by
  obtain ⟨cs, h1, h2⟩ := h
  unfold aSrc
  split
  · simp only [blks, Option.some.injEq] at h1
    subst h1
    split
    · refine tch_cells (hs _ (h2 _ (by simp))) fun cs => ?_
      split
      · exact hk _ _
      · trivial
    · trivial
  · split
    · exact hk _ _
    · trivial
  · exact hk _ _
  · exact hk _ _
  · split
    · exact hk _ _
    · trivial
  · trivial
theorem tch_append {sz bytes : Nat} {x y : AV} {a b : List Nat} (hx : Pts x a) (hy : Pts y b) : (aAppend .dyn i sz bytes x y).tch (· ∈ i :: (a ++ b)) := by
  unfold aAppend
  refine tch_src hy (fun c hc => by simp [hc]) fun ys n => ?_
  split
  · obtain ⟨cs, h1, h2⟩ := hx
    split
    · split
      · trivial
      · exact tch_new (by simp) fun _ _ => trivial
    · split
      · trivial
      · exact tch_new (by simp) fun _ _ => trivial
    · split <;> trivial
    · simp only [blks, Option.some.injEq] at h1
      subst h1
      have hb := h2 _ (List.mem_singleton.2 rfl)
      split
      · refine tch_cells (by simp [hb]) fun cs => ?_
        split
        · exact ⟨by simp [hb], trivial⟩
        · trivial
      · trivial
    · trivial
  · trivial
theorem tch_copy {sz : Nat} {x y : AV} {a b : List Nat} (hx : Pts x a) (hy : Pts y b) : (aCopy sz x y).tch (· ∈ a ++ b) := by
  obtain ⟨cs, h1, h2⟩ := hx
  unfold aCopy
  split
  · simp only [blks, Option.some.injEq] at h1
    subst h1
    have hb := h2 _ (List.mem_singleton.2 rfl)
    split
    · refine tch_src hy (fun c hc => by simp [hc]) fun ys n => ?_
      refine tch_cells (by simp [hb]) fun cs => ?_
      split
      · exact ⟨by simp [hb], trivial⟩
      · trivial
    · trivial
  · exact tch_src hy (fun c hc => by simp [hc]) fun ys n => trivial
  · exact tch_src hy (fun c hc => by simp [hc]) fun ys n => trivial
  · trivial
theorem tch_entries {α : Type} {b g : Nat} {k : List (AV × AV) → HM α} (hb : B b) (hk : ∀ es, (k es).tch B) : (HM.entries b g k).tch B := by
  refine ⟨hb, fun x => ?_⟩
  match x with
  | some (.map g' es) =>
    simp only
    cases Nat.beq g' g <;> first | exact trivial | exact hk es
  | some (.cells _ _) => trivial
  | some (.dead _) => trivial
  | none => trivial
theorem tch_lookup {row ok : Bool} {ks : List LK} {z x k : AV} {bs : List Nat} (h : Pts x bs) : (aLookup row ks z ok x k).tch (· ∈ bs) := by
  obtain ⟨cs, h1, h2⟩ := h
  unfold aLookup
  split
  · split
    · trivial
    · simp only [blks, Option.some.injEq] at h1
      subst h1
      refine tch_entries (h2 _ (by simp)) fun es => ?_
      split <;> trivial
    · trivial
  · trivial
theorem tch_mupd {row : Bool} {ks : List LK} {x k v : AV} {bs : List Nat} (h : Pts x bs) : (aMapUpd row ks x k v).tch (· ∈ bs) := by
  obtain ⟨cs, h1, h2⟩ := h
  unfold aMapUpd
  split
  · split
    · simp only [blks, Option.some.injEq] at h1
      subst h1
      have hb := h2 _ (List.mem_singleton.2 rfl)
      refine tch_entries hb fun es => ?_
      split
      · exact ⟨hb, trivial⟩
      · exact ⟨hb, trivial⟩
      · trivial
    · trivial
  · trivial
theorem tch_hval {m : HM AV} (h : m.tch B) : (hval m).tch B := HM.tch_bind h fun _ => trivial
theorem touch_op {s : SOp} {ts : List Nat} (hax : ∀ x bs, ax x = some bs → Pts (ev T x) bs) (h : s.touch i ax = some ts) : s.cls ≠ 0 → (aop i T s).tch (· ∈ ts) ∧ ∀ m x asx, s ≠ .call m x asx := by
  intro h0
  have new1 : ∀ {x : Nat → Blk} {r : Nat → Nat → AV}, (HM.new .dyn i x fun b g => .ret (r b g)).tch (· ∈ [i]) := fun {x r} => tch_new (by simp) fun _ _ => trivial
  cases s <;> try (exact absurd rfl h0)
  · rename_i s z
    cases s <;> simp only [SOp.touch, SOp.cls, show Nat.beq 2 0 = false from rfl, cond_false, reduceCtorEq, Option.some.injEq] at h
    subst h
    refine ⟨tch_hval ?_, fun _ _ _ => by simp⟩
    unfold aBox; split
    · exact new1
    · trivial
  · rename_i s z
    cases s <;> simp only [SOp.touch, SOp.cls, show Nat.beq 2 0 = false from rfl, cond_false, reduceCtorEq, Option.some.injEq] at h
    subst h
    refine ⟨tch_hval ?_, fun _ _ _ => by simp⟩
    unfold aBox; split
    · exact new1
    · trivial
  · rename_i fz s sz len z ps
    cases s <;> simp only [SOp.touch, SOp.cls, show Nat.beq 2 0 = false from rfl, cond_false, reduceCtorEq, Option.some.injEq] at h
    subst h
    refine ⟨tch_hval ?_, fun _ _ _ => by simp⟩
    unfold aBuildSlice
    split
    · split
      · split
        · split <;> trivial
        · exact new1
      · trivial
    · trivial
  · exact ⟨tch_hval (tch_load (hax _ _ h)), fun _ _ _ => by simp⟩
  · exact ⟨tch_hval (tch_store (hax _ _ h)), fun _ _ _ => by simp⟩
  · simp only [SOp.touch, SOp.cls, show Nat.beq 1 0 = false from rfl, cond_false, reduceCtorEq] at h
  · rename_i s
    cases s <;> simp only [SOp.touch, SOp.cls, show Nat.beq 2 0 = false from rfl, cond_false, reduceCtorEq, Option.some.injEq] at h
    subst h
    exact ⟨tch_hval new1, fun _ _ _ => by simp⟩
  · rename_i s sz b z l c
    cases s <;> simp only [SOp.touch, SOp.cls, show Nat.beq 2 0 = false from rfl, cond_false, reduceCtorEq, Option.some.injEq] at h
    subst h
    refine ⟨tch_hval ?_, fun _ _ _ => by simp⟩
    unfold aMakeSlice
    split
    · split
      · exact new1
      · trivial
    · trivial
  · exact ⟨tch_hval (tch_lookup (hax _ _ h)), fun _ _ _ => by simp⟩
  · exact ⟨tch_hval (tch_mupd (hax _ _ h)), fun _ _ _ => by simp⟩
  · exact ⟨tch_hval (tch_len (hax _ _ h)), fun _ _ _ => by simp⟩
  · rename_i s sz b x y
    cases s <;> simp only [SOp.touch, SOp.cls, show Nat.beq 2 0 = false from rfl, cond_false, reduceCtorEq] at h
    split at h
    · rename_i a b ha hb
      cases h
      exact ⟨tch_hval (tch_append (hax _ _ ha) (hax _ _ hb)), fun _ _ _ => by simp⟩
    · cases h
  · rename_i sz x y
    simp only [SOp.touch] at h
    split at h
    · rename_i a b ha hb
      cases h
      exact ⟨tch_hval (tch_copy (hax _ _ ha) (hax _ _ hb)), fun _ _ _ => by simp⟩
    · cases h
  · rename_i m x asx
    exfalso
    simp only [SOp.touch] at h
    have : Nat.beq (SOp.call m x asx).cls 0 = false := by cases m <;> rfl
    rw [this] at h; cases h
theorem touch_sound {s : SOper} {h h1 : Heap} {v : AV} {f : FP} {ts : List Nat} (hax : ∀ x bs, ax x = some bs → Pts (ev T x) bs) (ht : s.op.touch i ax = some ts) (hs : StepV P i s T h v h1 f) :
    f.all = false ∧ ∀ b, b ∈ f.R ∨ b ∈ f.W → b ∈ ts := by
  by_cases h0 : s.op.cls = 0
  · obtain ⟨k1, k2, k3⟩ := hs.cls (by omega)
    exact ⟨k1, fun b hb => by rw [k2, k3 h0] at hb; simp at hb⟩
  obtain ⟨t1, t2⟩ := touch_op hax ht h0
  have key : ∀ {s' : SOp}, s' = s.op → StepX P i s' T h v h1 f → f.all = false ∧ ∀ b, b ∈ f.R ∨ b ∈ f.W → b ∈ ts := by
    rintro s' rfl ⟨out, h2, hm, ho⟩
    have fin : f = fpOf ((aop i T s.op).fp h) → f.all = false ∧ ∀ b, b ∈ f.R ∨ b ∈ f.W → b ∈ ts := by
      rintro rfl; exact ⟨rfl, fun b hb => HM.tch_fp _ t1 h b hb⟩
    match out, ho with
    | .val u, ho => exact fin ho.2.2
    | .call .pure f' args, ho => exact fin ho.2.2
    | .call .borrow f' args, ho => exact fin ho.2.2.2
    | .call .heap f' args, ho =>
      exfalso
      cases hso : s.op with
      | call m x asx => exact t2 m x asx hso
      | _ =>
        rw [hso] at hm
        first
          | (obtain ⟨u, hu, he⟩ := run_lift hm; cases he)
          | (obtain ⟨u, h3, hu, he⟩ := run_hval hm; cases he)
          | (simp [aop, HM.run] at hm)
  unfold StepV at hs
  split at hs
  · exact key rfl hs
  · obtain ⟨t, _, hs⟩ := hs
    split at hs
    · exact key rfl hs
    · obtain ⟨_, _, rfl⟩ := hs; exact ⟨rfl, fun b hb => by simp at hb⟩
theorem Pts.slice {n : Option Nat} {x v : AV} {l h m : Option AV} {bs : List Nat} (hx : Pts x bs) (hv : aSliceC n x l h m = some v) : Pts v bs := by
  obtain ⟨cs, h1, h2⟩ := hx
  have key : aSlice x l h m = some v → Pts v bs := by
    intro hv
    unfold aSlice at hv
    have nil : ∀ {v : AV}, blks v = some [] → Pts v bs := fun h => ⟨[], h, fun b hb => by cases hb⟩
    split at hv
    · cases hv
    · split at hv
      · split at hv
        · split at hv
          · split at hv <;> first | (cases hv; exact nil rfl) | cases hv
          · cases hv
        · cases hv
      · cases hv
      · split at hv
        · split at hv
          · cases hv
          · split at hv
            · cases hv; exact ⟨cs, h1, h2⟩
            · cases hv
        · split at hv
          · cases hv
          · split at hv
            · cases hv; exact nil rfl
            · cases hv
        · split at hv
          · cases hv
          · split at hv
            · cases hv; exact nil rfl
            · cases hv
        · split at hv
          · cases hv
          · split at hv
            · cases hv; exact nil rfl
            · cases hv
        · split at hv
          · cases hv
          · split at hv
            · cases hv; exact nil rfl
            · cases hv
        · cases hv
  unfold aSliceC at hv
  split at hv <;> first | exact key hv | cases hv | (split at hv; exact key hv; cases hv)
theorem Pts.iaddr {a : Option Nat} {sz : Nat} {x j v : AV} {bs : List Nat} (hx : Pts x bs) (hv : aIAddr a sz x j = some v) : Pts v bs := by
  obtain ⟨cs, h1, h2⟩ := hx
  have nil : ∀ {v : AV}, blks v = some [] → Pts v bs := fun h => ⟨[], h, fun b hb => by cases hb⟩
  unfold aIAddr at hv
  split at hv
  · split at hv <;> first | (split at hv <;> first | (cases hv; first | exact ⟨cs, h1, h2⟩ | exact nil rfl) | cases hv) | cases hv
  · cases hv
theorem Pts.faddr {off : Nat} {x v : AV} {bs : List Nat} (hx : Pts x bs) (hv : aFAddr off x = some v) : Pts v bs := by
  obtain ⟨cs, h1, h2⟩ := hx
  have nil : ∀ {v : AV}, blks v = some [] → Pts v bs := fun h => ⟨[], h, fun b hb => by cases hb⟩
  unfold aFAddr at hv
  split at hv
  · cases hv; exact ⟨cs, h1, h2⟩
  · cases hv; exact nil rfl
  · cases hv
def HM.gives {α : Type} (R : α → Prop) : HM α → Prop
  | .ret a => R a
  | .fail => True
  | .look _ k => ∀ x, (k x).gives R
  | .put _ _ k => k.gives R
theorem HM.gives_run {α : Type} {R : α → Prop} (m : HM α) : m.gives R → ∀ h a h1, m.run h = some (a, h1) → R a := by
  induction m with
  | ret a => intro hr h b h1 hm; simp only [HM.run, Option.some.injEq, Prod.mk.injEq] at hm; rw [← hm.1]; exact hr
  | fail => intro _ h b h1 hm; simp [HM.run] at hm
  | look b k ih => intro hr h a h1 hm; exact ih _ (hr _) h a h1 hm
  | put b x k ih => intro hr h a h1 hm; exact ih hr _ a h1 (run_put hm).2
theorem gives_cells {α : Type} {R : α → Prop} {b g : Nat} {k : List AV → HM α} (hk : ∀ cs, (k cs).gives R) : (HM.cells b g k).gives R := by
  intro x
  match x with
  | some (.cells g' cs) =>
    simp only
    cases Nat.beq g' g <;> first | exact trivial | exact hk cs
  | some (.map _ _) => trivial
  | some (.dead _) => trivial
  | none => trivial
theorem gives_new {α : Type} {R : α → Prop} {i : Nat} {x : Nat → Blk} {k : Nat → Nat → HM α} (hk : (k i 0).gives R) : (HM.new .dyn i x k).gives R := by
  intro y
  match y with
  | none => exact hk
  | some z => trivial
theorem gives_src {R : AV → Prop} {sz : Nat} {v : AV} {k : List AV → Nat → HM AV} (hk : ∀ ys n, (k ys n).gives R) : (aSrc sz v k).gives R := by
  unfold aSrc
  split
  · split
    · refine gives_cells fun cs => ?_
      split
      · exact hk _ _
      · trivial
    · trivial
  · split
    · exact hk _ _
    · trivial
  · exact hk _ _
  · exact hk _ _
  · split
    · exact hk _ _
    · trivial
  · trivial
theorem gives_append {sz bytes : Nat} {x y : AV} {a : List Nat} (hx : Pts x a) : (aAppend .dyn i sz bytes x y).gives fun v => Pts v (i :: a) := by
  have nil : ∀ {v : AV}, blks v = some [] → Pts v (i :: a) := fun h => ⟨[], h, fun b hb => by cases hb⟩
  unfold aAppend
  refine gives_src fun ys n => ?_
  split
  · obtain ⟨cs, h1, h2⟩ := hx
    split
    · split
      · exact nil rfl
      · exact gives_new ⟨_, rfl, fun b hb => by simp at hb; simp [hb]⟩
    · split
      · exact nil rfl
      · exact gives_new ⟨_, rfl, fun b hb => by simp at hb; simp [hb]⟩
    · split
      · exact nil rfl
      · trivial
    · simp only [blks, Option.some.injEq] at h1
      subst h1
      split
      · refine gives_cells fun cs => ?_
        split
        · exact ⟨_, rfl, fun b hb => List.mem_cons_of_mem _ (h2 b hb)⟩
        · trivial
      · trivial
    · trivial
  · trivial
theorem absV_sound {s : SOper} {h h1 : Heap} {v : AV} {f : FP} {bs : List Nat} (hax : ∀ x bs, ax x = some bs → Pts (ev T x) bs) (ht : s.op.absV i ax = some bs) (hs : StepV P i s T h v h1 f) : Pts v bs := by
  have self : ∀ {v : AV}, blks v = some [i] → Pts v [i] := fun h => ⟨_, h, fun b hb => hb⟩
  have key : ∀ {s' : SOp}, s'.absV i ax = some bs → StepX P i s' T h v h1 f → Pts v bs := by
    rintro s' ht ⟨out, h2, hm, ho⟩
    have hv : ∀ {m : HM AV}, aop i T s' = hval m → (m.gives fun v => Pts v bs) → Pts v bs := by
      intro m e hg
      rw [e] at hm
      obtain ⟨u, h3, hu, he⟩ := run_hval hm
      cases he
      rw [ho.1]
      exact HM.gives_run _ hg _ _ _ hu
    have hl : ∀ {o : Option AV}, aop i T s' = lift o → (∀ u, o = some u → Pts u bs) → Pts v bs := by
      intro o e hg
      rw [e] at hm
      obtain ⟨u, hu, he⟩ := run_lift hm
      cases he
      rw [ho.1]
      exact hg _ hu
    cases s' <;> try (simp only [SOp.absV, reduceCtorEq] at ht; done)
    · simp only [aop, HM.run, Option.some.injEq, Prod.mk.injEq] at hm
      obtain ⟨rfl, rfl⟩ := hm
      rw [ho.1]; exact hax _ _ ht
    · rename_i s z
      cases s <;> simp only [SOp.absV, reduceCtorEq, Option.some.injEq] at ht
      subst ht
      refine hv rfl ?_
      unfold aBox; split
      · exact gives_new (self rfl)
      · trivial
    · rename_i s z
      cases s <;> simp only [SOp.absV, reduceCtorEq, Option.some.injEq] at ht
      subst ht
      refine hv rfl ?_
      unfold aBox; split
      · exact gives_new (self rfl)
      · trivial
    · rename_i fz s sz len z ps
      cases fz <;> cases s <;> simp only [SOp.absV, reduceCtorEq, Option.some.injEq] at ht
      subst ht
      refine hv rfl ?_
      unfold aBuildSlice
      split
      · split
        · rw [if_neg (by simp)]; exact gives_new (self rfl)
        · trivial
      · trivial
    · rename_i s
      cases s <;> simp only [SOp.absV, reduceCtorEq, Option.some.injEq] at ht
      subst ht
      exact hv rfl (gives_new (self rfl))
    · rename_i s sz b z l c
      cases s <;> simp only [SOp.absV, reduceCtorEq, Option.some.injEq] at ht
      subst ht
      refine hv rfl ?_
      unfold aMakeSlice
      split
      · split
        · exact gives_new (self rfl)
        · trivial
      · trivial
    · exact hl rfl fun u hu => (hax _ _ ht).slice hu
    · exact hl rfl fun u hu => (hax _ _ ht).faddr hu
    · exact hl rfl fun u hu => (hax _ _ ht).iaddr hu
    · rename_i s sz b x y
      cases s <;> simp only [SOp.absV, reduceCtorEq, Option.map_eq_some_iff] at ht
      obtain ⟨a, ha, rfl⟩ := ht
      exact hv rfl (gives_append (hax _ _ ha))
  unfold StepV at hs
  split at hs
  · exact key ht hs
  · obtain ⟨t, _, hs⟩ := hs
    split at hs
    · exact key ht hs
    · obtain ⟨rfl, _⟩ := hs; exact ⟨[], rfl, fun b hb => by cases hb⟩
end
def AbsOK (T0 : Tmps) (A : Abs) (T : Tmps) : Prop := ∀ j bs, absT T0 A j = some bs → Pts (lk T j) bs
theorem AbsOK.opd {T0 T : Tmps} {A : Abs} (h : AbsOK T0 A T) : ∀ x bs, absO T0 A x = some bs → Pts (ev T x) bs := by
  intro x bs hx
  cases x with
  | t i => exact h i bs hx
  | c v => exact ⟨bs, hx, fun b hb => hb⟩
  | f n => cases hx
  | g n => cases hx
theorem AbsOK.nil {T : Tmps} : AbsOK T [] T := fun j bs h => ⟨bs, h, fun b hb => hb⟩
theorem AbsOK.up {T0 T : Tmps} {A : Abs} {d : Nat} {v : AV} {a : Option (List Nat)} (h : AbsOK T0 A T) (hv : ∀ bs, a = some bs → Pts v bs) : AbsOK T0 ((d, a) :: A) (up T d v) := by
  intro j bs hj
  rw [lk_up]
  simp only [absT] at hj
  by_cases e : d = j
  · subst e
    have e1 : Nat.beq d d = true := by simp
    rw [e1] at hj
    rw [if_pos rfl]
    exact hv bs hj
  · have : Nat.beq d j = false := by rw [Bool.eq_false_iff]; simpa using e
    rw [this] at hj
    rw [if_neg (fun h => e h.symm)]
    exact h j bs hj
theorem wpRF_of {T0 : Tmps} : ∀ {r : List SOper} {n : Nat} {A : Abs} {T : Tmps} {h : Heap} {K : Tmps → Heap → Nat → Prop} (hA : AbsOK T0 A T) (K' : List FP → Tmps → Heap → Nat → Prop),
    (∀ fs T h n', fs.length = r.length → (∀ (j : Nat) ts, (touches n T0 r A).getD j none = some ts → (fs.getD j ⟨false, [], []⟩).all = false ∧ ∀ b, b ∈ (fs.getD j ⟨false, [], []⟩).R ∨ b ∈ (fs.getD j ⟨false, [], []⟩).W → b ∈ ts) → K T h n' → K' fs T h n') →
    wpR P n r T h K → wpRF P n r T h K'
  | [], n, A, T, h, K, hA, K', hK, hw => hK [] T h n rfl (fun j ts hj => by simp [touches] at hj) hw
  | s :: r, n, A, T, h, K, hA, K', hK, hw => by
    obtain ⟨v, h1, f, hs, hr⟩ := hw
    refine ⟨v, h1, f, hs, ?_⟩
    have hA2 : AbsOK T0 (match s.dst with | some d => (d, s.op.absV n (absO T0 A)) :: A | none => A) (putD T s.dst v) := by
      cases s.dst with
      | none => exact hA
      | some d => exact AbsOK.up hA fun bs hb => absV_sound hA.opd hb hs
    refine wpRF_of hA2 (fun fs T h n => K' (f :: fs) T h n) (fun fs T h n' hl hf hk => ?_) hr
    refine hK (f :: fs) T h n' (by simp [hl]) (fun j ts hj => ?_) hk
    cases j with
    | zero =>
      simp only [touches, List.getD_cons_zero] at hj ⊢
      exact touch_sound hA.opd hj hs
    | succ j =>
      simp only [touches, List.getD_cons_succ] at hj ⊢
      exact hf j ts hj
inductive PairsOK (n : Nat) (T : Tmps) (ops : List SOper) (ps : List (Nat × Nat)) : Prop
  | mk (h : pairsOK (touches n T ops []) ps = true)
theorem wS_regionP {N : NM} {ops : List SOper} {p : Nat × Nat} {ps : List (Nat × Nat)} {dead : List Nat} {fs : List Fr} {n : Nat} {T : Tmps} {h : Heap} {Q : QC} (hp : PairsOK n T ops (p :: ps)) :
    wS P N (.region ops (p :: ps) dead) fs n T h Q = wR P N ops dead fs n T h Q := by
  obtain ⟨hp⟩ := hp
  apply propext; constructor
  · intro hw
    have : ∀ {r : List SOper} {n : Nat} {T : Tmps} {h : Heap} {K : List FP → Tmps → Heap → Nat → Prop} {K' : Tmps → Heap → Nat → Prop}, (∀ fs T h n, K fs T h n → K' T h n) → wpRF P n r T h K → wpR P n r T h K' := by
      intro r
      induction r with
      | nil => intro n T h K K' hK hw; exact hK _ _ _ _ hw
      | cons s r ih =>
        rintro n T h K K' hK ⟨v, h1, f, hs, hr⟩
        exact ⟨v, h1, f, hs, ih (fun fs T h n hk => hK _ _ _ _ hk) hr⟩
    exact this (fun fs' T h n hk => hk.2) hw
  · intro hw
    refine wpRF_of AbsOK.nil _ (fun fs' T h n' hl hf hk => ⟨?_, hk⟩) hw
    rw [List.all_eq_true]
    intro q hq
    have := List.all_eq_true.1 hp q hq
    split at this
    · rename_i a b ha hb
      obtain ⟨f1, f2⟩ := hf _ _ ha
      obtain ⟨g1, g2⟩ := hf _ _ hb
      have hd : ∀ x y, x ∈ a → y ∈ b → x ≠ y := by
        rintro x y hx hy rfl
        have := List.all_eq_true.1 this x hx
        simp [hy] at this
      have dj : ∀ xs ys : List Nat, (∀ x ∈ xs, ∀ y ∈ ys, x ≠ y) → disj xs ys = true := by
        intro xs ys hh
        unfold disj
        rw [List.all_eq_true]
        intro x hx
        simp only [Bool.not_eq_true', List.contains_eq_mem, decide_eq_false_iff_not]
        intro hy
        exact hh x hx x hy rfl
      unfold FP.apart
      rw [f1, g1]
      simp only [Bool.and_eq_true]
      refine ⟨⟨dj _ _ fun x hx y hy => ?_, dj _ _ fun x hx y hy => ?_⟩, dj _ _ fun x hx y hy => ?_⟩
      · first | exact hd x y (f2 x (.inr hx)) (g2 y (.inl hy)) | exact fun e => hd y x (f2 y (.inl hy)) (g2 x (.inr hx)) e.symm
      · first | exact hd x y (f2 x (.inr hx)) (g2 y (.inr hy)) | exact fun e => hd y x (f2 y (.inr hy)) (g2 x (.inr hx)) e.symm
      · first | exact fun e => hd y x (f2 y (.inl hy)) (g2 x (.inr hx)) e.symm | exact fun e => hd y x (f2 y (.inr hy)) (g2 x (.inl hx)) e.symm | exact hd x y (f2 x (.inl hx)) (g2 y (.inr hy))
    · cases this
theorem FrzL.nil {h : Heap} : FrzL h [] [] := trivial
theorem FrzL.cons {h : Heap} {x y : AV} {xs ys : List AV} (h1 : FrzTo h x y) (h2 : FrzL h xs ys) : FrzL h (x :: xs) (y :: ys) := ⟨h1, h2⟩
end Go.AM
set_option linter.unusedSimpArgs false
set_option linter.unusedVariables false
namespace Go.AM
variable {P : Program}
theorem Rec.one {h : Heap} {v u : AV} {b k g : Nat} {cs ds : List AV} (hb : b < 1099511627775) (hk : h.get k = some (.cells g ds)) (hc : RnL 0 (ow 0 [(b, .blk k g)]) h cs ds) (hv : Rn 0 (ow 0 [(b, .blk k g)]) h v u) :
    Rec 0 [(0, v)] [(b, .cells 0 cs)] [(0, u)] h := by
  refine ⟨[(b, .blk k g)], ?_, RO.zero, RB.cells rfl ?_ hk hc RB.nil, RT.cons' rfl hv RT.nil⟩
  · simp [okPs, Nat.blt, srcNew]; omega
  · simp [ow, lkS]
end Go.AM
namespace Go.AM.SN
open Go.Proofs
set_option maxRecDepth 100000
set_option linter.unusedSimpArgs false
set_option linter.unusedVariables false
abbrev big : Nat := 4611686018427387904
theorem gcd65 (a b : Int) (ha : a.natAbs ≤ big) (hb : b.natAbs ≤ big) : PSpec Try.prog 65 [.int .i64 a, .int .i64 b] (.int .i64 (Int.gcd a b : Nat)) := by
  refine PSpec.of_rn 64 SJ.ok65 rfl rfl rfl ?_
  simp (maxSteps := 1000000) (disch := first | omega | exact PairsOK.mk rfl | (simp only [lenW] <;> omega)) only [SJ.s65, wordsN, Int.reduceGT, wordsR, ne_eq, wS_regionP, aAppend_slF, words, Nat.reduceAdd, Nat.reduceEqDiff, Nat.reduceBEq, ↓reduceIte, reduceCtorEq, SX.exit.injEq, if_true, if_false, Int.reduceAdd, Int.reduceSub, Int.reduceMul, Int.reduceLT, Int.reduceLE, Int.reduceEq, Int.reduceNe, Int.reduceNeg, Int.reduceToNat, Nat.reduceMul, Nat.reduceLT, Nat.reduceSub, Nat.reduceLeDiff]
  refine wS_loopR 100 (fun q : Int × Int => [(0, .int .i64 q.1), (1, .int .i64 q.2)]) (fun _ => []) (fun q => q.1.natAbs ≤ big ∧ q.2.natAbs ≤ big ∧ Int.gcd q.1 q.2 = Int.gcd a b) (fun q => q.2.natAbs) (a, b) ⟨[], rfl, au0, au5, au4⟩ ⟨ha, hb, rfl⟩ ?_
  rintro ⟨x, y⟩ ⟨h1, h2, h3⟩
  dsimp only at h1 h2 h3
  by_cases h0 : y = 0
  · subst h0
    have h4 : (if x < 0 - x then 0 - x else x) = ((Int.gcd a b : Nat) : Int) := by
      rw [← h3, Int.gcd_zero_right]
      split <;> omega
    have hx : -9223372036854775808 ≤ 0 - x ∧ 0 - x ≤ 9223372036854775807 := by unfold big at h1; omega
    simp (maxSteps := 1000000) (disch := first | omega | exact PairsOK.mk rfl | (simp only [lenW] <;> omega)) only [aMax, wordsN, Int.reduceGT, wordsR, ne_eq, wS_regionP, aAppend_slF, words, Nat.reduceAdd, Nat.reduceEqDiff, Nat.reduceBEq, ↓reduceIte, reduceCtorEq, SX.exit.injEq, if_true, if_false, Int.reduceAdd, Int.reduceSub, Int.reduceMul, Int.reduceLT, Int.reduceLE, Int.reduceEq, Int.reduceNe, Int.reduceNeg, Int.reduceToNat, Nat.reduceMul, Nat.reduceLT, Nat.reduceSub, Nat.reduceLeDiff]
    rw [h4]
    exact ⟨.inr trivial, _, rfl, Rn.same rfl⟩
  · have hn : (x.tmod y).natAbs = x.natAbs % y.natAbs := Int.natAbs_tmod ..
    have hlt : x.natAbs % y.natAbs < y.natAbs := Nat.mod_lt _ (by omega)
    have hbd : -9223372036854775808 ≤ x.tmod y ∧ x.tmod y ≤ 9223372036854775807 := by unfold big at h2; omega
    simp (maxSteps := 1000000) (disch := first | omega | exact PairsOK.mk rfl | (simp only [lenW] <;> omega)) only [h0, wordsN, Int.reduceGT, wordsR, ne_eq, wS_regionP, aAppend_slF, words, Nat.reduceAdd, Nat.reduceEqDiff, Nat.reduceBEq, ↓reduceIte, reduceCtorEq, SX.exit.injEq, if_true, if_false, Int.reduceAdd, Int.reduceSub, Int.reduceMul, Int.reduceLT, Int.reduceLE, Int.reduceEq, Int.reduceNe, Int.reduceNeg, Int.reduceToNat, Nat.reduceMul, Nat.reduceLT, Nat.reduceSub, Nat.reduceLeDiff]
    refine ⟨(y, x.tmod y), by dsimp only; omega, ⟨h2, by dsimp only; omega, ?_⟩, ⟨[], rfl, au0, au5, au4⟩⟩
    dsimp only
    rw [← h3]
    show Nat.gcd y.natAbs (x.tmod y).natAbs = Nat.gcd x.natAbs y.natAbs
    rw [hn, Nat.gcd_comm, ← Nat.gcd_rec, Nat.gcd_comm]
set_option maxHeartbeats 4000000 in
theorem reduced64 (r : List Int) (hl : r.length ≤ 1000) (hb : ∀ x ∈ r, x.natAbs ≤ big) : PSpec Try.prog 64 [sli r] (sli (redR r)) := by
  refine PSpec.of_rn 64 SJ.ok64 rfl (by simp only [noRefs, noRef, noRefs_ints]; rfl) (noRef_sli _) ?_
  have hones : (ints r).all AV.one = true := by rw [ints, List.all_map]; simp [AV.one]
  have hgl : ∀ i, kgcd (r.take i) ≤ big := by
    intro i
    by_cases h0 : kgcd (r.take i) = 0
    · rw [h0]; decide
    · have : ∃ x ∈ r.take i, x ≠ 0 := by
        by_cases hex : ∃ x ∈ r.take i, x ≠ 0
        · exact hex
        · exfalso; apply h0
          have : ∀ l : List Int, (∀ x ∈ l, x = 0) → kgcd l = 0 := by
            intro l hl
            unfold kgcd
            have : ∀ (l : List Int), (∀ x ∈ l, x = 0) → l.foldl (fun g x => Nat.gcd g x.natAbs) 0 = 0 := by
              intro l
              induction l with
              | nil => intro _; rfl
              | cons a l ih =>
                intro h
                rw [List.foldl_cons, h a (by simp)]
                exact ih fun x hx => h x (by simp [hx])
            exact this l hl
          exact this _ fun x hx => by
            by_cases e : x = 0
            · exact e
            · exact absurd ⟨x, hx, e⟩ hex
      obtain ⟨x, hx, hne⟩ := this
      obtain ⟨j, hj, hjl⟩ := mem_at hx
      have h1 := kgcd_dvd (fun c => (r.take i).getD c 0) (r.take i).length j hjl
      rw [← kgcd_list] at h1
      have h2 : (r.take i).getD j 0 = x := by rw [List.getD_eq_getElem?_getD, hj]; rfl
      rw [h2] at h1
      have h3 := Nat.le_of_dvd (by omega) (Int.ofNat_dvd_left.1 h1)
      exact Nat.le_trans h3 (hb x (List.mem_of_mem_take hx))
  have hgs : ∀ i x, r[i]? = some x → kgcd (r.take (i + 1)) = Nat.gcd (kgcd (r.take i)) x.natAbs := fun i x h => by
    unfold kgcd; rw [List.take_add_one, List.foldl_append, h]; rfl
  simp (maxSteps := 1000000) (disch := first | omega | exact PairsOK.mk rfl | (simp only [lenW] <;> omega)) only [SJ.s64, wordsN, Int.reduceGT, wordsR, ne_eq, wS_regionP, aAppend_slF, words, Nat.reduceAdd, Nat.reduceEqDiff, Nat.reduceBEq, ↓reduceIte, reduceCtorEq, SX.exit.injEq, if_true, if_false, Int.reduceAdd, Int.reduceSub, Int.reduceMul, Int.reduceLT, Int.reduceLE, Int.reduceEq, Int.reduceNe, Int.reduceNeg, Int.reduceToNat, Nat.reduceMul, Nat.reduceLT, Nat.reduceSub, Nat.reduceLeDiff]
  refine wS_loopX 100 (fun i : Nat => [(0, sli r), (3, .int .i64 (kgcd (r.take i) : Nat)), (4, .int .i64 i)]) (fun _ => []) (fun i => i ≤ r.length) (fun i => r.length - i) 0 0 200 (fun _ : Unit => [(0, sli r), (3, .int .i64 (kgcd r : Nat))]) (fun _ => []) (fun _ => True) ⟨[], rfl, au0, au5, au4⟩ (Nat.zero_le _) ?_ ?_
  · intro i hi
    by_cases hlt : i < r.length
    · obtain ⟨x, hx⟩ := get_ex hlt
      have hg := gcd65 (kgcd (r.take i) : Nat) x (by have := hgl i; omega) (hb x (List.mem_of_getElem? hx))
      have e : Int.gcd ((kgcd (r.take i) : Nat) : Int) x = kgcd (r.take (i + 1)) := by rw [hgs i x hx]; rfl
      rw [e] at hg
      simp (maxSteps := 1000000) (disch := first | omega | exact PairsOK.mk rfl | (simp only [lenW] <;> omega)) only [hlt, head_ints hx, wordsN, Int.reduceGT, wordsR, ne_eq, wS_regionP, aAppend_slF, words, Nat.reduceAdd, Nat.reduceEqDiff, Nat.reduceBEq, ↓reduceIte, reduceCtorEq, SX.exit.injEq, if_true, if_false, Int.reduceAdd, Int.reduceSub, Int.reduceMul, Int.reduceLT, Int.reduceLE, Int.reduceEq, Int.reduceNe, Int.reduceNeg, Int.reduceToNat, Nat.reduceMul, Nat.reduceLT, Nat.reduceSub, Nat.reduceLeDiff]
      refine cp hg ?_
      simp (maxSteps := 1000000) (disch := first | omega | exact PairsOK.mk rfl | (simp only [lenW] <;> omega)) only [wordsN, Int.reduceGT, wordsR, ne_eq, wS_regionP, aAppend_slF, words, Nat.reduceAdd, Nat.reduceEqDiff, Nat.reduceBEq, ↓reduceIte, reduceCtorEq, SX.exit.injEq, if_true, if_false, Int.reduceAdd, Int.reduceSub, Int.reduceMul, Int.reduceLT, Int.reduceLE, Int.reduceEq, Int.reduceNe, Int.reduceNeg, Int.reduceToNat, Nat.reduceMul, Nat.reduceLT, Nat.reduceSub, Nat.reduceLeDiff]
      exact ⟨i + 1, by omega, by omega, ⟨[], rfl, au0, au5, au4⟩⟩
    · have e : i = r.length := by omega
      simp (maxSteps := 1000000) (disch := first | omega | exact PairsOK.mk rfl | (simp only [lenW] <;> omega)) only [hlt, wordsN, Int.reduceGT, wordsR, ne_eq, wS_regionP, aAppend_slF, words, Nat.reduceAdd, Nat.reduceEqDiff, Nat.reduceBEq, ↓reduceIte, reduceCtorEq, SX.exit.injEq, if_true, if_false, Int.reduceAdd, Int.reduceSub, Int.reduceMul, Int.reduceLT, Int.reduceLE, Int.reduceEq, Int.reduceNe, Int.reduceNeg, Int.reduceToNat, Nat.reduceMul, Nat.reduceLT, Nat.reduceSub, Nat.reduceLeDiff]
      exact ⟨(), by rw [e, List.take_length]; exact ⟨[], rfl, au0, au5, au4⟩⟩
  rintro _ -
  have hgr := hgl r.length
  rw [List.take_length] at hgr
  have hrl := redR_len r
  have hir : ∀ l : List Int, ints l = rowF l.length (fun c => l.getD c 0) := fun l => by
    unfold rowF; congr 1
    refine List.ext_getElem? fun j => ?_
    by_cases hj : j < l.length
    · simp [List.getElem?_range hj, List.getD_eq_getElem?_getD, hj]
    · simp [List.getElem?_eq_none (show (List.range l.length).length ≤ j by simp; omega), hj]
  simp (maxSteps := 1000000) (disch := first | omega | exact PairsOK.mk rfl | (simp only [lenW] <;> omega)) only [hones, ints_len, wordsN, Int.reduceGT, wordsR, ne_eq, wS_regionP, aAppend_slF, words, Nat.reduceAdd, Nat.reduceEqDiff, Nat.reduceBEq, ↓reduceIte, reduceCtorEq, SX.exit.injEq, if_true, if_false, Int.reduceAdd, Int.reduceSub, Int.reduceMul, Int.reduceLT, Int.reduceLE, Int.reduceEq, Int.reduceNe, Int.reduceNeg, Int.reduceToNat, Nat.reduceMul, Nat.reduceLT, Nat.reduceSub, Nat.reduceLeDiff]
  refine wS_loopX 300 (fun i : Nat => [(0, sli r), (3, .int .i64 (kgcd r : Nat)), (5, .sl 50 0 0 r.length 1), (6, .int .i64 i)]) (fun i => [(50, .cells 0 (rowF r.length fun c => if c < i then (r.getD c 0).tdiv (kgcd r : Nat) else r.getD c 0))]) (fun i => i ≤ r.length ∧ (1 < kgcd r ∨ i = 0)) (fun i => r.length - i) 0 2 400
    (fun _ : Unit => [(5, sli (redR r))]) (fun _ => []) (fun _ => True) ?_ ⟨Nat.zero_le _, .inr rfl⟩ ?_ ?_
  · refine ⟨[(50, .blk 200 1)], rfl, au0, ?_, au4⟩
    refine RB.cells rfl rfl rfl (RnL.eq (by rw [hir r]; exact rowF_congr fun c _ => by rw [if_neg (Nat.not_lt_zero _)]) (noRefs_ints _)) RB.nil
  · rintro i ⟨hi, hg⟩
    have hfin : (i = r.length ∨ kgcd r ≤ 1) → ints (redR r) = rowF r.length fun c => if c < i then (r.getD c 0).tdiv (kgcd r : Nat) else r.getD c 0 := fun hh => by
      rw [hir, hrl]
      refine rowF_congr fun c hc => ?_
      unfold redR
      by_cases h1 : 1 < kgcd r
      · rw [if_pos h1, getD_map_tdiv, if_pos (by omega)]
      · rw [if_neg h1, if_neg (by omega)]
    have hex : (i = r.length ∨ kgcd r ≤ 1) → Rn 0 (ow 0 []) ((Tr.e (α := Blk)).set 50 (.cells 0 (rowF r.length fun c => if c < i then (r.getD c 0).tdiv (kgcd r : Nat) else r.getD c 0))) (sli (redR r)) (.sl 50 0 0 r.length 1) := fun hh => by
      show Rn 0 _ _ (.fsl (ints (redR r)) (redR r).length 1) _
      refine Rn.fzm rfl rfl rfl hrl (by rw [rowF_len, Nat.mul_one]) (RnL.eq (hfin hh) (noRefs_ints _))
    by_cases hlt : i < r.length
    · by_cases h1 : 1 < kgcd r
      · have h1' : (1 : Int) < (kgcd r : Nat) := by omega
        have h0' : ¬ ((kgcd r : Nat) : Int) = 0 := by omega
        obtain ⟨x, hx⟩ := get_ex hlt
        have hxb := hb x (List.mem_of_getElem? hx)
        have hxD : r.getD i 0 = x := by rw [List.getD_eq_getElem?_getD, hx]; rfl
        have hd : (x.tdiv (kgcd r : Nat)).natAbs ≤ x.natAbs := by rw [Int.natAbs_tdiv]; exact Nat.div_le_self _ _
        have hdb : -9223372036854775808 ≤ x.tdiv (kgcd r : Nat) ∧ x.tdiv (kgcd r : Nat) ≤ 9223372036854775807 := by unfold big at hxb; omega
        have hset : ∀ v, (rowF r.length fun c => if c < i then (r.getD c 0).tdiv (kgcd r : Nat) else r.getD c 0).set i (.int .i64 v) = rowF r.length (fun c => if c = i then v else if c < i then (r.getD c 0).tdiv (kgcd r : Nat) else r.getD c 0) := fun v => rowF_set _ v
        have hi1 : i + 1 ≤ r.length := hlt
        simp (maxSteps := 1000000) (disch := first | omega | exact PairsOK.mk rfl | (simp only [lenW] <;> omega)) only [hlt, head_ints hx, h1', h0', hset, rowF_len, hi1, wordsN, Int.reduceGT, wordsR, ne_eq, wS_regionP, aAppend_slF, words, Nat.reduceAdd, Nat.reduceEqDiff, Nat.reduceBEq, ↓reduceIte, reduceCtorEq, SX.exit.injEq, if_true, if_false, Int.reduceAdd, Int.reduceSub, Int.reduceMul, Int.reduceLT, Int.reduceLE, Int.reduceEq, Int.reduceNe, Int.reduceNeg, Int.reduceToNat, Nat.reduceMul, Nat.reduceLT, Nat.reduceSub, Nat.reduceLeDiff]
        refine ⟨i + 1, by omega, ⟨by omega, .inl h1⟩, ?_⟩
        refine ⟨[(50, .blk 50 0)], rfl, au0, ?_, au4⟩
        refine RB.cells rfl rfl rfl (RnL.eq (rowF_congr fun c _ => ?_) (noRefs_rowF _ _)) RB.nil
        by_cases e : c = i
        · subst e; rw [if_pos (Nat.lt_succ_self _), if_pos rfl, hxD]
        · by_cases e2 : c < i
          · rw [if_pos (by omega), if_neg e, if_pos e2]
          · rw [if_neg (by omega), if_neg e, if_neg e2]
      · have h1' : ¬ (1 : Int) < (kgcd r : Nat) := by omega
        simp (maxSteps := 1000000) (disch := first | omega | exact PairsOK.mk rfl | (simp only [lenW] <;> omega)) only [hlt, h1', wordsN, Int.reduceGT, wordsR, ne_eq, wS_regionP, aAppend_slF, words, Nat.reduceAdd, Nat.reduceEqDiff, Nat.reduceBEq, ↓reduceIte, reduceCtorEq, SX.exit.injEq, if_true, if_false, Int.reduceAdd, Int.reduceSub, Int.reduceMul, Int.reduceLT, Int.reduceLE, Int.reduceEq, Int.reduceNe, Int.reduceNeg, Int.reduceToNat, Nat.reduceMul, Nat.reduceLT, Nat.reduceSub, Nat.reduceLeDiff]
        exact ⟨(), ⟨[], rfl, RO.zero, trivial, RT.cons' rfl (hex (.inr (by omega))) RT.nil⟩⟩
    · simp (maxSteps := 1000000) (disch := first | omega | exact PairsOK.mk rfl | (simp only [lenW] <;> omega)) only [hlt, wordsN, Int.reduceGT, wordsR, ne_eq, wS_regionP, aAppend_slF, words, Nat.reduceAdd, Nat.reduceEqDiff, Nat.reduceBEq, ↓reduceIte, reduceCtorEq, SX.exit.injEq, if_true, if_false, Int.reduceAdd, Int.reduceSub, Int.reduceMul, Int.reduceLT, Int.reduceLE, Int.reduceEq, Int.reduceNe, Int.reduceNeg, Int.reduceToNat, Nat.reduceMul, Nat.reduceLT, Nat.reduceSub, Nat.reduceLeDiff]
      exact ⟨(), ⟨[], rfl, RO.zero, trivial, RT.cons' rfl (hex (.inl (by omega))) RT.nil⟩⟩
  rintro _ -
  simp (maxSteps := 1000000) (disch := first | omega | exact PairsOK.mk rfl | (simp only [lenW] <;> omega)) only [wordsN, Int.reduceGT, wordsR, ne_eq, wS_regionP, aAppend_slF, words, Nat.reduceAdd, Nat.reduceEqDiff, Nat.reduceBEq, ↓reduceIte, reduceCtorEq, SX.exit.injEq, if_true, if_false, Int.reduceAdd, Int.reduceSub, Int.reduceMul, Int.reduceLT, Int.reduceLE, Int.reduceEq, Int.reduceNe, Int.reduceNeg, Int.reduceToNat, Nat.reduceMul, Nat.reduceLT, Nat.reduceSub, Nat.reduceLeDiff]
  exact ⟨.inr trivial, _, rfl, Rn.same (noRef_sli _)⟩
end Go.AM.SN
