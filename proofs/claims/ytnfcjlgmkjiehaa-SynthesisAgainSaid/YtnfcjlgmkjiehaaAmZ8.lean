/- A part of the proof of SynthesisAgainSaid: lemmas on the way (AmEf, AmEg, AmDk, AmTh, AmEh, AmEi, AmEj, AmEk, AmDy, AmEl, AmEm, AmEn, AmEo, AmEp, AmEr, AmEs, AmEq, AmEt, AmEu, AmEv). Conditions: none of ours. -/
import Derived.Test.YtnfcjlgmkjiehaaProg
import Derived.KernelRfl
import Derived.Test.YtnfcjlgmkjiehaaAmZ7
set_option linter.unusedSectionVars false
namespace Go.AM.SE
open Go.Proofs Go.AM.SD
set_option maxRecDepth 100000
set_option linter.unusedSimpArgs false
set_option linter.unusedVariables false
def bkC (rank : Int) (x : Nat) : List AV := [.int .i64 (x : Int), .int .i64 rank, .int .i64 3, .int .i64 (-1)]
theorem noRefs_bk (rank : Int) (l : List Nat) : noRefs (l.flatMap (bkC rank)) = true := noRefs_flat (fun x => rfl) l
def lsC (rank : Int) (p : Nat × Nat) : List AV := [.int .i64 (p.1 : Int), .int .i64 rank, .int .i64 2, .int .i64 (p.2 : Int)]
theorem noRefs_ls (rank : Int) (l : List (Nat × Nat)) : noRefs (l.flatMap (lsC rank)) = true := noRefs_flat (fun x => rfl) l
theorem ls_rm (rank : Int) (l : List (Nat × Nat)) : l.flatMap (lsC rank) = (lostF rank l).flatMap rmC := by
  unfold lostF; rw [List.flatMap_map]; rfl
theorem ls_len (rank : Int) (l : List (Nat × Nat)) : (l.flatMap (lsC rank)).length = l.length * 4 := flat_len (f := lsC rank) (k := 4) (fun _ => rfl) l
theorem get_ls {rank : Int} {l : List (Nat × Nat)} {i : Nat} {p : Nat × Nat} (h : l[i]? = some p) : (l.flatMap (lsC rank))[i * 4]? = some (.int .i64 (p.1 : Int)) := by
  have := drop_flat (f := lsC rank) (k := 4) (fun _ => rfl) h
  have h2 : ((l.flatMap (lsC rank)).drop (i * 4))[0]? = some (.int .i64 (p.1 : Int)) := by rw [this]; rfl
  simpa using h2
theorem pLost_take {es : List Ed} {left : Nat → Bool} {unc : List Nat} {i : Nat} {e : Ed} (h : es[i]? = some e) : pLost (es.take (i + 1)) left unc = pLs left unc (pLost (es.take i) left unc) e := by
  unfold pLost
  rw [List.take_add_one, h, Option.toList, List.foldl_append]; rfl
theorem pLost_len (es : List Ed) (left : Nat → Bool) (unc : List Nat) : (pLost es left unc).length ≤ es.length := by
  have key : ∀ (es : List Ed) (o : List (Nat × Nat)), (es.foldl (pLs left unc) o).length ≤ o.length + es.length := by
    intro es
    induction es with
    | nil => intro o; simp
    | cons e es ih =>
      intro o
      rw [List.foldl_cons]
      refine Nat.le_trans (ih _) ?_
      unfold pLs
      (repeat' split) <;> (try simp) <;> (try omega)
  have := key es []
  unfold pLost
  simpa using this
theorem _root_.Go.AM.au5 {p : Prop} (h : p := by repeat' (first | exact RB.nil | (refine RnL.same ?_; first | rfl | (simp only [noRef, noRefs, noRefs_append, Bool.and_self, Bool.and_true, Bool.true_and, noRefs_ints, noRefs_eg, noRefs_ed, noRefs_rm, noRefs_ls, noRefs_bk, noRefs_bls, noRef_sli, noRef_sliN, noRef_egs, noRef_egsN, noRefs_keysI, noRefs_back]; done)) | exact RnM.keyM rfl | exact RnL.nil | exact (True.intro : RnM _ _ _ [] []) | refine RnL.cons ?_ ?_ | (refine Rn.same ?_; first | rfl | (simp only [noRef, noRefs, noRefs_append, Bool.and_self, Bool.and_true, Bool.true_and, noRefs_ints, noRefs_eg, noRefs_ed, noRefs_rm, noRefs_ls, noRefs_bk, noRefs_bls, noRef_sli, noRef_sliN, noRef_egs, noRef_egsN, noRefs_keysI, noRefs_back]; done)) | exact Rn.x1 rfl rfl | exact Rn.x2 rfl rfl | exact Rn.x3 rfl rfl | exact Rn.x4 rfl rfl | exact Rn.x5 rfl | exact Rn.x6 rfl | exact Rn.x7 rfl | refine RB.newnil rfl rfl ?_ | refine RB.cells rfl rfl rfl ?_ ?_ | refine RB.map rfl rfl rfl ?_ ?_ | refine RB.cellsB rfl rfl ?_ ?_ | refine RB.mapB rfl rfl ?_ ?_)) : p := h
theorem _root_.Go.AM.au6 {p : Prop} (h : p := by repeat (first | exact RT.nil | (refine RT.cons ?_ ?_; · (first | exact Rn.any | exact Rn.x1 rfl rfl | exact Rn.x2 rfl rfl | exact Rn.x3 rfl rfl | exact Rn.x4 rfl rfl | exact Rn.x5 rfl | exact Rn.x6 rfl | exact Rn.x7 rfl | (refine Rn.slot ?_ ?_; (first | rfl | (rw [Int.natCast_add]; rfl)); (first | rfl | (simp only [noRef, noRefs, noRefs_append, Bool.and_self, Bool.and_true, Bool.true_and, noRefs_ints, noRefs_eg, noRefs_ed, noRefs_rm, noRefs_ls, noRefs_bk, noRefs_bls, noRef_sli, noRef_sliN, noRef_egs, noRef_egsN, noRefs_keysI, noRefs_back]; done))) | (refine Rn.fn ?_ ?_ <;> (repeat' (first | exact RnL.nil | refine RnL.cons ?_ ?_ | exact Rn.same rfl | exact Rn.x6 rfl | exact Rn.x2 rfl rfl | exact Rn.x5 rfl | exact Rn.x1 rfl rfl))))))) : p := h
set_option maxHeartbeats 16000000 in
theorem lost47 (a : Aut) (u : List Nat) (l : LB) (rank : Int) (hes : ∀ e ∈ a.es, e.1 < a.n ∧ e.2.2 < a.n) (hl : l.length = a.n) (hel : a.es.length ≤ 1000000) (hul : u.length ≤ 1000000) :
    HSpec Try.prog 47 [pv a u l, .int .i64 rank] .e (.sl 80 0 0 (lostF rank (pLost a.es (lf l) u)).length 4) (hp [(80, .cells 0 ((lostF rank (pLost a.es (lf l) u)).flatMap rmC))]) := by
  rw [← ls_rm, show (lostF rank (pLost a.es (lf l) u)).length = (pLost a.es (lf l) u).length by unfold lostF; rw [List.length_map]]
  refine HSpec.of_new 100 ok47 rfl ?_
  simp (maxSteps := 1000000) (disch := first | omega | exact PairsOK.mk rfl | (simp only [lenW] <;> omega)) only [s47, Int.reduceGT, ne_eq, List.length_replicate, wD, Nat.reduceAdd, Nat.reduceEqDiff, Nat.reduceBEq, ↓reduceIte, reduceCtorEq, SX.exit.injEq, if_true, if_false, Int.reduceAdd, Int.reduceSub, Int.reduceMul, Int.reduceLT, Int.reduceLE, Int.reduceEq, Int.reduceNe, Int.reduceNeg, Int.reduceToNat, Nat.reduceMul, Nat.reduceLT, Nat.reduceSub, Nat.reduceLeDiff]
  refine wS_loopX 100 (fun i : Nat => [(0, pv a u l), (1, .int .i64 rank), (5, .sl 80 0 0 (pLost (a.es.take i) (lf l) u).length 4), (13, egsN a.es), (14, .int .i64 a.es.length), (15, .int .i64 i)])
    (fun i => [(80, .cells 0 ((pLost (a.es.take i) (lf l) u).flatMap (lsC rank)))])
    (fun i => i ≤ a.es.length) (fun i => a.es.length - i) 0 0 120
    (fun _ : Unit => [(5, .sl 80 0 0 (pLost a.es (lf l) u).length 4)])
    (fun _ => [(80, .cells 0 ((pLost a.es (lf l) u).flatMap (lsC rank)))]) (fun _ => True) ?_ (Nat.zero_le _) ?_ ?_
  · exact ⟨[(80, .nil)], rfl, au0, au5, au6⟩
  · rintro i hi
    by_cases hlt : i < a.es.length
    · obtain ⟨e, he⟩ := get_ex hlt
      obtain ⟨hfr, hto⟩ := hes e (List.mem_of_getElem? he)
      have hst := pLost_take (left := lf l) (unc := u) he
      have hol := pLost_len (a.es.take i) (lf l) u
      rw [List.length_take] at hol
      generalize pLost (a.es.take i) (lf l) u = o at *
      have hfl : e.1 < l.length := by omega
      have htl : e.2.2 < l.length := by omega
      by_cases h1 : lf l e.1 = true
      · by_cases h2 : lf l e.2.2 = true
        · have : bad (lf l) u e = false := by simp [bad, h2]
          rw [pLs, if_neg (by simp [this])] at hst
          simp (maxSteps := 1000000) (disch := first | omega | exact PairsOK.mk rfl | (simp only [lenW] <;> omega)) only [hlt, drop_eds he, hfr, hto, head_bls hfl, head_bls htl, h1, h2, Int.reduceGT, ne_eq, List.length_replicate, wD, Nat.reduceAdd, Nat.reduceEqDiff, Nat.reduceBEq, ↓reduceIte, reduceCtorEq, SX.exit.injEq, if_true, if_false, Int.reduceAdd, Int.reduceSub, Int.reduceMul, Int.reduceLT, Int.reduceLE, Int.reduceEq, Int.reduceNe, Int.reduceNeg, Int.reduceToNat, Nat.reduceMul, Nat.reduceLT, Nat.reduceSub, Nat.reduceLeDiff]
          refine ⟨i + 1, by omega, by omega, ?_⟩
          rw [hst]; exact ⟨[(80, .blk 80 0)], rfl, au0, au5, au6⟩
        · rw [Bool.not_eq_true] at h2
          by_cases h3 : u.contains e.2.1 = true
          · have hb : bad (lf l) u e = true := by simp only [bad, h1, h2, h3]; rfl
            rw [pLs, if_pos hb] at hst
            simp (maxSteps := 1000000) (disch := first | omega | exact PairsOK.mk rfl | (simp only [lenW] <;> omega)) only [hlt, drop_eds he, hfr, hto, head_bls hfl, head_bls htl, h1, h2, Int.reduceGT, ne_eq, List.length_replicate, wD, Nat.reduceAdd, Nat.reduceEqDiff, Nat.reduceBEq, ↓reduceIte, reduceCtorEq, SX.exit.injEq, if_true, if_false, Int.reduceAdd, Int.reduceSub, Int.reduceMul, Int.reduceLT, Int.reduceLE, Int.reduceEq, Int.reduceNe, Int.reduceNeg, Int.reduceToNat, Nat.reduceMul, Nat.reduceLT, Nat.reduceSub, Nat.reduceLeDiff]
            have hc := contains62 (nz u) e.2.1 (by simp; omega)
            rw [sli_nz, mem_nz, h3] at hc
            refine cp hc ?_
            by_cases h4 : o.length = 0
            · have ho : o = [] := List.eq_nil_of_length_eq_zero h4
              have hlast : o.getLast? = none := by rw [ho]; rfl
              rw [hlast, if_neg (by simp)] at hst
              have h6 : ¬ (0 : Int) < (o.length : Int) := by omega
              have hll := ls_len rank o
              simp (maxSteps := 1000000) (disch := first | omega | exact PairsOK.mk rfl | (simp only [lenW] <;> omega)) only [h6, hll, Int.reduceGT, ne_eq, List.length_replicate, wD, Nat.reduceAdd, Nat.reduceEqDiff, Nat.reduceBEq, ↓reduceIte, reduceCtorEq, SX.exit.injEq, if_true, if_false, Int.reduceAdd, Int.reduceSub, Int.reduceMul, Int.reduceLT, Int.reduceLE, Int.reduceEq, Int.reduceNe, Int.reduceNeg, Int.reduceToNat, Nat.reduceMul, Nat.reduceLT, Nat.reduceSub, Nat.reduceLeDiff]
              refine ⟨i + 1, by omega, by omega, ?_⟩
              rw [hst, List.flatMap_append, List.length_append]
              exact ⟨[(80, .blk 80 1)], rfl, au0, au5, au6⟩
            · obtain ⟨p, hp⟩ := get_ex (l := o) (i := o.length - 1) (by omega)
              have hlast : o.getLast? = some p := by rw [List.getLast?_eq_getElem?]; exact hp
              rw [hlast] at hst
              have h5 : (o.length : Int) - 1 = ((o.length - 1 : Nat) : Int) := by omega
              have h6 : (0 : Int) < (o.length : Int) := by omega
              have h7 : ((o.length - 1 : Nat) : Int) < (o.length : Int) := by omega
              by_cases h8 : p.1 = e.1
              · rw [if_pos (by simpa using h8)] at hst
                simp (maxSteps := 1000000) (disch := first | omega | exact PairsOK.mk rfl | (simp only [lenW] <;> omega)) only [h5, h6, h7, get_ls hp, h8, Int.reduceGT, ne_eq, List.length_replicate, wD, Nat.reduceAdd, Nat.reduceEqDiff, Nat.reduceBEq, ↓reduceIte, reduceCtorEq, SX.exit.injEq, if_true, if_false, Int.reduceAdd, Int.reduceSub, Int.reduceMul, Int.reduceLT, Int.reduceLE, Int.reduceEq, Int.reduceNe, Int.reduceNeg, Int.reduceToNat, Nat.reduceMul, Nat.reduceLT, Nat.reduceSub, Nat.reduceLeDiff]
                refine ⟨i + 1, by omega, by omega, ?_⟩
                rw [hst]; exact ⟨[(80, .blk 80 0)], rfl, au0, au5, au6⟩
              · rw [if_neg (by simpa using h8)] at hst
                have hll := ls_len rank o
                simp (maxSteps := 1000000) (disch := first | omega | exact PairsOK.mk rfl | (simp only [lenW] <;> omega)) only [h5, h6, h7, get_ls hp, h8, hll, Int.reduceGT, ne_eq, List.length_replicate, wD, Nat.reduceAdd, Nat.reduceEqDiff, Nat.reduceBEq, ↓reduceIte, reduceCtorEq, SX.exit.injEq, if_true, if_false, Int.reduceAdd, Int.reduceSub, Int.reduceMul, Int.reduceLT, Int.reduceLE, Int.reduceEq, Int.reduceNe, Int.reduceNeg, Int.reduceToNat, Nat.reduceMul, Nat.reduceLT, Nat.reduceSub, Nat.reduceLeDiff]
                refine ⟨i + 1, by omega, by omega, ?_⟩
                rw [hst, List.flatMap_append, List.length_append]
                exact ⟨[(80, .blk 80 1)], rfl, au0, au5, au6⟩
          · rw [Bool.not_eq_true] at h3
            have : bad (lf l) u e = false := by simp only [bad, h1, h2, h3]; rfl
            rw [pLs, if_neg (by simp [this])] at hst
            simp (maxSteps := 1000000) (disch := first | omega | exact PairsOK.mk rfl | (simp only [lenW] <;> omega)) only [hlt, drop_eds he, hfr, hto, head_bls hfl, head_bls htl, h1, h2, Int.reduceGT, ne_eq, List.length_replicate, wD, Nat.reduceAdd, Nat.reduceEqDiff, Nat.reduceBEq, ↓reduceIte, reduceCtorEq, SX.exit.injEq, if_true, if_false, Int.reduceAdd, Int.reduceSub, Int.reduceMul, Int.reduceLT, Int.reduceLE, Int.reduceEq, Int.reduceNe, Int.reduceNeg, Int.reduceToNat, Nat.reduceMul, Nat.reduceLT, Nat.reduceSub, Nat.reduceLeDiff]
            have hc := contains62 (nz u) e.2.1 (by simp; omega)
            rw [sli_nz, mem_nz, h3] at hc
            refine cp hc ?_
            simp (maxSteps := 1000000) (disch := first | omega | exact PairsOK.mk rfl | (simp only [lenW] <;> omega)) only [Int.reduceGT, ne_eq, List.length_replicate, wD, Nat.reduceAdd, Nat.reduceEqDiff, Nat.reduceBEq, ↓reduceIte, reduceCtorEq, SX.exit.injEq, if_true, if_false, Int.reduceAdd, Int.reduceSub, Int.reduceMul, Int.reduceLT, Int.reduceLE, Int.reduceEq, Int.reduceNe, Int.reduceNeg, Int.reduceToNat, Nat.reduceMul, Nat.reduceLT, Nat.reduceSub, Nat.reduceLeDiff]
            refine ⟨i + 1, by omega, by omega, ?_⟩
            rw [hst]; exact ⟨[(80, .blk 80 0)], rfl, au0, au5, au6⟩
      · rw [Bool.not_eq_true] at h1
        have : bad (lf l) u e = false := by simp [bad, h1]
        rw [pLs, if_neg (by simp [this])] at hst
        simp (maxSteps := 1000000) (disch := first | omega | exact PairsOK.mk rfl | (simp only [lenW] <;> omega)) only [hlt, drop_eds he, hfr, hto, head_bls hfl, head_bls htl, h1, Int.reduceGT, ne_eq, List.length_replicate, wD, Nat.reduceAdd, Nat.reduceEqDiff, Nat.reduceBEq, ↓reduceIte, reduceCtorEq, SX.exit.injEq, if_true, if_false, Int.reduceAdd, Int.reduceSub, Int.reduceMul, Int.reduceLT, Int.reduceLE, Int.reduceEq, Int.reduceNe, Int.reduceNeg, Int.reduceToNat, Nat.reduceMul, Nat.reduceLT, Nat.reduceSub, Nat.reduceLeDiff]
        refine ⟨i + 1, by omega, by omega, ?_⟩
        rw [hst]; exact ⟨[(80, .blk 80 0)], rfl, au0, au5, au6⟩
    · have e : i = a.es.length := by omega
      subst e
      simp (maxSteps := 1000000) (disch := first | omega | exact PairsOK.mk rfl | (simp only [lenW] <;> omega)) only [hlt, Int.reduceGT, ne_eq, List.length_replicate, wD, Nat.reduceAdd, Nat.reduceEqDiff, Nat.reduceBEq, ↓reduceIte, reduceCtorEq, SX.exit.injEq, if_true, if_false, Int.reduceAdd, Int.reduceSub, Int.reduceMul, Int.reduceLT, Int.reduceLE, Int.reduceEq, Int.reduceNe, Int.reduceNeg, Int.reduceToNat, Nat.reduceMul, Nat.reduceLT, Nat.reduceSub, Nat.reduceLeDiff]
      refine ⟨(), ?_⟩
      exact ⟨[(80, .blk 80 0)], rfl, au0, au5, au6⟩
  rintro _ _
  simp (maxSteps := 1000000) (disch := first | omega | exact PairsOK.mk rfl | (simp only [lenW] <;> omega)) only [Int.reduceGT, ne_eq, List.length_replicate, wD, Nat.reduceAdd, Nat.reduceEqDiff, Nat.reduceBEq, ↓reduceIte, reduceCtorEq, SX.exit.injEq, if_true, if_false, Int.reduceAdd, Int.reduceSub, Int.reduceMul, Int.reduceLT, Int.reduceLE, Int.reduceEq, Int.reduceNe, Int.reduceNeg, Int.reduceToNat, Nat.reduceMul, Nat.reduceLT, Nat.reduceSub, Nat.reduceLeDiff]
  exact ⟨.inr trivial, _, rfl, ⟨[(80, .blk 80 0)], rfl, au0, au5, au6⟩⟩
def blkP (left : Nat → Bool) (d : List Int) (n : Nat) : List Nat := (List.range n).filter fun i => left i && decide (d.getD i 0 < 0)
theorem bk_len (rank : Int) (l : List Nat) : (l.flatMap (bkC rank)).length = l.length * 4 := flat_len (f := bkC rank) (k := 4) (fun _ => rfl) l
theorem blkF_eq (left : Nat → Bool) (rank : Int) (d : List Int) : blkF left rank d = (blkP left d d.length).map fun x => ⟨x, rank, 3, -1⟩ := by
  unfold blkF blkP
  generalize List.range d.length = r
  induction r with
  | nil => rfl
  | cons x r ih =>
    rw [List.filterMap_cons, List.filter_cons]
    by_cases h : (left x && decide (d.getD x 0 < 0)) = true
    · rw [if_pos h, if_pos h, List.map_cons, ← ih]
    · rw [if_neg h, if_neg h, ← ih]
theorem bk_rm (left : Nat → Bool) (rank : Int) (d : List Int) : (blkP left d d.length).flatMap (bkC rank) = (blkF left rank d).flatMap rmC := by
  rw [blkF_eq, List.flatMap_map]; rfl
theorem blkP_len (left : Nat → Bool) (d : List Int) (n : Nat) : (blkP left d n).length ≤ n := by
  unfold blkP; exact Nat.le_trans (List.length_filter_le _ _) (by simp)
theorem blkP_take {left : Nat → Bool} {d : List Int} {i : Nat} : blkP left d (i + 1) = blkP left d i ++ if left i && decide (d.getD i 0 < 0) then [i] else [] := by
  unfold blkP
  rw [List.range_succ, List.filter_append]
  congr 1
  by_cases h : (left i && decide (d.getD i 0 < 0)) = true
  · rw [if_pos h, List.filter_cons, if_pos h]; rfl
  · rw [if_neg h, List.filter_cons, if_neg h]; rfl
theorem pDist_len {n : Nat} {es : List Ed} {mk : List Nat} {left : Nat → Bool} (hin : InN n es mk) (hnd : mk.Nodup) : (pDist n es mk left).length = n :=
  (bQ_dst hin (n + 1) 0 _ (bMks_bh hin hnd) (by omega)).1
set_option maxHeartbeats 16000000 in
theorem blocked48 (a : Aut) (u : List Nat) (l : LB) (rank : Int) (hin : InN a.n a.es a.ms) (hnd : a.ms.Nodup) (hl : l.length = a.n) (hn : a.n ≤ 4096) (hel : a.es.length ≤ 1000000) (hml : a.ms.length ≤ 1000000) :
    HSpec Try.prog 48 [pv a u l, .int .i64 rank] .e (.sl 81 0 0 (blkF (lf l) rank (pDist a.n a.es a.ms (lf l))).length 4) (hp [(81, .cells 0 ((blkF (lf l) rank (pDist a.n a.es a.ms (lf l))).flatMap rmC))]) := by
  have hdl := pDist_len (left := lf l) hin hnd
  have hd := dist53 a u l hin hnd hl hn hel hml
  generalize pDist a.n a.es a.ms (lf l) = d at *
  rw [← bk_rm, blkF_eq, List.length_map, hdl]
  refine HSpec.of_new 100 ok48 rfl ?_
  simp (maxSteps := 1000000) (disch := first | omega | exact PairsOK.mk rfl | (simp only [lenW] <;> omega)) only [s48, Int.reduceGT, ne_eq, List.length_replicate, wD, Nat.reduceAdd, Nat.reduceEqDiff, Nat.reduceBEq, ↓reduceIte, reduceCtorEq, SX.exit.injEq, if_true, if_false, Int.reduceAdd, Int.reduceSub, Int.reduceMul, Int.reduceLT, Int.reduceLE, Int.reduceEq, Int.reduceNe, Int.reduceNeg, Int.reduceToNat, Nat.reduceMul, Nat.reduceLT, Nat.reduceSub, Nat.reduceLeDiff]
  refine ch (HSpec.of_O (b := 80) (by (try simp only [noRefs, noRefs_keysI, noRefs_back, noRefs_ints, noRefs_eg, noRefs_ed, noRefs_rm, noRefs_ls, noRefs_bk, noRefs_bls, noRef, Bool.and_self, Bool.and_true]) <;> rfl) hd (by repeat (first | exact Fresh.e | exact Fresh.le (by assumption) (by omega) | refine Fresh.set ?_ (by omega) (by omega))) rfl) ?_
  simp (maxSteps := 1000000) (disch := first | omega | exact PairsOK.mk rfl | (simp only [lenW] <;> omega)) only [Int.reduceGT, ne_eq, List.length_replicate, wD, Nat.reduceAdd, Nat.reduceEqDiff, Nat.reduceBEq, ↓reduceIte, reduceCtorEq, SX.exit.injEq, if_true, if_false, Int.reduceAdd, Int.reduceSub, Int.reduceMul, Int.reduceLT, Int.reduceLE, Int.reduceEq, Int.reduceNe, Int.reduceNeg, Int.reduceToNat, Nat.reduceMul, Nat.reduceLT, Nat.reduceSub, Nat.reduceLeDiff]
  refine wS_loopX 110 (fun i : Nat => [(0, pv a u l), (1, .int .i64 rank), (5, .sl 81 0 0 (blkP (lf l) d i).length 4), (9, .sl 80 0 0 a.n 1), (10, .int .i64 a.n), (11, .int .i64 i)])
    (fun i => [(80, .cells 0 (ints d)), (81, .cells 0 ((blkP (lf l) d i).flatMap (bkC rank)))])
    (fun i => i ≤ a.n) (fun i => a.n - i) 0 0 120
    (fun _ : Unit => [(5, .sl 81 0 0 (blkP (lf l) d a.n).length 4)])
    (fun _ => [(81, .cells 0 ((blkP (lf l) d a.n).flatMap (bkC rank)))]) (fun _ => True) ?_ (Nat.zero_le _) ?_ ?_
  · exact ⟨[(80, .blk 80 0), (81, .nil)], rfl, au0, au5, au6⟩
  · rintro i hi
    by_cases hlt : i < a.n
    · have hst := blkP_take (left := lf l) (d := d) (i := i)
      have hol := blkP_len (lf l) d i
      generalize blkP (lf l) d i = o at *
      have hil : i < l.length := by omega
      have hid : i < d.length := by omega
      have hll := bk_len rank o
      by_cases h1 : lf l i = true
      · by_cases h2 : d.getD i 0 < 0
        · rw [if_pos (by rw [h1, decide_eq_true h2]; rfl)] at hst
          simp (maxSteps := 1000000) (disch := first | omega | exact PairsOK.mk rfl | (simp only [lenW] <;> omega)) only [hlt, get_intsD hid, head_bls hil, h1, h2, hll, Int.reduceGT, ne_eq, List.length_replicate, wD, Nat.reduceAdd, Nat.reduceEqDiff, Nat.reduceBEq, ↓reduceIte, reduceCtorEq, SX.exit.injEq, if_true, if_false, Int.reduceAdd, Int.reduceSub, Int.reduceMul, Int.reduceLT, Int.reduceLE, Int.reduceEq, Int.reduceNe, Int.reduceNeg, Int.reduceToNat, Nat.reduceMul, Nat.reduceLT, Nat.reduceSub, Nat.reduceLeDiff]
          refine ⟨i + 1, by omega, by omega, ?_⟩
          rw [hst, List.flatMap_append, List.length_append]
          exact ⟨[(80, .blk 80 0), (81, .blk 81 1)], rfl, au0, au5, au6⟩
        · rw [if_neg (by rw [h1, decide_eq_false h2]; decide), List.append_nil] at hst
          simp (maxSteps := 1000000) (disch := first | omega | exact PairsOK.mk rfl | (simp only [lenW] <;> omega)) only [hlt, get_intsD hid, head_bls hil, h1, h2, Int.reduceGT, ne_eq, List.length_replicate, wD, Nat.reduceAdd, Nat.reduceEqDiff, Nat.reduceBEq, ↓reduceIte, reduceCtorEq, SX.exit.injEq, if_true, if_false, Int.reduceAdd, Int.reduceSub, Int.reduceMul, Int.reduceLT, Int.reduceLE, Int.reduceEq, Int.reduceNe, Int.reduceNeg, Int.reduceToNat, Nat.reduceMul, Nat.reduceLT, Nat.reduceSub, Nat.reduceLeDiff]
          refine ⟨i + 1, by omega, by omega, ?_⟩
          rw [hst]; exact ⟨[(80, .blk 80 0), (81, .blk 81 0)], rfl, au0, au5, au6⟩
      · rw [if_neg (by simp [h1]), List.append_nil] at hst
        rw [Bool.not_eq_true] at h1
        simp (maxSteps := 1000000) (disch := first | omega | exact PairsOK.mk rfl | (simp only [lenW] <;> omega)) only [hlt, get_intsD hid, head_bls hil, h1, Int.reduceGT, ne_eq, List.length_replicate, wD, Nat.reduceAdd, Nat.reduceEqDiff, Nat.reduceBEq, ↓reduceIte, reduceCtorEq, SX.exit.injEq, if_true, if_false, Int.reduceAdd, Int.reduceSub, Int.reduceMul, Int.reduceLT, Int.reduceLE, Int.reduceEq, Int.reduceNe, Int.reduceNeg, Int.reduceToNat, Nat.reduceMul, Nat.reduceLT, Nat.reduceSub, Nat.reduceLeDiff]
        refine ⟨i + 1, by omega, by omega, ?_⟩
        rw [hst]; exact ⟨[(80, .blk 80 0), (81, .blk 81 0)], rfl, au0, au5, au6⟩
    · have e : i = a.n := by omega
      subst e
      simp (maxSteps := 1000000) (disch := first | omega | exact PairsOK.mk rfl | (simp only [lenW] <;> omega)) only [hlt, Int.reduceGT, ne_eq, List.length_replicate, wD, Nat.reduceAdd, Nat.reduceEqDiff, Nat.reduceBEq, ↓reduceIte, reduceCtorEq, SX.exit.injEq, if_true, if_false, Int.reduceAdd, Int.reduceSub, Int.reduceMul, Int.reduceLT, Int.reduceLE, Int.reduceEq, Int.reduceNe, Int.reduceNeg, Int.reduceToNat, Nat.reduceMul, Nat.reduceLT, Nat.reduceSub, Nat.reduceLeDiff]
      refine ⟨(), ?_⟩
      exact ⟨[(81, .blk 81 0)], rfl, au0, au5, au6⟩
  rintro _ _
  simp (maxSteps := 1000000) (disch := first | omega | exact PairsOK.mk rfl | (simp only [lenW] <;> omega)) only [Int.reduceGT, ne_eq, List.length_replicate, wD, Nat.reduceAdd, Nat.reduceEqDiff, Nat.reduceBEq, ↓reduceIte, reduceCtorEq, SX.exit.injEq, if_true, if_false, Int.reduceAdd, Int.reduceSub, Int.reduceMul, Int.reduceLT, Int.reduceLE, Int.reduceEq, Int.reduceNe, Int.reduceNeg, Int.reduceToNat, Nat.reduceMul, Nat.reduceLT, Nat.reduceSub, Nat.reduceLeDiff]
  exact ⟨.inr trivial, _, rfl, ⟨[(81, .blk 81 0)], rfl, au0, au5, au6⟩⟩
end Go.AM.SE
namespace Go.AM.SE
open Go.Proofs Go.AM.SD
set_option maxRecDepth 100000
set_option linter.unusedSimpArgs false
set_option linter.unusedVariables false
theorem rm_len (l : List Rm) : (l.flatMap rmC).length = l.length * 4 := flat_len (f := rmC) (k := 4) (fun _ => rfl) l
theorem flat_rm (l : List Rm) : flatVs (l.flatMap rmC) = true := by
  induction l with
  | nil => rfl
  | cons x l ih => rw [List.flatMap_cons]; simp only [rmC, List.cons_append, List.nil_append, flatVs, flatV, Bool.true_and]; exact ih
theorem flat_ints (l : List Int) : flatVs (ints l) = true := by
  induction l with
  | nil => rfl
  | cons x l ih => simp only [ints, List.map_cons, flatVs, flatV, Bool.true_and]; exact ih
theorem FrzTo.all {h : Heap} {b g len sz : Nat} {cs : List AV} (hb : h.get b = some (.cells g cs)) (hl : cs.length = len * sz) : FrzTo h (.sl b g 0 len sz) (.fsl cs len sz) := by
  refine FrzTo.sl hb (by omega) ?_
  rw [List.drop_zero, ← hl, List.take_length]
  exact FrzL.same _
theorem frzP {h : Heap} {a : Aut} {u : List Nat} {l : LB} (h70 : h.get 70 = some (.cells 0 (pblk a u))) (h71 : h.get 71 = some (.map 0 (mapF .i64 (backF a.es) (keysR a.es)))) (h72 : h.get 72 = some (.cells 0 (bls l))) (hl : l.length = a.n) : FrzTo h (.ptr 70 0 0) (pv a u l) := by
  refine FrzTo.ptr h70 ?_
  rw [List.drop_zero]
  exact FrzL.cons (FrzTo.same _) (FrzL.cons (FrzTo.same _) (FrzL.cons (FrzTo.same _) (FrzL.cons (FrzTo.same _) (FrzL.cons (FrzTo.same _) (FrzL.cons (FrzTo.mapF h71 fun x _ => FrzTo.same _) (FrzL.cons (FrzTo.all h72 (by rw [bls_len, hl, Nat.mul_one])) FrzL.nil))))))
set_option maxHeartbeats 16000000 in
theorem next35 (a : Aut) (u : List Nat) (l : LB) (rank : Int) (all : Bool) (hin : InN a.n a.es a.ms) (hnd : a.ms.Nodup) (hl : l.length = a.n) (hn : a.n ≤ 4096) (hel : a.es.length ≤ 1000000) (hml : a.ms.length ≤ 1000000) (hul : u.length ≤ 1000000) :
    HSpec Try.prog 35 [pv a u l, .int .i64 rank, .bool all] .e (.sl 82 0 0 (pNext a.n a.es a.ms (lf l) u rank all).length 4) (hp [(82, .cells 0 ((pNext a.n a.es a.ms (lf l) u rank all).flatMap rmC))]) := by
  have h1 := lost47 a u l rank (fun e he => hin.1 e he) hl hel hul
  have h2 := blocked48 a u l rank hin hnd hl hn hel hml
  have hlen : (lostF rank (pLost a.es (lf l) u)).length = (pLost a.es (lf l) u).length := by unfold lostF; rw [List.length_map]
  unfold pNext
  refine HSpec.of_new 100 ok35 rfl ?_
  simp (maxSteps := 1000000) (disch := first | omega | exact PairsOK.mk rfl | (simp only [lenW] <;> omega)) only [s35, Int.reduceGT, ne_eq, List.length_replicate, wD, Nat.reduceAdd, Nat.reduceEqDiff, Nat.reduceBEq, ↓reduceIte, reduceCtorEq, SX.exit.injEq, if_true, if_false, Int.reduceAdd, Int.reduceSub, Int.reduceMul, Int.reduceLT, Int.reduceLE, Int.reduceEq, Int.reduceNe, Int.reduceNeg, Int.reduceToNat, Nat.reduceMul, Nat.reduceLT, Nat.reduceSub, Nat.reduceLeDiff]
  refine ch (HSpec.of_O (b := 80) (by (try simp only [noRefs, noRefs_keysI, noRefs_back, noRefs_ints, noRefs_eg, noRefs_ed, noRefs_rm, noRefs_ls, noRefs_bls, noRef, Bool.and_self, Bool.and_true]) <;> rfl) h1 (by repeat (first | exact Fresh.e | exact Fresh.le (by assumption) (by omega) | refine Fresh.set ?_ (by omega) (by omega))) rfl) ?_
  rw [hlen]
  by_cases h0 : 0 < (pLost a.es (lf l) u).length
  · rw [if_pos (by simp [h0])]
    rw [hlen]
    generalize pLost a.es (lf l) u = o at *
    simp (maxSteps := 1000000) (disch := first | omega | exact PairsOK.mk rfl | (simp only [lenW] <;> omega)) only [h0, Int.reduceGT, ne_eq, List.length_replicate, wD, Nat.reduceAdd, Nat.reduceEqDiff, Nat.reduceBEq, ↓reduceIte, reduceCtorEq, SX.exit.injEq, if_true, if_false, Int.reduceAdd, Int.reduceSub, Int.reduceMul, Int.reduceLT, Int.reduceLE, Int.reduceEq, Int.reduceNe, Int.reduceNeg, Int.reduceToNat, Nat.reduceMul, Nat.reduceLT, Nat.reduceSub, Nat.reduceLeDiff]
    exact ⟨.inr trivial, _, rfl, ⟨[(82, .blk 80 0)], rfl, au0, au5, au6⟩⟩
  · cases all with
    | false =>
      rw [if_pos (by simp)]
      rw [hlen]
      generalize pLost a.es (lf l) u = o at *
      simp (maxSteps := 1000000) (disch := first | omega | exact PairsOK.mk rfl | (simp only [lenW] <;> omega)) only [h0, Int.reduceGT, ne_eq, List.length_replicate, wD, Nat.reduceAdd, Nat.reduceEqDiff, Nat.reduceBEq, ↓reduceIte, reduceCtorEq, SX.exit.injEq, if_true, if_false, Int.reduceAdd, Int.reduceSub, Int.reduceMul, Int.reduceLT, Int.reduceLE, Int.reduceEq, Int.reduceNe, Int.reduceNeg, Int.reduceToNat, Nat.reduceMul, Nat.reduceLT, Nat.reduceSub, Nat.reduceLeDiff]
      exact ⟨.inr trivial, _, rfl, ⟨[(82, .blk 80 0)], rfl, au0, au5, au6⟩⟩
    | true =>
      rw [if_neg (by simp [h0])]
      generalize pLost a.es (lf l) u = o at *
      simp (maxSteps := 1000000) (disch := first | omega | exact PairsOK.mk rfl | (simp only [lenW] <;> omega)) only [h0, Int.reduceGT, ne_eq, List.length_replicate, wD, Nat.reduceAdd, Nat.reduceEqDiff, Nat.reduceBEq, ↓reduceIte, reduceCtorEq, SX.exit.injEq, if_true, if_false, Int.reduceAdd, Int.reduceSub, Int.reduceMul, Int.reduceLT, Int.reduceLE, Int.reduceEq, Int.reduceNe, Int.reduceNeg, Int.reduceToNat, Nat.reduceMul, Nat.reduceLT, Nat.reduceSub, Nat.reduceLeDiff]
      refine ch (HSpec.of_O (b := 81) (by (try simp only [noRefs, noRefs_keysI, noRefs_back, noRefs_ints, noRefs_eg, noRefs_ed, noRefs_rm, noRefs_ls, noRefs_bls, noRef, Bool.and_self, Bool.and_true]) <;> rfl) h2 (by repeat (first | exact Fresh.e | exact Fresh.le (by assumption) (by omega) | refine Fresh.set ?_ (by omega) (by omega))) rfl) ?_
      generalize blkF (lf l) rank (pDist a.n a.es a.ms (lf l)) = q at *
      simp (maxSteps := 1000000) (disch := first | omega | exact PairsOK.mk rfl | (simp only [lenW] <;> omega)) only [Int.reduceGT, ne_eq, List.length_replicate, wD, Nat.reduceAdd, Nat.reduceEqDiff, Nat.reduceBEq, ↓reduceIte, reduceCtorEq, SX.exit.injEq, if_true, if_false, Int.reduceAdd, Int.reduceSub, Int.reduceMul, Int.reduceLT, Int.reduceLE, Int.reduceEq, Int.reduceNe, Int.reduceNeg, Int.reduceToNat, Nat.reduceMul, Nat.reduceLT, Nat.reduceSub, Nat.reduceLeDiff]
      exact ⟨.inr trivial, _, rfl, ⟨[(82, .blk 81 0)], rfl, au0, au5, au6⟩⟩
theorem WfA.auOk {a : Aut} (h : WfA a) (hel : a.es.length ≤ 1000000) : AuOk (au a) := by
  have hal : a.al.length ≤ 5 := by
    have := nodup_len 5 a.al (by rw [List.nodup_iff_pairwise_ne]; exact h.al.imp fun h => by omega) h.al5
    exact this
  have hms : a.ms.length ≤ a.n := nodup_len a.n a.ms h.nd h.msn
  have hn5 := h.n5
  refine { len := ?_, all := ?_, fr := ?_, to := ?_, ev := ?_, up := ?_, alS := SetOk.nz (n := 32) (fun x hx => by have := h.al5 x hx; omega) h.al, msS := SetOk.nz h.msn h.ms, mslen := ?_, n0 := ?_, nm := ?_ }
  · show (a.es.map eg).length ≤ _; simp; omega
  · show (nz a.al).length ≤ _; simp; omega
  · intro e he
    obtain ⟨x, hx, rfl⟩ := List.mem_map.1 he
    have := h.esn x hx
    show (0 : Int) ≤ x.1 ∧ (x.1 : Int) < a.n
    omega
  · intro e he
    obtain ⟨x, hx, rfl⟩ := List.mem_map.1 he
    have := h.esn x hx
    show (0 : Int) ≤ x.2.2 ∧ (x.2.2 : Int) < a.n
    omega
  · intro e he
    obtain ⟨x, hx, rfl⟩ := List.mem_map.1 he
    exact List.mem_map.2 ⟨x.2.1, h.ev x hx, rfl⟩
  · show (a.es.map eg).Pairwise _
    rw [List.pairwise_map]
    refine h.es.imp fun h => ?_
    show (_ : Int) < _ ∨ (_ : Int) = _ ∧ (_ : Int) < _
    simp only [eg]
    omega
  · show (nz a.ms).length ≤ _; simp; omega
  · show (0 : Int) ≤ (a.n : Int); omega
  · show (a.n : Int) ≤ 4096; omega
structure QOk (a : Aut) (f u : List Nat) : Prop where
  fS : f.Pairwise (· < ·)
  fn : ∀ x ∈ f, x < a.n
  uS : u.Pairwise (· < ·)
  un : ∀ x ∈ u, x < 32
theorem sorted_len {l : List Nat} {n : Nat} (h : l.Pairwise (· < ·)) (hn : ∀ x ∈ l, x < n) : l.length ≤ n := nodup_len n l (by rw [List.nodup_iff_pairwise_ne]; exact h.imp fun h => by omega) hn
theorem check22N (a : Aut) (f u : List Nat) (h : WfA a) (hq : QOk a f u) (hel : a.es.length ≤ 1000000) : PSpec Try.prog 22 [aV a, sliN f, sliN u] (.int .i64 0) := by
  have h1 := sorted_len hq.fS hq.fn
  have h2 := sorted_len hq.uS hq.un
  have hn5 := h.n5
  have := check22 (au a) (nz f) (nz u) (WfA.auOk h hel) (SetOk.nz hq.fn hq.fS) (SetOk.nz hq.un hq.uS) (by simp; omega) (by simp; omega)
  rw [auV_au, sli_nz, sli_nz] at this
  exact this
end Go.AM.SE
set_option linter.unusedSimpArgs false
set_option linter.unusedVariables false
namespace Go.AM.SD
def stR (l : List Rm) (k : Nat) : Nat := (l.getD k (rm0 0)).st
def sw (l : List Rm) (j : Nat) : List Rm := (l.set (j + 1) (l.getD j (rm0 0))).set j (l.getD (j + 1) (rm0 0))
def insJ : Nat → List Rm → List Rm
  | 0, l => l
  | j + 1, l => if stR l (j + 1) < stR l j then insJ j (sw l j) else l
def isort (l : List Rm) : Nat → List Rm
  | 0 => l
  | i + 1 => insJ (i + 1) (isort l i)
theorem sw_len {l : List Rm} {j : Nat} : (sw l j).length = l.length := by simp [sw]
theorem insJ_len : ∀ (j : Nat) (l : List Rm), (insJ j l).length = l.length
  | 0, l => rfl
  | j + 1, l => by
    simp only [insJ]; split
    · rw [insJ_len j, sw_len]
    · rfl
theorem isort_len (l : List Rm) : ∀ i, (isort l i).length = l.length
  | 0 => rfl
  | i + 1 => by rw [isort, insJ_len, isort_len l i]
theorem sw_perm {l : List Rm} {j : Nat} (hj : j + 1 < l.length) : (sw l j).Perm l := by
  have h1 : l.getD j (rm0 0) = l[j] := by simp [show j < l.length by omega]
  have h2 : l.getD (j + 1) (rm0 0) = l[j + 1] := by simp [hj]
  unfold sw
  rw [h1, h2]
  exact List.set_set_perm (i := j + 1) (j := j) hj (by omega)
theorem insJ_perm : ∀ (j : Nat) (l : List Rm), j < l.length → (insJ j l).Perm l
  | 0, l, _ => List.Perm.refl _
  | j + 1, l, h => by
    simp only [insJ]; split
    · exact (insJ_perm j (sw l j) (by rw [sw_len]; omega)).trans (sw_perm h)
    · exact List.Perm.refl _
theorem isort_perm (l : List Rm) : ∀ i, i < l.length ∨ i = 0 → (isort l i).Perm l
  | 0, _ => List.Perm.refl _
  | i + 1, h => by
    rw [isort]
    exact (insJ_perm (i + 1) _ (by rw [isort_len]; omega)).trans (isort_perm l i (by omega))
def srtR (l : List Rm) : List Rm := isort l (l.length - 1)
theorem srtR_len (l : List Rm) : (srtR l).length = l.length := isort_len l _
end Go.AM.SD
set_option linter.unusedSimpArgs false
set_option linter.unusedVariables false
namespace Go.AM
variable {P : Program}
def Only1 (b g : Nat) (args : List AV) : Prop := ∀ (c c1 : Ctx) (w : World) (vs : List Value), c1.ρ b g = c.ρ b g → (∀ k, c.F k → c1.F k) → VRels c w args vs → VRels c1 w args vs
theorem Only1.nil {b g : Nat} : Only1 b g [] := fun c c1 w vs _ _ h => by simpa [VRels] using h
theorem Only1.same {b g : Nat} {x : AV} {xs : List AV} (hn : noRef x = true) (h : Only1 b g xs) : Only1 b g (x :: xs) := fun c c1 w vs h1 h2 hv => by
  simp only [VRels] at hv ⊢
  obtain ⟨v, vs', rfl, h3, h4⟩ := hv
  exact ⟨v, vs', rfl, VRel.noRef h2 _ _ hn h3, h c c1 w vs' h1 h2 h4⟩
theorem Only1.sl {b g off len sz : Nat} {xs : List AV} (h : Only1 b g xs) : Only1 b g (.sl b g off len sz :: xs) := fun c c1 w vs h1 h2 hv => by
  simp only [VRels] at hv ⊢
  obtain ⟨v, vs', rfl, h3, h4⟩ := hv
  refine ⟨v, vs', rfl, ?_, h c c1 w vs' h1 h2 h4⟩
  simp only [VRel] at h3 ⊢
  rcases h3 with ⟨g1, g2⟩ | ⟨cb, base, o, cap, C, e, fr, g1, g2, g3, g4, g5⟩
  · exact .inl ⟨h1.trans g1, g2⟩
  · exact .inr ⟨cb, base, o, cap, C, e, fr, h1.trans g1, g2, g3, g4, g5⟩
theorem HSpec.frame1 {f b g : Nat} {args xs ys : List AV} {v : AV} {h : Heap} (hs : HSpec P f args (hp [(b, .cells g xs)]) v (hp [(b, .cells g ys)])) (ha1 : Only1 b g args) (hv : flatV v = true) (hx : flatVs xs = true) (hy : flatVs ys = true)
    (hb : h.get b = some (.cells g xs)) (hlim : Nat.blt b 1099511627775 = true) : HSpec P f args h v (h.set b (.cells g ys)) := by
  have hlim' : b < 1099511627775 := by simpa using hlim
  obtain ⟨hc, hs⟩ := hs
  refine ⟨hc, fun c w cargs H ha => ?_⟩
  have hg1 : ∀ {zs : List AV} k, (hp [(b, .cells g zs)]).get k = if k = b then some (.cells g zs) else none := fun {zs} k => by
    simp only [hp]
    by_cases e : k = b
    · subst e; rw [get_same hlim', if_pos rfl]
    · rw [get_ne hlim' e, get_e, if_neg e]
  have hlive : Live h b g := ⟨_, hb, rfl, fun _ => by simp⟩
  let c1 : Ctx := { ρ := fun k y => if k = b then c.ρ k y else none, F := c.F, O := fun k => ∃ base, c.ρ b g = some (.loc k base) }
  have hr1 : ∀ y, c1.ρ b y = c.ρ b y := fun y => if_pos rfl
  have hO1 : ∀ k, c1.O k → c.O k := fun k ⟨base, hk⟩ => H.owned hlive hk
  have H1 : HRel c1 (hp [(b, .cells g xs)]) w := by
    refine ⟨fun k hk y => ?_, fun k x hk y hlt => ?_, fun k x hk => ?_, fun k y k' y' cb base base' l1 l2 _ _ => ?_, fun k hF hO => H.disj k hF (hO1 k hO), H.inF, fun k hO => H.inO k (hO1 k hO)⟩
    · rw [hg1] at hk
      split at hk
      · cases hk
      · rename_i e; exact if_neg e
    · rw [hg1] at hk
      split at hk
      · rename_i e; subst e; cases hk
        rw [hr1]; exact H.later k _ hb y hlt
      · cases hk
    · rw [hg1] at hk
      split at hk
      · rename_i e; subst e; cases hk
        rcases H.blk k _ hb with ⟨h1, h2⟩ | ⟨cb, base, C, e, fr, h1, h2, h3, h4, h5, h6⟩
        · exact .inl ⟨(hr1 _).trans h1, h2⟩
        · exact .inr ⟨cb, base, C, e, fr, (hr1 _).trans h1, ⟨base, h1⟩, h3, h4, h5, VPre.flat hx h6⟩
      · cases hk
    · obtain ⟨x1, e1, _⟩ := l1
      obtain ⟨x2, e2, _⟩ := l2
      rw [hg1] at e1 e2
      split at e1
      · split at e2
        · rename_i q1 q2; rw [q1, q2]
        · cases e2
      · cases e1
  refine (hs c1 w cargs H1 (ha1 c c1 w _ (hr1 g) (fun _ h => h) ha)).mono ?_
  rintro e w' ⟨cv, c', rfl, E, H', V⟩
  have hrb : c'.ρ b g = c.ρ b g := by
    rcases H.blk b _ hb with ⟨h1, _⟩ | ⟨cb, base, C, e, fr, h1, _⟩
    · rw [show c.ρ b g = _ from h1]; exact E.rho b g _ ((hr1 g).trans h1)
    · rw [show c.ρ b g = _ from h1]; exact E.rho b g _ ((hr1 g).trans h1)
  have hlive' : Live (hp [(b, .cells g ys)]) b g := ⟨_, by rw [hg1, if_pos rfl], rfl, fun _ => by simp⟩
  have hO' : ∀ k, c1.O k → c'.O k := fun k ⟨base, hk⟩ => H'.owned hlive' (hrb.trans hk)
  let c2 : Ctx := { ρ := c.ρ, F := c'.F, O := c.O }
  have E2 : Evo c w c2 w' := ⟨E.os, E.tape, E.output, E.size, E.shape, fun k hk hO => E.keep k hk fun h => hO (hO1 k h), fun _ _ _ h => h, fun k hk => E.frz k hk, fun k hk => (E.frzNew k hk).elim .inl fun h => h.elim (fun h => .inr (.inl (hO1 k h))) fun h => .inr (.inr h), fun k hk => .inl hk⟩
  refine ⟨cv, c2, rfl, E2, ?_, VRel.flat _ _ hv V⟩
  have hset : ∀ k, (h.set b (.cells g ys)).get k = if k = b then some (.cells g ys) else h.get k := fun k => by
    by_cases e : k = b
    · subst e; rw [get_same hlim', if_pos rfl]
    · rw [get_ne hlim' e, if_neg e]
  have hlv : ∀ k y, Live (h.set b (.cells g ys)) k y → Live h k y := by
    rintro k y ⟨x, hk, hg, hd⟩
    rw [hset] at hk
    split at hk
    · rename_i e; subst e; cases hk
      exact ⟨_, hb, hg, fun _ => by simp⟩
    · exact ⟨x, hk, hg, hd⟩
  refine ⟨fun k hk y => ?_, fun k x hk y hlt => ?_, fun k x hk => ?_, fun k y k' y' cb base base' l1 l2 p1 p2 => H.inj k y k' y' cb base base' (hlv _ _ l1) (hlv _ _ l2) p1 p2, fun k hF hO => ?_, H'.inF, fun k hO => Nat.lt_of_lt_of_le (H.inO k hO) E.size⟩
  · rw [hset] at hk
    split at hk
    · cases hk
    · exact H.fresh k hk y
  · rw [hset] at hk
    split at hk
    · rename_i e; subst e; cases hk
      exact H.later k _ hb y hlt
    · exact H.later k x hk y hlt
  · rw [hset] at hk
    split at hk
    · rename_i e; subst e; cases hk
      have hb' := H'.blk k (.cells g ys) (by rw [hg1, if_pos rfl])
      rcases hb' with ⟨h1, h2⟩ | ⟨cb, base, C, e, fr, h1, h2, h3, h4, h5, h6⟩
      · exact .inl ⟨hrb.symm.trans h1, h2⟩
      · exact .inr ⟨cb, base, C, e, fr, hrb.symm.trans h1, H.owned hlive (hrb.symm.trans h1), h3, h4, h5, VPre.flat hy h6⟩
    · rename_i e
      refine BRel.mono (E2.ext H.disj) (fun cb base hd hp => ?_) (H.blk k x hk)
      have hO := H.owned ⟨x, hk, rfl, hd⟩ hp
      refine ⟨hO, E.keep cb (H.inO _ hO) ?_⟩
      rintro ⟨base', hk'⟩
      exact e (H.inj _ _ _ _ _ _ _ ⟨x, hk, rfl, hd⟩ hlive hp hk')
  · rcases E.frzNew k hF with h1 | h1 | h1
    · exact H.disj k h1 hO
    · exact H'.disj k hF (hO' k h1)
    · have := H.inO k hO; omega
end Go.AM
namespace Go.AM
variable {P : Program}
theorem HSpec.empty {f sz : Nat} {asx : List AV} {h h' : Heap} {v : AV} (h1 : HSpec P f (.nilsl :: asx) h v h') (h2 : HSpec P f (.nsl :: asx) h v h') : HSpec P f (.fsl [] 0 sz :: asx) h v h' := by
  obtain ⟨hc, h1⟩ := h1
  obtain ⟨_, h2⟩ := h2
  refine ⟨hc, fun c w cargs H ha => ?_⟩
  simp only [VRels] at ha
  obtain ⟨u, us, e, hv, hr⟩ := ha
  simp only [VRel] at hv
  rcases hv with ⟨⟨a, rfl⟩, _⟩ | ⟨cb, off, cap, C, _, _, rfl, _⟩
  · cases a with
    | none => exact h1 c w cargs H (by rw [e]; simp only [VRels]; exact ⟨_, _, rfl, by simp [VRel], hr⟩)
    | some a => exact h2 c w cargs H (by rw [e]; simp only [VRels]; exact ⟨_, _, rfl, by simp [VRel], hr⟩)
  · exact h2 c w cargs H (by rw [e]; simp only [VRels]; exact ⟨_, _, rfl, by simp [VRel], hr⟩)
end Go.AM
namespace Go.AM
theorem srcNew_app {x : Src} : ∀ {A B : List (Nat × Src)}, srcNew x A = true → srcNew x B = true → srcNew x (A ++ B) = true
  | [], B, _, h => h
  | (j, t) :: A, B, h1, h2 => by
    simp only [srcNew, Bool.and_eq_true] at h1
    rw [List.cons_append]
    simp only [srcNew, Bool.and_eq_true]
    exact ⟨h1.1, srcNew_app h1.2 h2⟩
theorem okPs_app {s : Nat → Src} {f : Nat → List AV} {ks : List Nat} (hr : okPs 0 (psL s ks) (rowsL f ks) = true) : ∀ {A : List (Nat × Src)} {L : HL}, okPs 0 A L = true → (∀ p ∈ A, p.1 < 300) →
    (∀ p ∈ A, ∀ b g, p.2 = .blk b g → ∀ k ∈ ks, ∀ b' g', s k = .blk b' g' → b ≠ b') → okPs 0 (A ++ psL s ks) (L ++ rowsL f ks) = true
  | [], [], _, _, _ => hr
  | [], _ :: _, h, _, _ => by simp [okPs] at h
  | _ :: _, [], h, _, _ => by simp [okPs] at h
  | (b, t) :: A, (b', x) :: L, h, h3, hs => by
    simp only [okPs, Bool.and_eq_true, Bool.or_eq_true] at h
    obtain ⟨⟨⟨⟨h1, h2⟩, h4⟩, h5⟩, h6⟩ := h
    rw [List.cons_append, List.cons_append]
    simp only [okPs, Bool.and_eq_true, Bool.or_eq_true]
    refine ⟨⟨⟨⟨h1, h2⟩, ?_⟩, ?_⟩, okPs_app hr h6 (fun p hp => h3 p (by simp [hp])) (fun p hp => hs p (by simp [hp]))⟩
    · rcases h4 with h4 | ⟨h4, h7⟩
      · exact .inl h4
      · refine .inr ⟨h4, srcNew_app h7 ?_⟩
        cases e : t with
        | nil => exact srcNew_nil
        | blk k g => exact srcNew_rows fun j hj b' g' e' => hs (b, t) (by simp) k g e j hj b' g' e'
    · rw [List.all_append, h5, Bool.true_and, List.all_eq_true]
      intro p hp
      have h7 := psL_names hp
      have h8 := h3 (b, t) (by simp)
      have h9 : Nat.beq p.1 b = false := by
        rw [Bool.eq_false_iff]
        intro h9
        have : p.1 = b := by simpa using h9
        dsimp only at h8; omega
      simp [h9]
theorem ow_app {s : Nat → Src} {ks : List Nat} {k : Nat} (hk : k ∈ ks) : ∀ {A : List (Nat × Src)}, (∀ p ∈ A, p.1 < 300) → ow 0 (A ++ psL s ks) (300 + k) = some (s k) := by
  have key : ∀ {A : List (Nat × Src)}, (∀ p ∈ A, p.1 < 300) → lkS (A ++ psL s ks) (300 + k) = some (s k) := by
    intro A
    induction A with
    | nil => intro _; exact lkS_rows hk
    | cons p A ih =>
      intro h
      obtain ⟨j, t⟩ := p
      have := h (j, t) (by simp)
      dsimp only at this
      rw [List.cons_append]
      simp only [lkS]
      rw [if_neg (by omega)]
      exact ih fun p hp => h p (by simp [hp])
  intro A h
  unfold ow
  rw [if_neg (Nat.not_lt_zero _)]
  exact key h
theorem RnL_map {m : Nat} {π : Nat → Option Src} {h : Heap} {f g : Nat → AV} : ∀ {ks : List Nat}, (∀ k ∈ ks, Rn m π h (f k) (g k)) → RnL m π h (ks.map f) (ks.map g)
  | [], _ => trivial
  | j :: ks, hk => ⟨hk j (by simp), RnL_map fun k h => hk k (by simp [h])⟩
theorem RnO.agg {h : Heap} {xs ys : List AV} (hL : RnOL h xs ys) : RnO h (.agg xs) (.agg ys) := fun c w v H hv => by
  simp only [VRel] at hv ⊢
  obtain ⟨vs, rfl, hv⟩ := hv
  exact ⟨vs, rfl, hL.rels H hv⟩
theorem RnO.nil {h : Heap} {sz : Nat} : RnO h (.fsl [] 0 sz) .nilsl := fun c w v H hv => by
  simp only [VRel] at hv ⊢
  exact .inl ⟨⟨none, hv⟩, trivial, trivial⟩
theorem mapF_congr {k : IntKind} {f g : Nat → AV} {l : List Nat} (h : ∀ x ∈ l, f x = g x) : mapF k f l = mapF k g l := by
  unfold mapF
  exact List.map_congr_left fun x hx => by rw [h x hx]
theorem range_set {f : Nat → AV} {n i : Nat} {v : AV} (h : i < n) : ((List.range n).map f).set i v = (List.range n).map (updF f i v) := by
  apply List.ext_getElem?
  intro j
  rw [List.getElem?_set]
  by_cases e : i = j
  · subst e
    rw [if_pos rfl, if_pos (by simpa using h)]
    simp [updF, h]
  · rw [if_neg e, List.getElem?_map, List.getElem?_map]
    by_cases hj : j < n
    · simp only [List.getElem?_range hj, Option.map_some, updF]
      rw [if_neg (fun h2 : j = i => e h2.symm)]
    · simp [hj]
theorem range_get {f : Nat → AV} {n i : Nat} (h : i < n) : ((List.range n).map f)[i]? = some (f i) := by simp [h]
end Go.AM
namespace Go.AM.SE
open Go.Proofs Go.AM.SD
set_option maxRecDepth 100000
set_option linter.unusedSimpArgs false
set_option linter.unusedVariables false
abbrev rmV (r : Rm) : AV := .agg [.int .i64 (r.st : Int), .int .i64 r.rank, .int .i64 (r.reason : Int), .int .i64 r.ev]
theorem cmp52 (x y : Rm) (hx : x.st ≤ 4096) (hy : y.st ≤ 4096) : PSpec Try.prog 52 [rmV x, rmV y] (.int .i64 ((x.st : Int) - y.st)) := by
  refine PSpec.of_flat 64 ok52 rfl rfl rfl ?_
  simp (maxSteps := 1000000) (disch := first | omega | exact PairsOK.mk rfl | (simp only [lenW] <;> omega)) only [s52, Int.reduceGT, ne_eq, List.length_replicate, wD, Nat.reduceAdd, Nat.reduceEqDiff, Nat.reduceBEq, ↓reduceIte, reduceCtorEq, SX.exit.injEq, if_true, if_false, Int.reduceAdd, Int.reduceSub, Int.reduceMul, Int.reduceLT, Int.reduceLE, Int.reduceEq, Int.reduceNe, Int.reduceNeg, Int.reduceToNat, Nat.reduceMul, Nat.reduceLT, Nat.reduceSub, Nat.reduceLeDiff]
  exact ⟨.inr trivial, _, rfl, rfl⟩
theorem put_rm {l : List Rm} {i : Nat} {r : Rm} (h : i < l.length) : (l.flatMap rmC).take (i * 4) ++ rmC r ++ (l.flatMap rmC).drop (i * 4 + 4) = (l.set i r).flatMap rmC := by
  have : ∀ (l : List Rm) (i : Nat), i < l.length → (l.flatMap rmC).take (i * 4) ++ rmC r ++ (l.flatMap rmC).drop (i * 4 + 4) = (l.set i r).flatMap rmC := by
    intro l
    induction l with
    | nil => intro i h; simp at h
    | cons a l ih =>
      intro i h
      cases i with
      | zero => simp [List.flatMap_cons, rmC]
      | succ i =>
        have := ih i (by simpa using h)
        rw [List.set_cons_succ, List.flatMap_cons, List.flatMap_cons, ← this]
        rw [show (i + 1) * 4 = i * 4 + 4 by omega]
        simp [rmC]
  exact this l i h
theorem put_rm' {l : List Rm} {i : Nat} {r : Rm} (h : i < l.length) : (l.flatMap rmC).take (i * 4) ++ [.int .i64 (r.st : Int), .int .i64 r.rank, .int .i64 (r.reason : Int), .int .i64 r.ev] ++ (l.flatMap rmC).drop (i * 4 + 4) = (l.set i r).flatMap rmC := put_rm h
theorem getD_of {l : List Rm} {i : Nat} {r : Rm} (h : l[i]? = some r) : l.getD i (rm0 0) = r := by rw [List.getD_eq_getElem?_getD, h]; rfl
set_option maxHeartbeats 16000000 in
theorem isort71 (l : List Rm) (hst : ∀ r ∈ l, r.st ≤ 4096) (hl : l.length ≤ 1000000) :
    HSpec Try.prog 71 [.sl 74 0 0 l.length 4, .int .i64 0, .int .i64 l.length, .fn 52 [] []] (hp [(74, .cells 0 (l.flatMap rmC))]) (.tup []) (hp [(74, .cells 0 ((srtR l).flatMap rmC))]) := by
  refine HSpec.of_rec (m := 75) 100 ok71 rfl rfl rfl ?_
  simp (maxSteps := 1000000) (disch := first | omega | exact PairsOK.mk rfl | (simp only [lenW] <;> omega)) only [s71, Int.reduceGT, ne_eq, List.length_replicate, wD, Nat.reduceAdd, Nat.reduceEqDiff, Nat.reduceBEq, ↓reduceIte, reduceCtorEq, SX.exit.injEq, if_true, if_false, Int.reduceAdd, Int.reduceSub, Int.reduceMul, Int.reduceLT, Int.reduceLE, Int.reduceEq, Int.reduceNe, Int.reduceNeg, Int.reduceToNat, Nat.reduceMul, Nat.reduceLT, Nat.reduceSub, Nat.reduceLeDiff]
  refine wS_loopR 110 (fun i : Nat => [(0, .sl 74 0 0 l.length 4), (1, .int .i64 0), (2, .int .i64 l.length), (3, .fn 52 [] []), (8, .int .i64 i)])
    (fun i => [(74, .cells 0 ((isort l (i - 1)).flatMap rmC))]) (fun i => 1 ≤ i ∧ (i ≤ l.length ∨ i = 1)) (fun i => l.length + 1 - i) 1 ⟨[(74, .nil)], rfl, au0, au5, au6⟩ ⟨Nat.le_refl _, .inr rfl⟩ ?_
  rintro i ⟨hi1, hi2⟩
  by_cases hlt : i < l.length
  · have hii : insJ i (isort l (i - 1)) = isort l i := by
      obtain ⟨k, rfl⟩ : ∃ k, i = k + 1 := ⟨i - 1, by omega⟩
      rfl
    have hpm : (isort l (i - 1)).Perm l := isort_perm l (i - 1) (.inl (by omega))
    simp (maxSteps := 1000000) (disch := first | omega | exact PairsOK.mk rfl | (simp only [lenW] <;> omega)) only [hlt, Int.reduceGT, ne_eq, List.length_replicate, wD, Nat.reduceAdd, Nat.reduceEqDiff, Nat.reduceBEq, ↓reduceIte, reduceCtorEq, SX.exit.injEq, if_true, if_false, Int.reduceAdd, Int.reduceSub, Int.reduceMul, Int.reduceLT, Int.reduceLE, Int.reduceEq, Int.reduceNe, Int.reduceNeg, Int.reduceToNat, Nat.reduceMul, Nat.reduceLT, Nat.reduceSub, Nat.reduceLeDiff]
    refine wS_loopX 140 (fun t : Nat × List Rm => [(0, .sl 74 0 0 l.length 4), (1, .int .i64 0), (2, .int .i64 l.length), (3, .fn 52 [] []), (8, .int .i64 i), (9, .int .i64 t.1)])
      (fun t => [(74, .cells 0 (t.2.flatMap rmC))]) (fun t => t.1 ≤ i ∧ t.2.Perm l ∧ insJ t.1 t.2 = isort l i) (fun t => t.1) (i, isort l (i - 1)) 2 160
      (fun _ : Unit => [(0, .sl 74 0 0 l.length 4), (1, .int .i64 0), (2, .int .i64 l.length), (3, .fn 52 [] []), (8, .int .i64 i)])
      (fun _ => [(74, .cells 0 ((isort l i).flatMap rmC))]) (fun _ => True) ⟨[(74, .nil)], rfl, au0, au5, au6⟩ ⟨Nat.le_refl _, hpm, hii⟩ ?_ ?_
    · rintro ⟨j, t⟩ ⟨hj, hp, hins⟩
      dsimp only at hj hp hins ⊢
      have htl : t.length = l.length := hp.length_eq
      have hll := rm_len t
      cases j with
      | zero =>
        have : t = isort l i := hins
        subst this
        simp (maxSteps := 1000000) (disch := first | omega | exact PairsOK.mk rfl | (simp only [lenW] <;> omega)) only [Int.reduceGT, ne_eq, List.length_replicate, wD, Nat.reduceAdd, Nat.reduceEqDiff, Nat.reduceBEq, ↓reduceIte, reduceCtorEq, SX.exit.injEq, if_true, if_false, Int.reduceAdd, Int.reduceSub, Int.reduceMul, Int.reduceLT, Int.reduceLE, Int.reduceEq, Int.reduceNe, Int.reduceNeg, Int.reduceToNat, Nat.reduceMul, Nat.reduceLT, Nat.reduceSub, Nat.reduceLeDiff]
        refine ⟨(), ?_⟩
        exact ⟨[(74, .nil)], rfl, au0, au5, au6⟩
      | succ j =>
        obtain ⟨x, hx⟩ := get_ex (l := t) (i := j + 1) (by omega)
        obtain ⟨y, hy⟩ := get_ex (l := t) (i := j) (by omega)
        have hx4 := hst x (hp.mem_iff.1 (List.mem_of_getElem? hx))
        have hy4 := hst y (hp.mem_iff.1 (List.mem_of_getElem? hy))
        have h1 : (0 : Int) < ((j + 1 : Nat) : Int) := by omega
        have h2 : ((j + 1 : Nat) : Int) - 1 = (j : Int) := by omega
        have h3 : ((j + 1 : Nat) : Int) < (l.length : Int) := by omega
        have h4 : (j : Int) < (l.length : Int) := by omega
        have g1 : (j + 1) * 4 + 4 ≤ t.length * 4 := by omega
        have g2 : j * 4 + 4 ≤ t.length * 4 := by omega
        have sx : stR t (j + 1) = x.st := by unfold stR; rw [getD_of hx]
        have sy : stR t j = y.st := by unfold stR; rw [getD_of hy]
        rw [insJ, sx, sy] at hins
        generalize hjj : ((j + 1 : Nat) : Int) = J at *
        have hJn : J.toNat = j + 1 := by omega
        have hJ0 : 0 ≤ J := by omega
        by_cases hc : x.st < y.st
        · rw [if_pos hc] at hins
          have hc' : (x.st : Int) - (y.st : Int) < 0 := by omega
          have hl1 : ((t.set (j + 1) y).flatMap rmC).length = t.length * 4 := by rw [rm_len, List.length_set]
          have hsw : (t.set (j + 1) y).set j x = sw t j := by unfold sw; rw [getD_of hx, getD_of hy]
          simp (maxSteps := 1000000) (disch := first | omega | exact PairsOK.mk rfl | (simp only [lenW] <;> omega)) only [h1, h2, h3, h4, hJn, hJ0, hll, g1, g2, drop_rms hx, drop_rms hy, Int.reduceGT, ne_eq, List.length_replicate, wD, Nat.reduceAdd, Nat.reduceEqDiff, Nat.reduceBEq, ↓reduceIte, reduceCtorEq, SX.exit.injEq, if_true, if_false, Int.reduceAdd, Int.reduceSub, Int.reduceMul, Int.reduceLT, Int.reduceLE, Int.reduceEq, Int.reduceNe, Int.reduceNeg, Int.reduceToNat, Nat.reduceMul, Nat.reduceLT, Nat.reduceSub, Nat.reduceLeDiff]
          refine cp (cmp52 x y hx4 hy4) ?_
          simp (maxSteps := 1000000) (disch := first | omega | exact PairsOK.mk rfl | (simp only [lenW] <;> omega)) only [h1, h2, h3, h4, hJn, hJ0, hll, g1, g2, drop_rms hx, drop_rms hy, hc', put_rm' (show j + 1 < t.length by omega), put_rm' (l := t.set (j + 1) y) (i := j) (r := x) (by rw [List.length_set]; omega), hl1, hsw, Int.reduceGT, ne_eq, List.length_replicate, wD, Nat.reduceAdd, Nat.reduceEqDiff, Nat.reduceBEq, ↓reduceIte, reduceCtorEq, SX.exit.injEq, if_true, if_false, Int.reduceAdd, Int.reduceSub, Int.reduceMul, Int.reduceLT, Int.reduceLE, Int.reduceEq, Int.reduceNe, Int.reduceNeg, Int.reduceToNat, Nat.reduceMul, Nat.reduceLT, Nat.reduceSub, Nat.reduceLeDiff]
          refine ⟨(j, sw t j), by dsimp only; omega, ⟨by dsimp only; omega, (sw_perm (by omega)).trans hp, hins⟩, ?_⟩
          exact ⟨[(74, .nil)], rfl, au0, au5, au6⟩
        · rw [if_neg hc] at hins
          have hc' : ¬ (x.st : Int) - (y.st : Int) < 0 := by omega
          simp (maxSteps := 1000000) (disch := first | omega | exact PairsOK.mk rfl | (simp only [lenW] <;> omega)) only [h1, h2, h3, h4, hJn, hJ0, hll, g1, g2, drop_rms hx, drop_rms hy, Int.reduceGT, ne_eq, List.length_replicate, wD, Nat.reduceAdd, Nat.reduceEqDiff, Nat.reduceBEq, ↓reduceIte, reduceCtorEq, SX.exit.injEq, if_true, if_false, Int.reduceAdd, Int.reduceSub, Int.reduceMul, Int.reduceLT, Int.reduceLE, Int.reduceEq, Int.reduceNe, Int.reduceNeg, Int.reduceToNat, Nat.reduceMul, Nat.reduceLT, Nat.reduceSub, Nat.reduceLeDiff]
          refine cp (cmp52 x y hx4 hy4) ?_
          simp (maxSteps := 1000000) (disch := first | omega | exact PairsOK.mk rfl | (simp only [lenW] <;> omega)) only [hc', Int.reduceGT, ne_eq, List.length_replicate, wD, Nat.reduceAdd, Nat.reduceEqDiff, Nat.reduceBEq, ↓reduceIte, reduceCtorEq, SX.exit.injEq, if_true, if_false, Int.reduceAdd, Int.reduceSub, Int.reduceMul, Int.reduceLT, Int.reduceLE, Int.reduceEq, Int.reduceNe, Int.reduceNeg, Int.reduceToNat, Nat.reduceMul, Nat.reduceLT, Nat.reduceSub, Nat.reduceLeDiff]
          refine ⟨(), ?_⟩
          rw [← hins]
          exact ⟨[(74, .nil)], rfl, au0, au5, au6⟩
    rintro _ _
    simp (maxSteps := 1000000) (disch := first | omega | exact PairsOK.mk rfl | (simp only [lenW] <;> omega)) only [Int.reduceGT, ne_eq, List.length_replicate, wD, Nat.reduceAdd, Nat.reduceEqDiff, Nat.reduceBEq, ↓reduceIte, reduceCtorEq, SX.exit.injEq, if_true, if_false, Int.reduceAdd, Int.reduceSub, Int.reduceMul, Int.reduceLT, Int.reduceLE, Int.reduceEq, Int.reduceNe, Int.reduceNeg, Int.reduceToNat, Nat.reduceMul, Nat.reduceLT, Nat.reduceSub, Nat.reduceLeDiff]
    refine ⟨i + 1, by omega, ⟨by omega, by omega⟩, ?_⟩
    rw [show i + 1 - 1 = i by omega]
    exact ⟨[(74, .nil)], rfl, au0, au5, au6⟩
  · simp (maxSteps := 1000000) (disch := first | omega | exact PairsOK.mk rfl | (simp only [lenW] <;> omega)) only [hlt, Int.reduceGT, ne_eq, List.length_replicate, wD, Nat.reduceAdd, Nat.reduceEqDiff, Nat.reduceBEq, ↓reduceIte, reduceCtorEq, SX.exit.injEq, if_true, if_false, Int.reduceAdd, Int.reduceSub, Int.reduceMul, Int.reduceLT, Int.reduceLE, Int.reduceEq, Int.reduceNe, Int.reduceNeg, Int.reduceToNat, Nat.reduceMul, Nat.reduceLT, Nat.reduceSub, Nat.reduceLeDiff]
    refine ⟨.inl trivial, _, rfl, rfl, ?_⟩
    have : isort l (i - 1) = srtR l := by
      unfold srtR
      rcases hi2 with h | h
      · rw [show i = l.length by omega]
      · subst h
        rw [show l.length - 1 = 1 - 1 by omega]
    rw [← this]
    exact ⟨[(74, .nil)], rfl, au0, au5, au6⟩
end Go.AM.SE
namespace Go.AM.SE
open Go.Proofs Go.AM.SD
set_option maxRecDepth 100000
set_option linter.unusedSimpArgs false
set_option linter.unusedVariables false
def lenT (k : Nat) : Int := ([0, 1, 2, 2, 3, 3, 3, 3, 4, 4, 4, 4, 4] : List Int).getD k 0
set_option maxHeartbeats 16000000 in
theorem len80 (k : Nat) (hk : k ≤ 12) : PSpec Try.prog 80 [.int .u64 k] (.int .i64 (lenT k)) := by
  refine PSpec.of_flat 64 ok80 rfl rfl rfl ?_
  have h : k = 0 ∨ k = 1 ∨ k = 2 ∨ k = 3 ∨ k = 4 ∨ k = 5 ∨ k = 6 ∨ k = 7 ∨ k = 8 ∨ k = 9 ∨ k = 10 ∨ k = 11 ∨ k = 12 := by omega
  rcases h with rfl | rfl | rfl | rfl | rfl | rfl | rfl | rfl | rfl | rfl | rfl | rfl | rfl <;>
  · simp (maxSteps := 1000000) (disch := first | omega | exact PairsOK.mk rfl | (simp only [lenW] <;> omega)) only [s80, Int.cast_ofNat_Int, Int.reduceGT, ne_eq, List.length_replicate, wD, Nat.reduceAdd, Nat.reduceEqDiff, Nat.reduceBEq, ↓reduceIte, reduceCtorEq, SX.exit.injEq, if_true, if_false, Int.reduceAdd, Int.reduceSub, Int.reduceMul, Int.reduceLT, Int.reduceLE, Int.reduceEq, Int.reduceNe, Int.reduceNeg, Int.reduceToNat, Nat.reduceMul, Nat.reduceLT, Nat.reduceSub, Nat.reduceLeDiff]
    refine ⟨_, rfl, ?_⟩
    simp (maxSteps := 1000000) (disch := first | omega | exact PairsOK.mk rfl | (simp only [lenW] <;> omega)) only [Int.cast_ofNat_Int, Int.reduceGT, ne_eq, List.length_replicate, wD, Nat.reduceAdd, Nat.reduceEqDiff, Nat.reduceBEq, ↓reduceIte, reduceCtorEq, SX.exit.injEq, if_true, if_false, Int.reduceAdd, Int.reduceSub, Int.reduceMul, Int.reduceLT, Int.reduceLE, Int.reduceEq, Int.reduceNe, Int.reduceNeg, Int.reduceToNat, Nat.reduceMul, Nat.reduceLT, Nat.reduceSub, Nat.reduceLeDiff]
    exact ⟨.inr trivial, _, rfl, rfl⟩
theorem len64 (k : Nat) (hk : k ≤ 12) : PSpec Try.prog 64 [.int .u64 k] (.int .i64 (lenT k)) := by
  refine PSpec.of_flat 64 ok64 rfl rfl rfl ?_
  simp (maxSteps := 1000000) (disch := first | omega | exact PairsOK.mk rfl | (simp only [lenW] <;> omega)) only [s64, Int.reduceGT, ne_eq, List.length_replicate, wD, Nat.reduceAdd, Nat.reduceEqDiff, Nat.reduceBEq, ↓reduceIte, reduceCtorEq, SX.exit.injEq, if_true, if_false, Int.reduceAdd, Int.reduceSub, Int.reduceMul, Int.reduceLT, Int.reduceLE, Int.reduceEq, Int.reduceNe, Int.reduceNeg, Int.reduceToNat, Nat.reduceMul, Nat.reduceLT, Nat.reduceSub, Nat.reduceLeDiff]
  refine cp (len80 k hk) ?_
  simp (maxSteps := 1000000) (disch := first | omega | exact PairsOK.mk rfl | (simp only [lenW] <;> omega)) only [Int.reduceGT, ne_eq, List.length_replicate, wD, Nat.reduceAdd, Nat.reduceEqDiff, Nat.reduceBEq, ↓reduceIte, reduceCtorEq, SX.exit.injEq, if_true, if_false, Int.reduceAdd, Int.reduceSub, Int.reduceMul, Int.reduceLT, Int.reduceLE, Int.reduceEq, Int.reduceNe, Int.reduceNeg, Int.reduceToNat, Nat.reduceMul, Nat.reduceLT, Nat.reduceSub, Nat.reduceLeDiff]
  exact ⟨.inr trivial, _, rfl, rfl⟩
set_option maxHeartbeats 16000000 in
theorem sort63 (l : List Rm) (hst : ∀ r ∈ l, r.st ≤ 4096) (hl : l.length ≤ 12) (lim : Int) :
    HSpec Try.prog 63 [.sl 74 0 0 l.length 4, .int .i64 0, .int .i64 l.length, .int .i64 lim, .fn 52 [] []] (hp [(74, .cells 0 (l.flatMap rmC))]) (.tup []) (hp [(74, .cells 0 ((srtR l).flatMap rmC))]) := by
  refine HSpec.of_rec (m := 75) 100 ok63 rfl rfl rfl ?_
  simp (maxSteps := 1000000) (disch := first | omega | exact PairsOK.mk rfl | (simp only [lenW] <;> omega)) only [s63, Int.reduceGT, ne_eq, List.length_replicate, wD, Nat.reduceAdd, Nat.reduceEqDiff, Nat.reduceBEq, ↓reduceIte, reduceCtorEq, SX.exit.injEq, if_true, if_false, Int.reduceAdd, Int.reduceSub, Int.reduceMul, Int.reduceLT, Int.reduceLE, Int.reduceEq, Int.reduceNe, Int.reduceNeg, Int.reduceToNat, Nat.reduceMul, Nat.reduceLT, Nat.reduceSub, Nat.reduceLeDiff]
  refine wS_loopR 110 (fun _ : Unit => [(0, .sl 74 0 0 l.length 4), (1, .int .i64 0), (2, .int .i64 l.length), (3, .int .i64 lim), (4, .fn 52 [] []), (10, .bool true), (11, .bool true)])
    (fun _ => [(74, .cells 0 (l.flatMap rmC))]) (fun _ => True) (fun _ => 0) () ⟨[(74, .nil)], rfl, au0, au5, au6⟩ trivial ?_
  rintro _ _
  have h12 : (l.length : Int) ≤ 12 := by omega
  have h0 : (l.length : Int) - 0 = l.length := by omega
  simp (maxSteps := 1000000) (disch := first | omega | exact PairsOK.mk rfl | (simp only [lenW] <;> omega)) only [h12, h0, Int.reduceGT, ne_eq, List.length_replicate, wD, Nat.reduceAdd, Nat.reduceEqDiff, Nat.reduceBEq, ↓reduceIte, reduceCtorEq, SX.exit.injEq, if_true, if_false, Int.reduceAdd, Int.reduceSub, Int.reduceMul, Int.reduceLT, Int.reduceLE, Int.reduceEq, Int.reduceNe, Int.reduceNeg, Int.reduceToNat, Nat.reduceMul, Nat.reduceLT, Nat.reduceSub, Nat.reduceLeDiff]
  refine ch (isort71 l hst (by omega)) ?_
  simp (maxSteps := 1000000) (disch := first | omega | exact PairsOK.mk rfl | (simp only [lenW] <;> omega)) only [Int.reduceGT, ne_eq, List.length_replicate, wD, Nat.reduceAdd, Nat.reduceEqDiff, Nat.reduceBEq, ↓reduceIte, reduceCtorEq, SX.exit.injEq, if_true, if_false, Int.reduceAdd, Int.reduceSub, Int.reduceMul, Int.reduceLT, Int.reduceLE, Int.reduceEq, Int.reduceNe, Int.reduceNeg, Int.reduceToNat, Nat.reduceMul, Nat.reduceLT, Nat.reduceSub, Nat.reduceLeDiff]
  exact ⟨.inr trivial, _, rfl, rfl, ⟨[(74, .nil)], rfl, au0, au5, au6⟩⟩
theorem sort51 (l : List Rm) (hst : ∀ r ∈ l, r.st ≤ 4096) (hl : l.length ≤ 12) :
    HSpec Try.prog 51 [.sl 74 0 0 l.length 4, .fn 52 [] []] (hp [(74, .cells 0 (l.flatMap rmC))]) (.tup []) (hp [(74, .cells 0 ((srtR l).flatMap rmC))]) := by
  refine HSpec.of_rec (m := 75) 100 ok51 rfl rfl rfl ?_
  simp (maxSteps := 1000000) (disch := first | omega | exact PairsOK.mk rfl | (simp only [lenW] <;> omega)) only [s51, Int.reduceGT, ne_eq, List.length_replicate, wD, Nat.reduceAdd, Nat.reduceEqDiff, Nat.reduceBEq, ↓reduceIte, reduceCtorEq, SX.exit.injEq, if_true, if_false, Int.reduceAdd, Int.reduceSub, Int.reduceMul, Int.reduceLT, Int.reduceLE, Int.reduceEq, Int.reduceNe, Int.reduceNeg, Int.reduceToNat, Nat.reduceMul, Nat.reduceLT, Nat.reduceSub, Nat.reduceLeDiff]
  refine cp (len64 l.length hl) ?_
  simp (maxSteps := 1000000) (disch := first | omega | exact PairsOK.mk rfl | (simp only [lenW] <;> omega)) only [Int.reduceGT, ne_eq, List.length_replicate, wD, Nat.reduceAdd, Nat.reduceEqDiff, Nat.reduceBEq, ↓reduceIte, reduceCtorEq, SX.exit.injEq, if_true, if_false, Int.reduceAdd, Int.reduceSub, Int.reduceMul, Int.reduceLT, Int.reduceLE, Int.reduceEq, Int.reduceNe, Int.reduceNeg, Int.reduceToNat, Nat.reduceMul, Nat.reduceLT, Nat.reduceSub, Nat.reduceLeDiff]
  refine ch (sort63 l hst hl _) ?_
  simp (maxSteps := 1000000) (disch := first | omega | exact PairsOK.mk rfl | (simp only [lenW] <;> omega)) only [Int.reduceGT, ne_eq, List.length_replicate, wD, Nat.reduceAdd, Nat.reduceEqDiff, Nat.reduceBEq, ↓reduceIte, reduceCtorEq, SX.exit.injEq, if_true, if_false, Int.reduceAdd, Int.reduceSub, Int.reduceMul, Int.reduceLT, Int.reduceLE, Int.reduceEq, Int.reduceNe, Int.reduceNeg, Int.reduceToNat, Nat.reduceMul, Nat.reduceLT, Nat.reduceSub, Nat.reduceLeDiff]
  exact ⟨.inl trivial, _, rfl, rfl, ⟨[(74, .nil)], rfl, au0, au5, au6⟩⟩
theorem sortH {l : List Rm} {h : Heap} (hst : ∀ r ∈ l, r.st ≤ 4096) (hl : l.length ≤ 12) (hb : h.get 74 = some (.cells 0 (l.flatMap rmC))) :
    HSpec Try.prog 51 [.sl 74 0 0 l.length 4, .fn 52 [] []] h (.tup []) (h.set 74 (.cells 0 ((srtR l).flatMap rmC))) :=
  HSpec.frame1 (sort51 l hst hl) (Only1.sl (Only1.same rfl Only1.nil)) rfl (flat_rm _) (flat_rm _) hb rfl
theorem aEq_nilnil : aEq (.nil 2) false .nilsl .nilsl = some (.bool true) := rfl
theorem aEq_nslnil : aEq (.nil 2) false .nsl .nilsl = some (.bool false) := rfl
theorem aAppend_slE {P : Program} {N : NM} {n : Nat} {d : Option Nat} {dead : List Nat} {r : List SOper} {T : Tmps} {h : Heap} {Q : QC} {fs : List Fr} {sz bytes b2 g2 off2 len2 : Nat} : wM P N (aAppend .dyn n sz bytes (.sl b2 g2 off2 len2 sz) .nsl) d r dead fs n T h Q =
    wA P N (srcB (h.get b2) g2 off2 len2 sz) (some []) g2 len2 0 sz bytes b2 d r dead fs n T h Q := aAppend_slN
theorem clone_nil : HSpec Try.prog 56 [.nilsl] .e (.sl 83 0 0 0 1) (hp [(83, .cells 0 [])]) := by
  refine HSpec.of_new 100 ok56 rfl ?_
  simp (maxSteps := 1000000) (disch := first | omega | exact PairsOK.mk rfl | (simp only [lenW] <;> omega)) only [s56, aEq_nilnil, Int.reduceGT, ne_eq, List.length_replicate, wD, Nat.reduceAdd, Nat.reduceEqDiff, Nat.reduceBEq, ↓reduceIte, reduceCtorEq, SX.exit.injEq, if_true, if_false, Int.reduceAdd, Int.reduceSub, Int.reduceMul, Int.reduceLT, Int.reduceLE, Int.reduceEq, Int.reduceNe, Int.reduceNeg, Int.reduceToNat, Nat.reduceMul, Nat.reduceLT, Nat.reduceSub, Nat.reduceLeDiff]
  exact ⟨.inr trivial, _, rfl, ⟨[(83, .nil)], rfl, au0, au5, au6⟩⟩
theorem clone_nsl : HSpec Try.prog 56 [.nsl] .e (.sl 83 0 0 0 1) (hp [(83, .cells 0 [])]) := by
  refine HSpec.of_new 100 ok56 rfl ?_
  simp (maxSteps := 1000000) (disch := first | omega | exact PairsOK.mk rfl | (simp only [lenW] <;> omega)) only [s56, aEq_nslnil, aAppend_slE, Int.reduceGT, ne_eq, List.length_replicate, wD, Nat.reduceAdd, Nat.reduceEqDiff, Nat.reduceBEq, ↓reduceIte, reduceCtorEq, SX.exit.injEq, if_true, if_false, Int.reduceAdd, Int.reduceSub, Int.reduceMul, Int.reduceLT, Int.reduceLE, Int.reduceEq, Int.reduceNe, Int.reduceNeg, Int.reduceToNat, Nat.reduceMul, Nat.reduceLT, Nat.reduceSub, Nat.reduceLeDiff]
  exact ⟨.inr trivial, _, rfl, ⟨[(83, .blk 103 1)], rfl, au0, au5, au6⟩⟩
theorem clone56 (l : List Nat) (hl : l.length ≤ 1000000) : HSpec Try.prog 56 [sliN l] .e (.sl 83 0 0 l.length 1) (hp [(83, .cells 0 (ints (nz l)))]) := by
  cases l with
  | nil => exact HSpec.empty clone_nil clone_nsl
  | cons x l =>
    refine HSpec.of_new 100 ok56 rfl ?_
    have hq : aEq (.nil 2) false (sliN (x :: l)) .nilsl = some (.bool false) := rfl
    have hone : (ints (nz (x :: l))).all AV.one = true := by simp [ints, AV.one]
    generalize x :: l = q at *
    simp (maxSteps := 1000000) (disch := first | omega | exact PairsOK.mk rfl | (simp only [lenW] <;> omega)) only [s56, hq, hone, Int.reduceGT, ne_eq, List.length_replicate, wD, Nat.reduceAdd, Nat.reduceEqDiff, Nat.reduceBEq, ↓reduceIte, reduceCtorEq, SX.exit.injEq, if_true, if_false, Int.reduceAdd, Int.reduceSub, Int.reduceMul, Int.reduceLT, Int.reduceLE, Int.reduceEq, Int.reduceNe, Int.reduceNeg, Int.reduceToNat, Nat.reduceMul, Nat.reduceLT, Nat.reduceSub, Nat.reduceLeDiff]
    exact ⟨.inr trivial, _, rfl, ⟨[(83, .blk 103 1)], rfl, au0, au5, au6⟩⟩
end Go.AM.SE
namespace Go.AM.SE
open Go.Proofs Go.AM.SD
set_option maxRecDepth 100000
set_option linter.unusedSimpArgs false
set_option linter.unusedVariables false
abbrev frzE (es : List Ed) (left : Nat → Bool) : Nat → AV := fun k => egsN (sOut es left k)
abbrev rowE (es : List Ed) (left : Nat → Bool) : Nat → List AV := fun k => (sOut es left k).flatMap edC
abbrev ptrE (es : List Ed) (left : Nat → Bool) : Nat → AV := fun k => .sl (300 + k) 0 0 (sOut es left k).length 3
theorem noRefs_rowE (es : List Ed) (left : Nat → Bool) (l : List Nat) : noRefs (l.map (frzE es left)) = true := noRefs_mapS (fun x => noRef_egsN _) l
theorem ed_len (l : List Ed) : (l.flatMap edC).length = l.length * 3 := flat_len (f := edC) (k := 3) (fun _ => rfl) l
theorem flat_ed (l : List Ed) : flatVs (l.flatMap edC) = true := by
  induction l with
  | nil => rfl
  | cons x l ih => rw [List.flatMap_cons]; simp only [edC, List.cons_append, List.nil_append, flatVs, flatV, Bool.true_and]; exact ih
theorem sOut_take {es : List Ed} {left : Nat → Bool} {i : Nat} {e : Ed} (h : es[i]? = some e) (v : Nat) : sOut (es.take (i + 1)) left v = sOut (es.take i) left v ++ if e.1 = v ∧ left e.2.2 = true then [e] else [] := by
  unfold sOut
  rw [List.take_add_one, h, Option.toList, List.filter_append]
  congr 1
  by_cases h1 : e.1 = v <;> by_cases h2 : left e.2.2 = true <;> simp [h1, h2]
theorem sOut_len (es : List Ed) (left : Nat → Bool) (v : Nat) : (sOut es left v).length ≤ es.length := by
  unfold sOut; exact List.length_filter_le _ _
theorem repN (n : Nat) : (List.replicate n [AV.nilsl]).flatten = (List.range n).map fun _ => AV.nilsl := by
  rw [List.map_const', List.length_range]
  induction n with
  | zero => rfl
  | succ n ih => rw [List.replicate_succ, List.flatten_cons, ih]; rfl
theorem frz_head {es : List Ed} {left : Nat → Bool} {n i : Nat} (h : i < n) : ((List.range n).map (frzE es left))[i]? = some (egsN (sOut es left i)) := range_get h
abbrev numF (o : List Nat) : Nat → AV := fun x => .int .i64 (idx o x : Nat)
def mks (a : Aut) (i : Nat) (o : List Nat) : List Nat := (List.range i).filter fun j => a.ms.contains (o.getD j 0)
theorem mks_len {a : Aut} {i : Nat} {o : List Nat} : (mks a i o).length ≤ i := by
  unfold mks; exact Nat.le_trans (List.length_filter_le _ _) (by simp)
theorem mks_app {a : Aut} {i : Nat} {o t : List Nat} (h : i ≤ o.length) : mks a i (o ++ t) = mks a i o := by
  unfold mks
  refine List.filter_congr fun j hj => ?_
  have := List.mem_range.1 hj
  rw [List.getD_eq_getElem?_getD, List.getD_eq_getElem?_getD, List.getElem?_append_left (by omega)]
theorem mks_succ {a : Aut} {i v : Nat} {o : List Nat} (h : o[i]? = some v) : mks a (i + 1) o = mks a i o ++ if a.ms.contains v then [i] else [] := by
  unfold mks
  rw [List.range_succ, List.filter_append]
  congr 1
  have : o.getD i 0 = v := by rw [List.getD_eq_getElem?_getD, h]; rfl
  rw [List.filter_cons, this]; rfl
theorem sRow_take {i : Nat} {s : OE} {es : List Ed} {j : Nat} {e : Ed} (h : es[j]? = some e) : (es.take (j + 1)).foldl (sEd i) s = sEd i ((es.take j).foldl (sEd i) s) e := by
  rw [List.take_add_one, h, Option.toList, List.foldl_append]; rfl
theorem sRow_len {i : Nat} : ∀ (es : List Ed) (s : OE), (es.foldl (sEd i) s).2.length = s.2.length + es.length
  | [], s => by simp
  | e :: es, s => by
    rw [List.foldl_cons, sRow_len es]
    unfold sEd; split <;> simp <;> omega
abbrev ablk (a : Aut) : List AV := [.sl 83 0 0 a.al.length 1, .int .i64 0, .nilsl, .nilsl]
theorem _root_.Go.AM.au7 {p : Prop} (h : p := by repeat (first | exact RT.nil | (refine RT.cons ?_ ?_; · (first | exact Rn.any | exact Rn.x1 rfl rfl | exact Rn.x2 rfl rfl | exact Rn.x3 rfl rfl | exact Rn.x4 rfl rfl | exact Rn.x5 rfl | exact Rn.x6 rfl | exact Rn.x7 rfl | (refine Rn.slot ?_ ?_; (first | rfl | (rw [Int.natCast_add]; rfl)); (first | rfl | (simp only [noRef, noRefs, noRefs_append, Bool.and_self, Bool.and_true, Bool.true_and, noRefs_ints, noRefs_eg, noRefs_ed, noRefs_rm, noRefs_ls, noRefs_bk, noRefs_bls, noRef_sli, noRef_sliN, noRef_egs, noRef_egsN, noRefs_keysI, noRefs_back, noRefs_rowE]; done))) | (refine Rn.fn ?_ ?_ <;> (repeat' (first | exact RnL.nil | refine RnL.cons ?_ ?_ | exact Rn.same rfl | exact Rn.x6 rfl | exact Rn.x2 rfl rfl | exact Rn.x5 rfl | exact Rn.x1 rfl rfl))))))) : p := h
theorem _root_.Go.AM.au8 {p : Prop} (h : p := by repeat' (first | exact RB.nil | (refine RnL.same ?_; first | rfl | (simp only [noRef, noRefs, noRefs_append, Bool.and_self, Bool.and_true, Bool.true_and, noRefs_ints, noRefs_eg, noRefs_ed, noRefs_rm, noRefs_ls, noRefs_bk, noRefs_bls, noRef_sli, noRef_sliN, noRef_egs, noRef_egsN, noRefs_keysI, noRefs_back, noRefs_rowE]; done)) | exact RnM.keyM rfl | exact RnL.nil | exact (True.intro : RnM _ _ _ [] []) | refine RnL.cons ?_ ?_ | (refine Rn.same ?_; first | rfl | (simp only [noRef, noRefs, noRefs_append, Bool.and_self, Bool.and_true, Bool.true_and, noRefs_ints, noRefs_eg, noRefs_ed, noRefs_rm, noRefs_ls, noRefs_bk, noRefs_bls, noRef_sli, noRef_sliN, noRef_egs, noRef_egsN, noRefs_keysI, noRefs_back, noRefs_rowE]; done)) | exact Rn.x1 rfl rfl | exact Rn.x2 rfl rfl | exact Rn.x3 rfl rfl | exact Rn.x4 rfl rfl | exact Rn.x5 rfl | exact Rn.x6 rfl | exact Rn.x7 rfl | refine RB.newnil rfl rfl ?_ | refine RB.cells rfl rfl rfl ?_ ?_ | refine RB.map rfl rfl rfl ?_ ?_ | refine RB.cellsB rfl rfl ?_ ?_ | refine RB.mapB rfl rfl ?_ ?_)) : p := h
set_option maxHeartbeats 16000000 in
theorem super54 (a : Aut) (u : List Nat) (l : LB) (hw : WfA a) (hl : l.length = a.n) (hel : a.es.length ≤ 1000000) (hul : u.length ≤ 1000000) :
    FSpec Try.prog 54 [pv a u l] (.tup [aV (restr a (lf l)), sliN (sAll a (lf l)).1]) := by
  have hn5 := hw.n5
  have hal : a.al.length ≤ 5 := nodup_len 5 a.al (by rw [List.nodup_iff_pairwise_ne]; exact hw.al.imp fun h => by omega) hw.al5
  have hms : a.ms.length ≤ a.n := nodup_len a.n a.ms hw.nd hw.msn
  refine FSpec.of_wS 60 ok54 rfl (by (try simp only [noRefs, noRefs_keysI, noRefs_back, noRefs_ints, noRefs_eg, noRefs_ed, noRefs_rm, noRefs_ls, noRefs_bls, noRef, Bool.and_self, Bool.and_true]) <;> rfl) (by simp only [noRef, noRefs, noRefs_ints, noRefs_ed]; rfl) ?_
  simp (maxSteps := 1000000) (disch := first | omega | exact PairsOK.mk rfl | (simp only [lenW] <;> omega)) only [s54, Int.reduceGT, ne_eq, List.length_replicate, wD, Nat.reduceAdd, Nat.reduceEqDiff, Nat.reduceBEq, ↓reduceIte, reduceCtorEq, SX.exit.injEq, if_true, if_false, Int.reduceAdd, Int.reduceSub, Int.reduceMul, Int.reduceLT, Int.reduceLE, Int.reduceEq, Int.reduceNe, Int.reduceNeg, Int.reduceToNat, Nat.reduceMul, Nat.reduceLT, Nat.reduceSub, Nat.reduceLeDiff]
  refine ch (HSpec.of_O (b := 83) (by (try simp only [noRefs, noRefs_keysI, noRefs_back, noRefs_ints, noRefs_eg, noRefs_ed, noRefs_rm, noRefs_ls, noRefs_bls, noRef, Bool.and_self, Bool.and_true]) <;> rfl) (clone56 a.al (by omega)) (by repeat (first | exact Fresh.e | exact Fresh.le (by assumption) (by omega) | refine Fresh.set ?_ (by omega) (by omega))) rfl) ?_
  by_cases h0 : a.n = 0
  · have e : sAll a (lf l) = ([], []) := by unfold sAll; rw [h0]; rfl
    have h0' : (a.n : Int) = 0 := by omega
    simp (maxSteps := 1000000) (disch := first | omega | exact PairsOK.mk rfl | (simp only [lenW] <;> omega)) only [h0', Int.reduceGT, ne_eq, List.length_replicate, wD, Nat.reduceAdd, Nat.reduceEqDiff, Nat.reduceBEq, ↓reduceIte, reduceCtorEq, SX.exit.injEq, if_true, if_false, Int.reduceAdd, Int.reduceSub, Int.reduceMul, Int.reduceLT, Int.reduceLE, Int.reduceEq, Int.reduceNe, Int.reduceNeg, Int.reduceToNat, Nat.reduceMul, Nat.reduceLT, Nat.reduceSub, Nat.reduceLeDiff]
    refine ⟨.inr trivial, _, rfl, ?_⟩
    have hr : restr a (lf l) = ⟨a.al, 0, [], []⟩ := by unfold restr; rw [e]; rfl
    rw [hr, e]
    exact RnO.tup (RnOL.cons (RnO.agg (RnOL.cons (RnO.slm (g := 0) rfl rfl rfl (flat_ints _) (by simp [ints])) (RnOL.cons (RnO.flat rfl) (RnOL.cons RnO.nil (RnOL.cons RnO.nil RnOL.nil))))) (RnOL.cons RnO.nil RnOL.nil))
  have h0' : ¬ (a.n : Int) = 0 := by omega
  have h0n : (0 : Int) < (a.n : Int) := by omega
  have h0l : 0 < l.length := by omega
  have hh0 : (bls l).head? = some (.bool (lf l 0)) := by have := head_bls h0l; simpa using this
  by_cases hl0 : lf l 0 = true
  · have hn' : (a.n : Int) ≤ 1099511627776 := by omega
    have hn24 : (24 : Int) * (a.n : Int) ≤ 1099511627776 := by omega
    simp (maxSteps := 1000000) (disch := first | omega | exact PairsOK.mk rfl | (simp only [lenW] <;> omega)) only [h0', h0n, hh0, hl0, hn', hn24, repN, Int.reduceGT, ne_eq, List.length_replicate, wD, Nat.reduceAdd, Nat.reduceEqDiff, Nat.reduceBEq, ↓reduceIte, reduceCtorEq, SX.exit.injEq, if_true, if_false, Int.reduceAdd, Int.reduceSub, Int.reduceMul, Int.reduceLT, Int.reduceLE, Int.reduceEq, Int.reduceNe, Int.reduceNeg, Int.reduceToNat, Nat.reduceMul, Nat.reduceLT, Nat.reduceSub, Nat.reduceLeDiff]
    have hrn : ∀ k ∈ List.range a.n, k < 1000000 := fun k hk => by have := List.mem_range.1 hk; omega
    refine wS_loopX 100 (fun i : Nat => [(0, pv a u l), (2, .ptr 60 0 0), (4, .ptr 69 0 0), (5, .sl 78 0 0 a.n 1), (48, egsN a.es), (49, .int .i64 a.es.length), (50, .int .i64 i)])
      (fun i => [(60, .cells 0 [.nilsl, .int .i64 0, .nilsl, .nilsl]), (69, .cells 0 (ablk a)), (83, .cells 0 (ints (nz a.al))), (78, .cells 0 ((List.range a.n).map (ptrE (a.es.take i) (lf l))))] ++ rowsL (rowE (a.es.take i) (lf l)) (List.range a.n))
      (fun i => i ≤ a.es.length) (fun i => a.es.length - i) 0 0 160
      (fun _ : Unit => [(0, pv a u l), (2, .ptr 60 0 0), (4, .ptr 69 0 0), (5, .sl 78 0 0 a.n 1)])
      (fun _ => [(60, .cells 0 [.nilsl, .int .i64 0, .nilsl, .nilsl]), (69, .cells 0 (ablk a)), (83, .cells 0 (ints (nz a.al))), (78, .cells 0 ((List.range a.n).map (frzE a.es (lf l))))]) (fun _ => True) ?_ (Nat.zero_le _) ?_ ?_
    · refine ⟨[(60, .blk 60 0), (69, .blk 69 0), (83, .blk 83 0), (78, .blk 91 0)] ++ psL (fun _ => .nil) (List.range a.n), okPs_app (okPs_rows List.nodup_range hrn (fun _ _ _ _ _ b g b' g' h => by cases h)) rfl (by decide) (fun _ _ _ _ _ _ _ b g h => by cases h), RO.zero, ?_, au7⟩
      refine RB.cells rfl rfl rfl (RnL.same rfl) (RB.cells rfl rfl rfl ?_ (RB.cells rfl rfl rfl (RnL.same (noRefs_ints _)) (RB.cells rfl rfl rfl (RnL_map fun k hk => Rn.x4 rfl (ow_app hk (A := [(60, .blk 60 0), (69, .blk 69 0), (83, .blk 83 0), (78, .blk 91 0)]) (by decide))) ?_)))
      · repeat' (first | exact RB.nil | (refine RnL.same ?_; first | rfl | (simp only [noRef, noRefs, noRefs_append, Bool.and_self, Bool.and_true, Bool.true_and, noRefs_ints, noRefs_eg, noRefs_ed, noRefs_rm, noRefs_ls, noRefs_bk, noRefs_bls, noRef_sli, noRef_sliN, noRef_egs, noRef_egsN, noRefs_keysI, noRefs_back, noRefs_rowE]; done)) | exact RnM.keyM rfl | exact RnL.nil | exact (True.intro : RnM _ _ _ [] []) | refine RnL.cons ?_ ?_ | (refine Rn.same ?_; first | rfl | (simp only [noRef, noRefs, noRefs_append, Bool.and_self, Bool.and_true, Bool.true_and, noRefs_ints, noRefs_eg, noRefs_ed, noRefs_rm, noRefs_ls, noRefs_bk, noRefs_bls, noRef_sli, noRef_sliN, noRef_egs, noRef_egsN, noRefs_keysI, noRefs_back, noRefs_rowE]; done)) | exact Rn.x1 rfl rfl | exact Rn.x2 rfl rfl | exact Rn.x3 rfl rfl | exact Rn.x4 rfl rfl | exact Rn.x5 rfl | exact Rn.x6 rfl | exact Rn.x7 rfl | refine RB.newnil rfl rfl ?_ | refine RB.cells rfl rfl rfl ?_ ?_ | refine RB.map rfl rfl rfl ?_ ?_ | refine RB.cellsB rfl rfl ?_ ?_ | refine RB.mapB rfl rfl ?_ ?_)
      · exact RB_rows fun k hk => RB.newnil rfl (ow_app hk (A := [(60, .blk 60 0), (69, .blk 69 0), (83, .blk 83 0), (78, .blk 91 0)]) (by decide)) RB.nil
    · rintro i hi
      have hr0 : ∀ b, b < 300 → (hp (rowsL (rowE (a.es.take i) (lf l)) (List.range a.n))).get b = none := fun b hb => rowsL_none hrn fun k hk => by omega
      by_cases hlt : i < a.es.length
      · obtain ⟨e, he⟩ := get_ex hlt
        obtain ⟨hfr, hto⟩ := hw.esn e (List.mem_of_getElem? he)
        have hroom : ∀ k : Nat, k < a.n → (hp (rowsL (rowE (a.es.take i) (lf l)) (List.range a.n))).get (300 + k) = some (.cells 0 (rowE (a.es.take i) (lf l) k)) := fun k hk => rowsL_get List.nodup_range hrn (List.mem_range.2 hk)
        have hrow := hroom e.1 hfr
        have htl : e.2.2 < l.length := by omega
        have hstep := sOut_take (left := lf l) he
        have hpl := sOut_len (a.es.take i) (lf l) e.1
        rw [List.length_take] at hpl
        have hel2 := ed_len (sOut (a.es.take i) (lf l) e.1)
        by_cases h1 : lf l e.2.2 = true
        · simp (maxSteps := 1000000) (disch := first | omega | exact PairsOK.mk rfl | (simp only [lenW] <;> omega)) only [List.cons_append, List.nil_append, hlt, drop_eds he, hr0, hto, head_bls htl, h1, Int.reduceGT, ne_eq, List.length_replicate, wD, Nat.reduceAdd, Nat.reduceEqDiff, Nat.reduceBEq, ↓reduceIte, reduceCtorEq, SX.exit.injEq, if_true, if_false, Int.reduceAdd, Int.reduceSub, Int.reduceMul, Int.reduceLT, Int.reduceLE, Int.reduceEq, Int.reduceNe, Int.reduceNeg, Int.reduceToNat, Nat.reduceMul, Nat.reduceLT, Nat.reduceSub, Nat.reduceLeDiff]
          refine wS_regionH [(69, [300 + e.1])] rfl ?_ ?_
          · exact pairs_cons (a := [103]) (b := [123, 300 + e.1, 122]) rfl rfl (fun x hx => by simp only [List.mem_cons, List.not_mem_nil, or_false] at hx ⊢; omega) pairs_nil
          have hfr1 : e.1 + 1 ≤ a.n := by omega
          simp (maxSteps := 1000000) (disch := first | omega | exact PairsOK.mk rfl | (simp only [lenW] <;> omega)) only [hr0, hfr, hrow, hel2, range_get hfr, range_set hfr, List.length_range, hfr1, Int.reduceGT, ne_eq, List.length_replicate, wD, Nat.reduceAdd, Nat.reduceEqDiff, Nat.reduceBEq, ↓reduceIte, reduceCtorEq, SX.exit.injEq, if_true, if_false, Int.reduceAdd, Int.reduceSub, Int.reduceMul, Int.reduceLT, Int.reduceLE, Int.reduceEq, Int.reduceNe, Int.reduceNeg, Int.reduceToNat, Nat.reduceMul, Nat.reduceLT, Nat.reduceSub, Nat.reduceLeDiff]
          refine ⟨⟨⟨_, rfl, fun b hb => hb⟩, trivial⟩, i + 1, by omega, by omega, ?_⟩
          have hsb : ∀ k b g, (fun k => if k = e.1 then Src.blk (300 + e.1) 1 else Src.blk (300 + k) 0) k = .blk b g → b = 300 + k := by
            intro k b g h2
            dsimp only at h2
            split at h2 <;> cases h2
            · rename_i h3; rw [h3]
            · rfl
          refine ⟨[(60, .blk 60 0), (69, .blk 69 0), (83, .blk 83 0), (78, .blk 78 0)] ++ psL (fun k => if k = e.1 then Src.blk (300 + e.1) 1 else Src.blk (300 + k) 0) (List.range a.n), okPs_app (A := [(60, .blk 60 0), (69, .blk 69 0), (83, .blk 83 0), (78, .blk 78 0)]) (L := [(60, _), (69, _), (83, _), (78, _)]) (okPs_rows List.nodup_range hrn (fun k hk j hj hkj b g b' g' h1 h2 => ?_)) rfl (by decide) (fun p hp b g hb k hk b' g' h1 => ?_), RO.zero, ?_, au7⟩
          · have := hsb k b g h1
            have := hsb j b' g' h2
            omega
          · have h2 := hsb k b' g' h1
            simp only [List.mem_cons, List.not_mem_nil, or_false] at hp
            rcases hp with rfl | rfl | rfl | rfl <;> cases hb <;> omega
          refine RB.cells rfl rfl (by first | (simp (disch := omega) only [get_same, get_ne, hp_cons]; done) | (simp (disch := omega) only [get_same, get_ne, hp_cons]; rfl)) (RnL.same rfl) (RB.cells rfl rfl (by first | (simp (disch := omega) only [get_same, get_ne, hp_cons]; done) | (simp (disch := omega) only [get_same, get_ne, hp_cons]; rfl)) ?_ (RB.cells rfl rfl (by first | (simp (disch := omega) only [get_same, get_ne, hp_cons]; done) | (simp (disch := omega) only [get_same, get_ne, hp_cons]; rfl)) (RnL.same (noRefs_ints _)) (RB.cells rfl rfl (by first | (simp (disch := omega) only [get_same, get_ne, hp_cons]; done) | (simp (disch := omega) only [get_same, get_ne, hp_cons]; rfl)) (RnL_map fun k hk => ?_) (RB_rows fun k hk => ?_))))
          · repeat' (first | exact RB.nil | (refine RnL.same ?_; first | rfl | (simp only [noRef, noRefs, noRefs_append, Bool.and_self, Bool.and_true, Bool.true_and, noRefs_ints, noRefs_eg, noRefs_ed, noRefs_rm, noRefs_ls, noRefs_bk, noRefs_bls, noRef_sli, noRef_sliN, noRef_egs, noRef_egsN, noRefs_keysI, noRefs_back, noRefs_rowE]; done)) | exact RnM.keyM rfl | exact RnL.nil | exact (True.intro : RnM _ _ _ [] []) | refine RnL.cons ?_ ?_ | (refine Rn.same ?_; first | rfl | (simp only [noRef, noRefs, noRefs_append, Bool.and_self, Bool.and_true, Bool.true_and, noRefs_ints, noRefs_eg, noRefs_ed, noRefs_rm, noRefs_ls, noRefs_bk, noRefs_bls, noRef_sli, noRef_sliN, noRef_egs, noRef_egsN, noRefs_keysI, noRefs_back, noRefs_rowE]; done)) | exact Rn.x1 rfl rfl | exact Rn.x2 rfl rfl | exact Rn.x3 rfl rfl | exact Rn.x4 rfl rfl | exact Rn.x5 rfl | exact Rn.x6 rfl | exact Rn.x7 rfl | refine RB.newnil rfl rfl ?_ | refine RB.cells rfl rfl rfl ?_ ?_ | refine RB.map rfl rfl rfl ?_ ?_ | refine RB.cellsB rfl rfl ?_ ?_ | refine RB.mapB rfl rfl ?_ ?_)
          · have hw2 := ow_app (s := fun k => if k = e.1 then Src.blk (300 + e.1) 1 else Src.blk (300 + k) 0) hk (A := [(60, .blk 60 0), (69, .blk 69 0), (83, .blk 83 0), (78, .blk 78 0)]) (by decide)
            unfold updF ptrE
            rw [hstep]
            by_cases h2 : k = e.1
            · subst h2
              rw [if_pos rfl, if_pos ⟨rfl, h1⟩, List.length_append]
              exact Rn.x1 rfl (by rw [hw2]; simp)
            · rw [if_neg h2, if_neg (fun h3 => h2 h3.1.symm), List.append_nil]
              exact Rn.x1 rfl (by rw [hw2]; simp [h2])
          · have hw2 := ow_app (s := fun k => if k = e.1 then Src.blk (300 + e.1) 1 else Src.blk (300 + k) 0) hk (A := [(60, .blk 60 0), (69, .blk 69 0), (83, .blk 83 0), (78, .blk 78 0)]) (by decide)
            have hkn := List.mem_range.1 hk
            by_cases h2 : k = e.1
            · subst h2
              refine RB.cells rfl (b := 300 + e.1) (g := 1) (by rw [hw2]; simp) (by first | (simp (disch := omega) only [get_same, get_ne, hp_cons]; done) | (simp (disch := omega) only [get_same, get_ne, hp_cons]; rfl)) (RnL.eq ?_ (noRefs_ed _)) RB.nil
              unfold SE.rowE
              rw [hstep, if_pos ⟨rfl, h1⟩, List.flatMap_append]; rfl
            · refine RB.cells rfl (b := 300 + k) (g := 0) (ds := SE.rowE (a.es.take i) (lf l) k) (by rw [hw2]; simp [h2]) (by first | (simp (disch := omega) only [get_same, get_ne, hp_cons, hroom k hkn]; done) | (simp (disch := omega) only [get_same, get_ne, hp_cons, hroom k hkn]; rfl)) (RnL.eq ?_ (noRefs_ed _)) RB.nil
              unfold SE.rowE
              rw [hstep, if_neg (fun h3 => h2 h3.1.symm), List.append_nil]
        · rw [Bool.not_eq_true] at h1
          simp (maxSteps := 1000000) (disch := first | omega | exact PairsOK.mk rfl | (simp only [lenW] <;> omega)) only [List.cons_append, List.nil_append, hlt, drop_eds he, hr0, hto, head_bls htl, h1, Int.reduceGT, ne_eq, List.length_replicate, wD, Nat.reduceAdd, Nat.reduceEqDiff, Nat.reduceBEq, ↓reduceIte, reduceCtorEq, SX.exit.injEq, if_true, if_false, Int.reduceAdd, Int.reduceSub, Int.reduceMul, Int.reduceLT, Int.reduceLE, Int.reduceEq, Int.reduceNe, Int.reduceNeg, Int.reduceToNat, Nat.reduceMul, Nat.reduceLT, Nat.reduceSub, Nat.reduceLeDiff]
          refine ⟨i + 1, by omega, by omega, ?_⟩
          have hsb : ∀ k b g, (fun k => Src.blk (300 + k) 0) k = .blk b g → b = 300 + k := by
            intro k b g h2; cases h2; rfl
          have hno : ∀ k, sOut (a.es.take (i + 1)) (lf l) k = sOut (a.es.take i) (lf l) k := fun k => by rw [hstep, if_neg (by rw [h1]; simp), List.append_nil]
          refine ⟨[(60, .blk 60 0), (69, .blk 69 0), (83, .blk 83 0), (78, .blk 78 0)] ++ psL (fun k => Src.blk (300 + k) 0) (List.range a.n), okPs_app (A := [(60, .blk 60 0), (69, .blk 69 0), (83, .blk 83 0), (78, .blk 78 0)]) (L := [(60, _), (69, _), (83, _), (78, _)]) (okPs_rows List.nodup_range hrn (fun k hk j hj hkj b g b' g' h1 h2 => ?_)) rfl (by decide) (fun p hp b g hb k hk b' g' h1 => ?_), RO.zero, ?_, au7⟩
          · have := hsb k b g h1
            have := hsb j b' g' h2
            omega
          · have h2 := hsb k b' g' h1
            simp only [List.mem_cons, List.not_mem_nil, or_false] at hp
            rcases hp with rfl | rfl | rfl | rfl <;> cases hb <;> omega
          refine RB.cells rfl rfl (by first | (simp (disch := omega) only [get_same, get_ne, hp_cons]; done) | (simp (disch := omega) only [get_same, get_ne, hp_cons]; rfl)) (RnL.same rfl) (RB.cells rfl rfl (by first | (simp (disch := omega) only [get_same, get_ne, hp_cons]; done) | (simp (disch := omega) only [get_same, get_ne, hp_cons]; rfl)) ?_ (RB.cells rfl rfl (by first | (simp (disch := omega) only [get_same, get_ne, hp_cons]; done) | (simp (disch := omega) only [get_same, get_ne, hp_cons]; rfl)) (RnL.same (noRefs_ints _)) (RB.cells rfl rfl (by first | (simp (disch := omega) only [get_same, get_ne, hp_cons]; done) | (simp (disch := omega) only [get_same, get_ne, hp_cons]; rfl)) (RnL_map fun k hk => ?_) (RB_rows fun k hk => ?_))))
          · repeat' (first | exact RB.nil | (refine RnL.same ?_; first | rfl | (simp only [noRef, noRefs, noRefs_append, Bool.and_self, Bool.and_true, Bool.true_and, noRefs_ints, noRefs_eg, noRefs_ed, noRefs_rm, noRefs_ls, noRefs_bk, noRefs_bls, noRef_sli, noRef_sliN, noRef_egs, noRef_egsN, noRefs_keysI, noRefs_back, noRefs_rowE]; done)) | exact RnM.keyM rfl | exact RnL.nil | exact (True.intro : RnM _ _ _ [] []) | refine RnL.cons ?_ ?_ | (refine Rn.same ?_; first | rfl | (simp only [noRef, noRefs, noRefs_append, Bool.and_self, Bool.and_true, Bool.true_and, noRefs_ints, noRefs_eg, noRefs_ed, noRefs_rm, noRefs_ls, noRefs_bk, noRefs_bls, noRef_sli, noRef_sliN, noRef_egs, noRef_egsN, noRefs_keysI, noRefs_back, noRefs_rowE]; done)) | exact Rn.x1 rfl rfl | exact Rn.x2 rfl rfl | exact Rn.x3 rfl rfl | exact Rn.x4 rfl rfl | exact Rn.x5 rfl | exact Rn.x6 rfl | exact Rn.x7 rfl | refine RB.newnil rfl rfl ?_ | refine RB.cells rfl rfl rfl ?_ ?_ | refine RB.map rfl rfl rfl ?_ ?_ | refine RB.cellsB rfl rfl ?_ ?_ | refine RB.mapB rfl rfl ?_ ?_)
          · have hw2 := ow_app (s := fun k => Src.blk (300 + k) 0) hk (A := [(60, .blk 60 0), (69, .blk 69 0), (83, .blk 83 0), (78, .blk 78 0)]) (by decide)
            unfold ptrE
            rw [hno]
            exact Rn.x1 rfl hw2
          · have hw2 := ow_app (s := fun k => Src.blk (300 + k) 0) hk (A := [(60, .blk 60 0), (69, .blk 69 0), (83, .blk 83 0), (78, .blk 78 0)]) (by decide)
            have hkn := List.mem_range.1 hk
            refine RB.cells rfl (b := 300 + k) (g := 0) (ds := SE.rowE (a.es.take i) (lf l) k) hw2 (by first | (simp (disch := omega) only [get_same, get_ne, hp_cons, hroom k hkn]; done) | (simp (disch := omega) only [get_same, get_ne, hp_cons, hroom k hkn]; rfl)) (RnL.eq ?_ (noRefs_ed _)) RB.nil
            unfold SE.rowE
            rw [hno]
      · have e : i = a.es.length := by omega
        subst e
        simp (maxSteps := 1000000) (disch := first | omega | exact PairsOK.mk rfl | (simp only [lenW] <;> omega)) only [List.cons_append, List.nil_append, hlt, Int.reduceGT, ne_eq, List.length_replicate, wD, Nat.reduceAdd, Nat.reduceEqDiff, Nat.reduceBEq, ↓reduceIte, reduceCtorEq, SX.exit.injEq, if_true, if_false, Int.reduceAdd, Int.reduceSub, Int.reduceMul, Int.reduceLT, Int.reduceLE, Int.reduceEq, Int.reduceNe, Int.reduceNeg, Int.reduceToNat, Nat.reduceMul, Nat.reduceLT, Nat.reduceSub, Nat.reduceLeDiff]
        refine ⟨(), [(60, .blk 60 0), (69, .blk 69 0), (83, .blk 83 0), (78, .blk 78 0)], rfl, RO.zero, ?_, au7⟩
        refine RB.cells rfl rfl (by first | (simp (disch := omega) only [get_same, get_ne, hp_cons]; done) | (simp (disch := omega) only [get_same, get_ne, hp_cons]; rfl)) (RnL.same rfl) (RB.cells rfl rfl (by first | (simp (disch := omega) only [get_same, get_ne, hp_cons]; done) | (simp (disch := omega) only [get_same, get_ne, hp_cons]; rfl)) ?_ (RB.cells rfl rfl (by first | (simp (disch := omega) only [get_same, get_ne, hp_cons]; done) | (simp (disch := omega) only [get_same, get_ne, hp_cons]; rfl)) (RnL.same (noRefs_ints _)) (RB.cells rfl rfl (by first | (simp (disch := omega) only [get_same, get_ne, hp_cons]; done) | (simp (disch := omega) only [get_same, get_ne, hp_cons]; rfl)) (RnL_map fun k hk => ?_) RB.nil)))
        · repeat' (first | exact RB.nil | (refine RnL.same ?_; first | rfl | (simp only [noRef, noRefs, noRefs_append, Bool.and_self, Bool.and_true, Bool.true_and, noRefs_ints, noRefs_eg, noRefs_ed, noRefs_rm, noRefs_ls, noRefs_bk, noRefs_bls, noRef_sli, noRef_sliN, noRef_egs, noRef_egsN, noRefs_keysI, noRefs_back, noRefs_rowE]; done)) | exact RnM.keyM rfl | exact RnL.nil | exact (True.intro : RnM _ _ _ [] []) | refine RnL.cons ?_ ?_ | (refine Rn.same ?_; first | rfl | (simp only [noRef, noRefs, noRefs_append, Bool.and_self, Bool.and_true, Bool.true_and, noRefs_ints, noRefs_eg, noRefs_ed, noRefs_rm, noRefs_ls, noRefs_bk, noRefs_bls, noRef_sli, noRef_sliN, noRef_egs, noRef_egsN, noRefs_keysI, noRefs_back, noRefs_rowE]; done)) | exact Rn.x1 rfl rfl | exact Rn.x2 rfl rfl | exact Rn.x3 rfl rfl | exact Rn.x4 rfl rfl | exact Rn.x5 rfl | exact Rn.x6 rfl | exact Rn.x7 rfl | refine RB.newnil rfl rfl ?_ | refine RB.cells rfl rfl rfl ?_ ?_ | refine RB.map rfl rfl rfl ?_ ?_ | refine RB.cellsB rfl rfl ?_ ?_ | refine RB.mapB rfl rfl ?_ ?_)
        · have hkn := List.mem_range.1 hk
          have hr := rowsL_get (f := SE.rowE a.es (lf l)) List.nodup_range hrn hk
          have b1 : Nat.beq (300 + k) 60 = false := by rw [Bool.eq_false_iff]; simp; try omega
          have b2 : Nat.beq (300 + k) 69 = false := by rw [Bool.eq_false_iff]; simp; try omega
          have b3 : Nat.beq (300 + k) 83 = false := by rw [Bool.eq_false_iff]; simp; try omega
          have b4 : Nat.beq (300 + k) 78 = false := by rw [Bool.eq_false_iff]; simp; try omega
          exact Rn.fzm (by first | (simp (disch := omega) only [get_same, get_ne, hp_cons, hr]; done) | (simp (disch := omega) only [get_same, get_ne, hp_cons, hr]; rfl)) (by simp [srcNew, b1, b2, b3, b4]) (by simp) rfl (ed_len _) (RnL.same (noRefs_ed _))
    rintro _ _
    simp (maxSteps := 1000000) (disch := first | omega | exact PairsOK.mk rfl | (simp only [lenW] <;> omega)) only [Int.reduceGT, ne_eq, List.length_replicate, wD, Nat.reduceAdd, Nat.reduceEqDiff, Nat.reduceBEq, ↓reduceIte, reduceCtorEq, SX.exit.injEq, if_true, if_false, Int.reduceAdd, Int.reduceSub, Int.reduceMul, Int.reduceLT, Int.reduceLE, Int.reduceEq, Int.reduceNe, Int.reduceNeg, Int.reduceToNat, Nat.reduceMul, Nat.reduceLT, Nat.reduceSub, Nat.reduceLeDiff]
    refine aMapUpd_F ?_
    simp (maxSteps := 1000000) (disch := first | omega | exact PairsOK.mk rfl | (simp only [lenW] <;> omega)) only [Int.reduceGT, ne_eq, List.length_replicate, wD, Nat.reduceAdd, Nat.reduceEqDiff, Nat.reduceBEq, ↓reduceIte, reduceCtorEq, SX.exit.injEq, if_true, if_false, Int.reduceAdd, Int.reduceSub, Int.reduceMul, Int.reduceLT, Int.reduceLE, Int.reduceEq, Int.reduceNe, Int.reduceNeg, Int.reduceToNat, Nat.reduceMul, Nat.reduceLT, Nat.reduceSub, Nat.reduceLeDiff]
    refine wUF_out (x := 0) (f := numF [0]) (l := []) (by simp) (by decide) ?_
    simp (maxSteps := 1000000) (disch := first | omega | exact PairsOK.mk rfl | (simp only [lenW] <;> omega)) only [Int.reduceGT, ne_eq, List.length_replicate, wD, Nat.reduceAdd, Nat.reduceEqDiff, Nat.reduceBEq, ↓reduceIte, reduceCtorEq, SX.exit.injEq, if_true, if_false, Int.reduceAdd, Int.reduceSub, Int.reduceMul, Int.reduceLT, Int.reduceLE, Int.reduceEq, Int.reduceNe, Int.reduceNeg, Int.reduceToNat, Nat.reduceMul, Nat.reduceLT, Nat.reduceSub, Nat.reduceLeDiff]
    have hms0 : mks a 0 [0] = [] := rfl
    have hsi : SI a.n a.es (lf l) 0 (([0], []) : OE) := by
      refine ⟨⟨by simp, fun x hx => by simp at hx; omega⟩, fun x hx => by simp at hx; subst hx; exact hl0, Nat.zero_le _, fun j v hj => by omega, by simp⟩
    have hq0 : sQ a.es (lf l) (a.n + 1) 0 ([0], []) = sAll a (lf l) := by
      unfold sAll
      rw [hl0, Bool.and_true, if_pos (by simp; omega)]
    refine wS_loopX 180 (fun t : Nat × OE => [(0, pv a u l), (2, .ptr 60 0 0), (4, .ptr 69 0 0), (5, .sl 78 0 0 a.n 1), (8, .map 74 0), (9, .sl 75 0 0 t.2.1.length 1), (10, .int .i64 t.1)])
      (fun t => [(60, .cells 0 [.nilsl, .int .i64 0, .nilsl, .nilsl]), (69, .cells 0 [.sl 83 0 0 a.al.length 1, .int .i64 0, .sl 77 0 0 (mks a t.1 t.2.1).length 1, .sl 76 0 0 t.2.2.length 3]), (83, .cells 0 (ints (nz a.al))), (78, .cells 0 ((List.range a.n).map (frzE a.es (lf l)))),
        (74, .map 0 (mapF .i64 (numF t.2.1) t.2.1)), (75, .cells 0 (ints (nz t.2.1))), (76, .cells 0 (t.2.2.flatMap edC)), (77, .cells 0 (ints (nz (mks a t.1 t.2.1))))])
      (fun t => t.1 ≤ a.n ∧ SI a.n a.es (lf l) t.1 t.2 ∧ t.2.2.length ≤ t.1 * 1000000 ∧ sQ a.es (lf l) (a.n + 1 - t.1) t.1 t.2 = sAll a (lf l)) (fun t => a.n + 1 - t.1) (0, ([0], [])) 2 260
      (fun _ : Unit => [(2, .ptr 60 0 0), (4, .ptr 69 0 0), (9, .sl 75 0 0 (sAll a (lf l)).1.length 1)])
      (fun _ => [(60, .cells 0 [.nilsl, .int .i64 0, .nilsl, .nilsl]), (69, .cells 0 [.sl 83 0 0 a.al.length 1, .int .i64 0, .sl 77 0 0 (restr a (lf l)).ms.length 1, .sl 76 0 0 (restr a (lf l)).es.length 3]), (83, .cells 0 (ints (nz a.al))),
        (75, .cells 0 (ints (nz (sAll a (lf l)).1))), (76, .cells 0 ((restr a (lf l)).es.flatMap edC)), (77, .cells 0 (ints (nz (restr a (lf l)).ms)))]) (fun _ => True) ?_ ⟨Nat.zero_le _, hsi, Nat.zero_le _, hq0⟩ ?_ ?_
    · dsimp only
      rw [hms0]
      refine ⟨[(60, .blk 60 0), (69, .blk 69 0), (83, .blk 83 0), (78, .blk 78 0), (74, .blk 160 0), (75, .blk 164 0), (76, .nil), (77, .nil)], rfl, RO.zero, ?_, au7⟩
      repeat' (first | exact RB.nil | (refine RnL.same ?_; first | rfl | (simp only [noRef, noRefs, noRefs_append, Bool.and_self, Bool.and_true, Bool.true_and, noRefs_ints, noRefs_eg, noRefs_ed, noRefs_rm, noRefs_ls, noRefs_bk, noRefs_bls, noRef_sli, noRef_sliN, noRef_egs, noRef_egsN, noRefs_keysI, noRefs_back, noRefs_rowE]; done)) | exact RnM.keyM rfl | exact RnL.nil | exact (True.intro : RnM _ _ _ [] []) | refine RnL.cons ?_ ?_ | (refine Rn.same ?_; first | rfl | (simp only [noRef, noRefs, noRefs_append, Bool.and_self, Bool.and_true, Bool.true_and, noRefs_ints, noRefs_eg, noRefs_ed, noRefs_rm, noRefs_ls, noRefs_bk, noRefs_bls, noRef_sli, noRef_sliN, noRef_egs, noRef_egsN, noRefs_keysI, noRefs_back, noRefs_rowE]; done)) | exact Rn.x1 rfl rfl | exact Rn.x2 rfl rfl | exact Rn.x3 rfl rfl | exact Rn.x4 rfl rfl | exact Rn.x5 rfl | exact Rn.x6 rfl | exact Rn.x7 rfl | refine RB.newnil rfl rfl ?_ | refine RB.cells rfl rfl rfl ?_ ?_ | refine RB.map rfl rfl rfl ?_ ?_ | refine RB.cellsB rfl rfl ?_ ?_ | refine RB.mapB rfl rfl ?_ ?_)
      refine RnM.mapF (l := [0]) fun x hx => ?_
      have : x = 0 := by simpa using hx
      subst this
      exact Rn.same rfl
    · rintro ⟨i, s⟩ ⟨hi, hsi, hsl, hq⟩
      dsimp only at hi hsi hsl hq ⊢
      have hfl := hsi.fi.len
      have hile := hsi.le
      by_cases hlt : i < s.1.length
      · obtain ⟨v, hv⟩ := get_ex hlt
        have hvn := hsi.fi.lt v (List.mem_of_getElem? hv)
        have hin' : i < a.n := by omega
        have hsi' := hsi.step hw.esn hv
        have hq' : sQ a.es (lf l) (a.n + 1 - (i + 1)) (i + 1) (sRow a.es (lf l) i v s) = sAll a (lf l) := by
          rw [← hq, show a.n + 1 - i = (a.n + 1 - (i + 1)) + 1 by omega]
          simp only [sQ, hv]
        have hol := sOut_len a.es (lf l) v
        have hrow := fun j => row_fold (n := a.n) (left := lf l) i ((sOut a.es (lf l) v).take j) s (fun e he => ⟨(hw.esn e (mem_sOut.1 (List.mem_of_mem_take he)).1).2, (mem_sOut.1 (List.mem_of_mem_take he)).2.2⟩) hsi.fi hsi.lft
        have hmsl := @mks_len a i s.1
        have hmsk : ∀ j, mks a i (((sOut a.es (lf l) v).take j).foldl (sEd i) s).1 = mks a i s.1 := fun j => by
          obtain ⟨_, _, ⟨t, ht⟩, _⟩ := hrow j
          rw [ht, mks_app hile]
        generalize hmm : mks a i s.1 = M at *
        simp (maxSteps := 1000000) (disch := first | omega | exact PairsOK.mk rfl | (simp only [lenW] <;> omega)) only [hlt, get_ints (nz_at hv), hvn, frz_head hvn, Int.reduceGT, ne_eq, List.length_replicate, wD, Nat.reduceAdd, Nat.reduceEqDiff, Nat.reduceBEq, ↓reduceIte, reduceCtorEq, SX.exit.injEq, if_true, if_false, Int.reduceAdd, Int.reduceSub, Int.reduceMul, Int.reduceLT, Int.reduceLE, Int.reduceEq, Int.reduceNe, Int.reduceNeg, Int.reduceToNat, Nat.reduceMul, Nat.reduceLT, Nat.reduceSub, Nat.reduceLeDiff]
        refine wS_loopX 300 (fun j : Nat => [(90, egsN (sOut a.es (lf l) v)), (91, .int .i64 (sOut a.es (lf l) v).length), (0, pv a u l), (2, .ptr 60 0 0), (4, .ptr 69 0 0), (5, .sl 78 0 0 a.n 1), (8, .map 74 0), (9, .sl 75 0 0 (((sOut a.es (lf l) v).take j).foldl (sEd i) s).1.length 1), (10, .int .i64 i), (92, .int .i64 j)])
          (fun j => [(60, .cells 0 [.nilsl, .int .i64 0, .nilsl, .nilsl]), (69, .cells 0 [.sl 83 0 0 a.al.length 1, .int .i64 0, .sl 77 0 0 M.length 1, .sl 76 0 0 (((sOut a.es (lf l) v).take j).foldl (sEd i) s).2.length 3]), (83, .cells 0 (ints (nz a.al))), (78, .cells 0 ((List.range a.n).map (frzE a.es (lf l)))),
            (74, .map 0 (mapF .i64 (numF (((sOut a.es (lf l) v).take j).foldl (sEd i) s).1) (((sOut a.es (lf l) v).take j).foldl (sEd i) s).1)), (75, .cells 0 (ints (nz (((sOut a.es (lf l) v).take j).foldl (sEd i) s).1))), (76, .cells 0 ((((sOut a.es (lf l) v).take j).foldl (sEd i) s).2.flatMap edC)), (77, .cells 0 (ints (nz M)))])
          (fun j => j ≤ (sOut a.es (lf l) v).length) (fun j => (sOut a.es (lf l) v).length - j) 0 4 400
          (fun _ : Unit => [(0, pv a u l), (2, .ptr 60 0 0), (4, .ptr 69 0 0), (5, .sl 78 0 0 a.n 1), (8, .map 74 0), (9, .sl 75 0 0 (sRow a.es (lf l) i v s).1.length 1), (10, .int .i64 i)])
          (fun _ => [(60, .cells 0 [.nilsl, .int .i64 0, .nilsl, .nilsl]), (69, .cells 0 [.sl 83 0 0 a.al.length 1, .int .i64 0, .sl 77 0 0 M.length 1, .sl 76 0 0 (sRow a.es (lf l) i v s).2.length 3]), (83, .cells 0 (ints (nz a.al))), (78, .cells 0 ((List.range a.n).map (frzE a.es (lf l)))),
            (74, .map 0 (mapF .i64 (numF (sRow a.es (lf l) i v s).1) (sRow a.es (lf l) i v s).1)), (75, .cells 0 (ints (nz (sRow a.es (lf l) i v s).1))), (76, .cells 0 ((sRow a.es (lf l) i v s).2.flatMap edC)), (77, .cells 0 (ints (nz M)))]) (fun _ => True) ?_ (Nat.zero_le _) ?_ ?_
        · refine ⟨[(60, .blk 60 0), (69, .blk 69 0), (83, .blk 83 0), (78, .blk 78 0), (74, .blk 74 0), (75, .blk 75 0), (76, .blk 76 0), (77, .blk 77 0)], rfl, au0, ?_, au7⟩
          repeat' (first | exact RB.nil | (refine RnL.same ?_; first | rfl | (simp only [noRef, noRefs, noRefs_append, Bool.and_self, Bool.and_true, Bool.true_and, noRefs_ints, noRefs_eg, noRefs_ed, noRefs_rm, noRefs_ls, noRefs_bk, noRefs_bls, noRef_sli, noRef_sliN, noRef_egs, noRef_egsN, noRefs_keysI, noRefs_back, noRefs_rowE]; done)) | exact RnM.keyM rfl | exact RnL.nil | exact (True.intro : RnM _ _ _ [] []) | refine RnL.cons ?_ ?_ | (refine Rn.same ?_; first | rfl | (simp only [noRef, noRefs, noRefs_append, Bool.and_self, Bool.and_true, Bool.true_and, noRefs_ints, noRefs_eg, noRefs_ed, noRefs_rm, noRefs_ls, noRefs_bk, noRefs_bls, noRef_sli, noRef_sliN, noRef_egs, noRef_egsN, noRefs_keysI, noRefs_back, noRefs_rowE]; done)) | exact Rn.x1 rfl rfl | exact Rn.x2 rfl rfl | exact Rn.x3 rfl rfl | exact Rn.x4 rfl rfl | exact Rn.x5 rfl | exact Rn.x6 rfl | exact Rn.x7 rfl | refine RB.newnil rfl rfl ?_ | refine RB.cells rfl rfl rfl ?_ ?_ | refine RB.map rfl rfl rfl ?_ ?_ | refine RB.cellsB rfl rfl ?_ ?_ | refine RB.mapB rfl rfl ?_ ?_)
          exact RnM.mapF fun x _ => Rn.same rfl
        · rintro j hj
          by_cases hjl : j < (sOut a.es (lf l) v).length
          · obtain ⟨e, he⟩ := get_ex hjl
            have hem := mem_sOut.1 (List.mem_of_getElem? he)
            have hto := (hw.esn e hem.1).2
            obtain ⟨k1, _, _, _, _⟩ := hrow j
            have hfi := k1.len
            have hnd := k1.nd
            have hstep := sRow_take (i := i) (s := s) he
            have hsl2 := sRow_len (i := i) ((sOut a.es (lf l) v).take j) s
            rw [List.length_take] at hsl2
            generalize ((sOut a.es (lf l) v).take j).foldl (sEd i) s = t at *
            have hel2 := ed_len t.2
            by_cases hc : e.2.2 ∈ t.1
            · have h2 : sEd i t e = (t.1, t.2 ++ [(i, e.2.1, idx t.1 e.2.2)]) := if_pos (by simpa using hc)
              rw [h2] at hstep
              simp (maxSteps := 1000000) (disch := first | omega | exact PairsOK.mk rfl | (simp only [lenW] <;> omega)) only [hjl, drop_eds he, Int.reduceGT, ne_eq, List.length_replicate, wD, Nat.reduceAdd, Nat.reduceEqDiff, Nat.reduceBEq, ↓reduceIte, reduceCtorEq, SX.exit.injEq, if_true, if_false, Int.reduceAdd, Int.reduceSub, Int.reduceMul, Int.reduceLT, Int.reduceLE, Int.reduceEq, Int.reduceNe, Int.reduceNeg, Int.reduceToNat, Nat.reduceMul, Nat.reduceLT, Nat.reduceSub, Nat.reduceLeDiff]
              refine aLookup_new ?_
              simp (maxSteps := 1000000) (disch := first | omega | exact PairsOK.mk rfl | (simp only [lenW] <;> omega)) only [Int.reduceGT, ne_eq, List.length_replicate, wD, Nat.reduceAdd, Nat.reduceEqDiff, Nat.reduceBEq, ↓reduceIte, reduceCtorEq, SX.exit.injEq, if_true, if_false, Int.reduceAdd, Int.reduceSub, Int.reduceMul, Int.reduceLT, Int.reduceLE, Int.reduceEq, Int.reduceNe, Int.reduceNeg, Int.reduceToNat, Nat.reduceMul, Nat.reduceLT, Nat.reduceSub, Nat.reduceLeDiff]
              refine wK_in hc ?_
              simp (maxSteps := 1000000) (disch := first | omega | exact PairsOK.mk rfl | (simp only [lenW] <;> omega)) only [hel2, Int.reduceGT, ne_eq, List.length_replicate, wD, Nat.reduceAdd, Nat.reduceEqDiff, Nat.reduceBEq, ↓reduceIte, reduceCtorEq, SX.exit.injEq, if_true, if_false, Int.reduceAdd, Int.reduceSub, Int.reduceMul, Int.reduceLT, Int.reduceLE, Int.reduceEq, Int.reduceNe, Int.reduceNeg, Int.reduceToNat, Nat.reduceMul, Nat.reduceLT, Nat.reduceSub, Nat.reduceLeDiff]
              refine ⟨j + 1, by omega, by omega, ?_⟩
              rw [hstep, List.flatMap_append, List.length_append]
              refine ⟨[(60, .blk 60 0), (69, .blk 69 0), (83, .blk 83 0), (78, .blk 78 0), (74, .blk 74 0), (75, .blk 75 0), (76, .blk 76 1), (77, .blk 77 0)], rfl, au0, ?_, au7⟩
              repeat' (first | exact RB.nil | (refine RnL.same ?_; first | rfl | (simp only [noRef, noRefs, noRefs_append, Bool.and_self, Bool.and_true, Bool.true_and, noRefs_ints, noRefs_eg, noRefs_ed, noRefs_rm, noRefs_ls, noRefs_bk, noRefs_bls, noRef_sli, noRef_sliN, noRef_egs, noRef_egsN, noRefs_keysI, noRefs_back, noRefs_rowE]; done)) | exact RnM.keyM rfl | exact RnL.nil | exact (True.intro : RnM _ _ _ [] []) | refine RnL.cons ?_ ?_ | (refine Rn.same ?_; first | rfl | (simp only [noRef, noRefs, noRefs_append, Bool.and_self, Bool.and_true, Bool.true_and, noRefs_ints, noRefs_eg, noRefs_ed, noRefs_rm, noRefs_ls, noRefs_bk, noRefs_bls, noRef_sli, noRef_sliN, noRef_egs, noRef_egsN, noRefs_keysI, noRefs_back, noRefs_rowE]; done)) | exact Rn.x1 rfl rfl | exact Rn.x2 rfl rfl | exact Rn.x3 rfl rfl | exact Rn.x4 rfl rfl | exact Rn.x5 rfl | exact Rn.x6 rfl | exact Rn.x7 rfl | refine RB.newnil rfl rfl ?_ | refine RB.cells rfl rfl rfl ?_ ?_ | refine RB.map rfl rfl rfl ?_ ?_ | refine RB.cellsB rfl rfl ?_ ?_ | refine RB.mapB rfl rfl ?_ ?_)
              exact RnM.mapF fun x _ => Rn.same rfl
            · have h2 : sEd i t e = (t.1 ++ [e.2.2], t.2 ++ [(i, e.2.1, t.1.length)]) := if_neg (by simpa using hc)
              rw [h2] at hstep
              simp (maxSteps := 1000000) (disch := first | omega | exact PairsOK.mk rfl | (simp only [lenW] <;> omega)) only [hjl, drop_eds he, Int.reduceGT, ne_eq, List.length_replicate, wD, Nat.reduceAdd, Nat.reduceEqDiff, Nat.reduceBEq, ↓reduceIte, reduceCtorEq, SX.exit.injEq, if_true, if_false, Int.reduceAdd, Int.reduceSub, Int.reduceMul, Int.reduceLT, Int.reduceLE, Int.reduceEq, Int.reduceNe, Int.reduceNeg, Int.reduceToNat, Nat.reduceMul, Nat.reduceLT, Nat.reduceSub, Nat.reduceLeDiff]
              refine aLookup_new ?_
              simp (maxSteps := 1000000) (disch := first | omega | exact PairsOK.mk rfl | (simp only [lenW] <;> omega)) only [Int.reduceGT, ne_eq, List.length_replicate, wD, Nat.reduceAdd, Nat.reduceEqDiff, Nat.reduceBEq, ↓reduceIte, reduceCtorEq, SX.exit.injEq, if_true, if_false, Int.reduceAdd, Int.reduceSub, Int.reduceMul, Int.reduceLT, Int.reduceLE, Int.reduceEq, Int.reduceNe, Int.reduceNeg, Int.reduceToNat, Nat.reduceMul, Nat.reduceLT, Nat.reduceSub, Nat.reduceLeDiff]
              refine wK_out hc ?_
              simp (maxSteps := 1000000) (disch := first | omega | exact PairsOK.mk rfl | (simp only [lenW] <;> omega)) only [hel2, Int.reduceGT, ne_eq, List.length_replicate, wD, Nat.reduceAdd, Nat.reduceEqDiff, Nat.reduceBEq, ↓reduceIte, reduceCtorEq, SX.exit.injEq, if_true, if_false, Int.reduceAdd, Int.reduceSub, Int.reduceMul, Int.reduceLT, Int.reduceLE, Int.reduceEq, Int.reduceNe, Int.reduceNeg, Int.reduceToNat, Nat.reduceMul, Nat.reduceLT, Nat.reduceSub, Nat.reduceLeDiff]
              refine aMapUpd_F ?_
              simp (maxSteps := 1000000) (disch := first | omega | exact PairsOK.mk rfl | (simp only [lenW] <;> omega)) only [Int.reduceGT, ne_eq, List.length_replicate, wD, Nat.reduceAdd, Nat.reduceEqDiff, Nat.reduceBEq, ↓reduceIte, reduceCtorEq, SX.exit.injEq, if_true, if_false, Int.reduceAdd, Int.reduceSub, Int.reduceMul, Int.reduceLT, Int.reduceLE, Int.reduceEq, Int.reduceNe, Int.reduceNeg, Int.reduceToNat, Nat.reduceMul, Nat.reduceLT, Nat.reduceSub, Nat.reduceLeDiff]
              refine wUF_out hc (by decide) ?_
              have hm : mapF .i64 (updF (numF t.1) e.2.2 (.int .i64 (t.1.length : Int))) (t.1 ++ [e.2.2]) = mapF .i64 (numF (t.1 ++ [e.2.2])) (t.1 ++ [e.2.2]) := by
                refine mapF_congr fun x hx => ?_
                unfold updF numF
                split
                · rename_i hx2; subst hx2; rw [idx_new hc]
                · rename_i hx2
                  have : x ∈ t.1 := by
                    rcases List.mem_append.1 hx with h3 | h3
                    · exact h3
                    · exact absurd (by simpa using h3) hx2
                  rw [idx_app this]
              simp (maxSteps := 1000000) (disch := first | omega | exact PairsOK.mk rfl | (simp only [lenW] <;> omega)) only [hm, hel2, Int.reduceGT, ne_eq, List.length_replicate, wD, Nat.reduceAdd, Nat.reduceEqDiff, Nat.reduceBEq, ↓reduceIte, reduceCtorEq, SX.exit.injEq, if_true, if_false, Int.reduceAdd, Int.reduceSub, Int.reduceMul, Int.reduceLT, Int.reduceLE, Int.reduceEq, Int.reduceNe, Int.reduceNeg, Int.reduceToNat, Nat.reduceMul, Nat.reduceLT, Nat.reduceSub, Nat.reduceLeDiff]
              refine ⟨j + 1, by omega, by omega, ?_⟩
              rw [hstep, List.flatMap_append, List.length_append]
              dsimp only
              rw [List.length_append, nz_append, ints_append]
              refine ⟨[(60, .blk 60 0), (69, .blk 69 0), (83, .blk 83 0), (78, .blk 78 0), (74, .blk 74 0), (75, .blk 75 1), (76, .blk 76 1), (77, .blk 77 0)], rfl, au0, ?_, au7⟩
              repeat' (first | exact RB.nil | (refine RnL.same ?_; first | rfl | (simp only [noRef, noRefs, noRefs_append, Bool.and_self, Bool.and_true, Bool.true_and, noRefs_ints, noRefs_eg, noRefs_ed, noRefs_rm, noRefs_ls, noRefs_bk, noRefs_bls, noRef_sli, noRef_sliN, noRef_egs, noRef_egsN, noRefs_keysI, noRefs_back, noRefs_rowE]; done)) | exact RnM.keyM rfl | exact RnL.nil | exact (True.intro : RnM _ _ _ [] []) | refine RnL.cons ?_ ?_ | (refine Rn.same ?_; first | rfl | (simp only [noRef, noRefs, noRefs_append, Bool.and_self, Bool.and_true, Bool.true_and, noRefs_ints, noRefs_eg, noRefs_ed, noRefs_rm, noRefs_ls, noRefs_bk, noRefs_bls, noRef_sli, noRef_sliN, noRef_egs, noRef_egsN, noRefs_keysI, noRefs_back, noRefs_rowE]; done)) | exact Rn.x1 rfl rfl | exact Rn.x2 rfl rfl | exact Rn.x3 rfl rfl | exact Rn.x4 rfl rfl | exact Rn.x5 rfl | exact Rn.x6 rfl | exact Rn.x7 rfl | refine RB.newnil rfl rfl ?_ | refine RB.cells rfl rfl rfl ?_ ?_ | refine RB.map rfl rfl rfl ?_ ?_ | refine RB.cellsB rfl rfl ?_ ?_ | refine RB.mapB rfl rfl ?_ ?_)
              exact RnM.mapF fun x _ => Rn.same rfl
          · have e : j = (sOut a.es (lf l) v).length := by omega
            subst e
            simp (maxSteps := 1000000) (disch := first | omega | exact PairsOK.mk rfl | (simp only [lenW] <;> omega)) only [hjl, Int.reduceGT, ne_eq, List.length_replicate, wD, Nat.reduceAdd, Nat.reduceEqDiff, Nat.reduceBEq, ↓reduceIte, reduceCtorEq, SX.exit.injEq, if_true, if_false, Int.reduceAdd, Int.reduceSub, Int.reduceMul, Int.reduceLT, Int.reduceLE, Int.reduceEq, Int.reduceNe, Int.reduceNeg, Int.reduceToNat, Nat.reduceMul, Nat.reduceLT, Nat.reduceSub, Nat.reduceLeDiff]
            refine ⟨(), ?_⟩
            refine ⟨[(60, .blk 60 0), (69, .blk 69 0), (83, .blk 83 0), (78, .blk 78 0), (74, .blk 74 0), (75, .blk 75 0), (76, .blk 76 0), (77, .blk 77 0)], rfl, au0, ?_, au7⟩
            repeat' (first | exact RB.nil | (refine RnL.same ?_; first | rfl | (simp only [noRef, noRefs, noRefs_append, Bool.and_self, Bool.and_true, Bool.true_and, noRefs_ints, noRefs_eg, noRefs_ed, noRefs_rm, noRefs_ls, noRefs_bk, noRefs_bls, noRef_sli, noRef_sliN, noRef_egs, noRef_egsN, noRefs_keysI, noRefs_back, noRefs_rowE]; done)) | exact RnM.keyM rfl | exact RnL.nil | exact (True.intro : RnM _ _ _ [] []) | refine RnL.cons ?_ ?_ | (refine Rn.same ?_; first | rfl | (simp only [noRef, noRefs, noRefs_append, Bool.and_self, Bool.and_true, Bool.true_and, noRefs_ints, noRefs_eg, noRefs_ed, noRefs_rm, noRefs_ls, noRefs_bk, noRefs_bls, noRef_sli, noRef_sliN, noRef_egs, noRef_egsN, noRefs_keysI, noRefs_back, noRefs_rowE]; done)) | exact Rn.x1 rfl rfl | exact Rn.x2 rfl rfl | exact Rn.x3 rfl rfl | exact Rn.x4 rfl rfl | exact Rn.x5 rfl | exact Rn.x6 rfl | exact Rn.x7 rfl | refine RB.newnil rfl rfl ?_ | refine RB.cells rfl rfl rfl ?_ ?_ | refine RB.map rfl rfl rfl ?_ ?_ | refine RB.cellsB rfl rfl ?_ ?_ | refine RB.mapB rfl rfl ?_ ?_)
            exact RnM.mapF fun x _ => Rn.same rfl
        rintro _ _
        have hfull := hmsk (sOut a.es (lf l) v).length
        rw [List.take_length] at hfull
        have hfull : mks a i (sRow a.es (lf l) i v s).1 = M := hfull
        have hv' : (sRow a.es (lf l) i v s).1[i]? = some v := by
          obtain ⟨_, _, ⟨t, ht⟩, _⟩ := hrow (sOut a.es (lf l) v).length
          rw [List.take_length] at ht
          have ht : (sRow a.es (lf l) i v s).1 = s.1 ++ t := ht
          rw [ht, List.getElem?_append_left hlt]; exact hv
        have hmn := mks_succ (a := a) hv'
        rw [hfull] at hmn
        have hsl3 : (sRow a.es (lf l) i v s).2.length = s.2.length + (sOut a.es (lf l) v).length := sRow_len _ _
        have hfi' := hsi'.fi.len
        have hii : i < (sRow a.es (lf l) i v s).1.length := (List.getElem?_eq_some_iff.1 hv').1
        generalize hrr : sRow a.es (lf l) i v s = R at *
        have hc := contains62 (nz a.ms) v (by simp; omega)
        rw [sli_nz, mem_nz] at hc
        by_cases hmv : a.ms.contains v = true
        · rw [if_pos hmv] at hmn
          rw [hmv] at hc
          simp (maxSteps := 1000000) (disch := first | omega | exact PairsOK.mk rfl | (simp only [lenW] <;> omega)) only [hii, get_ints (nz_at hv'), Int.reduceGT, ne_eq, List.length_replicate, wD, Nat.reduceAdd, Nat.reduceEqDiff, Nat.reduceBEq, ↓reduceIte, reduceCtorEq, SX.exit.injEq, if_true, if_false, Int.reduceAdd, Int.reduceSub, Int.reduceMul, Int.reduceLT, Int.reduceLE, Int.reduceEq, Int.reduceNe, Int.reduceNeg, Int.reduceToNat, Nat.reduceMul, Nat.reduceLT, Nat.reduceSub, Nat.reduceLeDiff]
          refine cp hc ?_
          simp (maxSteps := 1000000) (disch := first | omega | exact PairsOK.mk rfl | (simp only [lenW] <;> omega)) only [Int.reduceGT, ne_eq, List.length_replicate, wD, Nat.reduceAdd, Nat.reduceEqDiff, Nat.reduceBEq, ↓reduceIte, reduceCtorEq, SX.exit.injEq, if_true, if_false, Int.reduceAdd, Int.reduceSub, Int.reduceMul, Int.reduceLT, Int.reduceLE, Int.reduceEq, Int.reduceNe, Int.reduceNeg, Int.reduceToNat, Nat.reduceMul, Nat.reduceLT, Nat.reduceSub, Nat.reduceLeDiff]
          refine ⟨(i + 1, R), by dsimp only; omega, ⟨hin', hsi', by dsimp only; omega, hq'⟩, ?_⟩
          dsimp only
          rw [hmn, List.length_append, nz_append, ints_append]
          refine ⟨[(60, .blk 60 0), (69, .blk 69 0), (83, .blk 83 0), (78, .blk 78 0), (74, .blk 74 0), (75, .blk 75 0), (76, .blk 76 0), (77, .blk 77 1)], rfl, au0, ?_, au7⟩
          repeat' (first | exact RB.nil | (refine RnL.same ?_; first | rfl | (simp only [noRef, noRefs, noRefs_append, Bool.and_self, Bool.and_true, Bool.true_and, noRefs_ints, noRefs_eg, noRefs_ed, noRefs_rm, noRefs_ls, noRefs_bk, noRefs_bls, noRef_sli, noRef_sliN, noRef_egs, noRef_egsN, noRefs_keysI, noRefs_back, noRefs_rowE]; done)) | exact RnM.keyM rfl | exact RnL.nil | exact (True.intro : RnM _ _ _ [] []) | refine RnL.cons ?_ ?_ | (refine Rn.same ?_; first | rfl | (simp only [noRef, noRefs, noRefs_append, Bool.and_self, Bool.and_true, Bool.true_and, noRefs_ints, noRefs_eg, noRefs_ed, noRefs_rm, noRefs_ls, noRefs_bk, noRefs_bls, noRef_sli, noRef_sliN, noRef_egs, noRef_egsN, noRefs_keysI, noRefs_back, noRefs_rowE]; done)) | exact Rn.x1 rfl rfl | exact Rn.x2 rfl rfl | exact Rn.x3 rfl rfl | exact Rn.x4 rfl rfl | exact Rn.x5 rfl | exact Rn.x6 rfl | exact Rn.x7 rfl | refine RB.newnil rfl rfl ?_ | refine RB.cells rfl rfl rfl ?_ ?_ | refine RB.map rfl rfl rfl ?_ ?_ | refine RB.cellsB rfl rfl ?_ ?_ | refine RB.mapB rfl rfl ?_ ?_)
          exact RnM.mapF fun x _ => Rn.same rfl
        · rw [if_neg hmv, List.append_nil] at hmn
          rw [Bool.not_eq_true] at hmv
          rw [hmv] at hc
          simp (maxSteps := 1000000) (disch := first | omega | exact PairsOK.mk rfl | (simp only [lenW] <;> omega)) only [hii, get_ints (nz_at hv'), Int.reduceGT, ne_eq, List.length_replicate, wD, Nat.reduceAdd, Nat.reduceEqDiff, Nat.reduceBEq, ↓reduceIte, reduceCtorEq, SX.exit.injEq, if_true, if_false, Int.reduceAdd, Int.reduceSub, Int.reduceMul, Int.reduceLT, Int.reduceLE, Int.reduceEq, Int.reduceNe, Int.reduceNeg, Int.reduceToNat, Nat.reduceMul, Nat.reduceLT, Nat.reduceSub, Nat.reduceLeDiff]
          refine cp hc ?_
          simp (maxSteps := 1000000) (disch := first | omega | exact PairsOK.mk rfl | (simp only [lenW] <;> omega)) only [Int.reduceGT, ne_eq, List.length_replicate, wD, Nat.reduceAdd, Nat.reduceEqDiff, Nat.reduceBEq, ↓reduceIte, reduceCtorEq, SX.exit.injEq, if_true, if_false, Int.reduceAdd, Int.reduceSub, Int.reduceMul, Int.reduceLT, Int.reduceLE, Int.reduceEq, Int.reduceNe, Int.reduceNeg, Int.reduceToNat, Nat.reduceMul, Nat.reduceLT, Nat.reduceSub, Nat.reduceLeDiff]
          refine ⟨(i + 1, R), by dsimp only; omega, ⟨hin', hsi', by dsimp only; omega, hq'⟩, ?_⟩
          dsimp only
          rw [hmn]
          refine ⟨[(60, .blk 60 0), (69, .blk 69 0), (83, .blk 83 0), (78, .blk 78 0), (74, .blk 74 0), (75, .blk 75 0), (76, .blk 76 0), (77, .blk 77 0)], rfl, au0, ?_, au7⟩
          repeat' (first | exact RB.nil | (refine RnL.same ?_; first | rfl | (simp only [noRef, noRefs, noRefs_append, Bool.and_self, Bool.and_true, Bool.true_and, noRefs_ints, noRefs_eg, noRefs_ed, noRefs_rm, noRefs_ls, noRefs_bk, noRefs_bls, noRef_sli, noRef_sliN, noRef_egs, noRef_egsN, noRefs_keysI, noRefs_back, noRefs_rowE]; done)) | exact RnM.keyM rfl | exact RnL.nil | exact (True.intro : RnM _ _ _ [] []) | refine RnL.cons ?_ ?_ | (refine Rn.same ?_; first | rfl | (simp only [noRef, noRefs, noRefs_append, Bool.and_self, Bool.and_true, Bool.true_and, noRefs_ints, noRefs_eg, noRefs_ed, noRefs_rm, noRefs_ls, noRefs_bk, noRefs_bls, noRef_sli, noRef_sliN, noRef_egs, noRef_egsN, noRefs_keysI, noRefs_back, noRefs_rowE]; done)) | exact Rn.x1 rfl rfl | exact Rn.x2 rfl rfl | exact Rn.x3 rfl rfl | exact Rn.x4 rfl rfl | exact Rn.x5 rfl | exact Rn.x6 rfl | exact Rn.x7 rfl | refine RB.newnil rfl rfl ?_ | refine RB.cells rfl rfl rfl ?_ ?_ | refine RB.map rfl rfl rfl ?_ ?_ | refine RB.cellsB rfl rfl ?_ ?_ | refine RB.mapB rfl rfl ?_ ?_)
          exact RnM.mapF fun x _ => Rn.same rfl
      · have hv : s.1[i]? = none := List.getElem?_eq_none (by omega)
        have hqf : s = sAll a (lf l) := by
          rw [← hq, show a.n + 1 - i = (a.n - i) + 1 by omega]
          simp only [sQ, hv]
        have hil : i = s.1.length := by omega
        have hmf : mks a i s.1 = (restr a (lf l)).ms := by rw [hil, hqf]; rfl
        have hef : s.2 = (restr a (lf l)).es := by rw [hqf]; rfl
        simp (maxSteps := 1000000) (disch := first | omega | exact PairsOK.mk rfl | (simp only [lenW] <;> omega)) only [hlt, Int.reduceGT, ne_eq, List.length_replicate, wD, Nat.reduceAdd, Nat.reduceEqDiff, Nat.reduceBEq, ↓reduceIte, reduceCtorEq, SX.exit.injEq, if_true, if_false, Int.reduceAdd, Int.reduceSub, Int.reduceMul, Int.reduceLT, Int.reduceLE, Int.reduceEq, Int.reduceNe, Int.reduceNeg, Int.reduceToNat, Nat.reduceMul, Nat.reduceLT, Nat.reduceSub, Nat.reduceLeDiff]
        refine ⟨(), ?_⟩
        rw [hmf, hef, ← hqf]
        exact ⟨[(60, .blk 60 0), (69, .blk 69 0), (83, .blk 83 0), (75, .blk 75 0), (76, .blk 76 0), (77, .blk 77 0)], rfl, au0, au8, au7⟩
    rintro _ _
    have hra : (restr a (lf l)).al = a.al := rfl
    have hrn2 : (restr a (lf l)).n = (sAll a (lf l)).1.length := rfl
    simp (maxSteps := 1000000) (disch := first | omega | exact PairsOK.mk rfl | (simp only [lenW] <;> omega)) only [Int.reduceGT, ne_eq, List.length_replicate, wD, Nat.reduceAdd, Nat.reduceEqDiff, Nat.reduceBEq, ↓reduceIte, reduceCtorEq, SX.exit.injEq, if_true, if_false, Int.reduceAdd, Int.reduceSub, Int.reduceMul, Int.reduceLT, Int.reduceLE, Int.reduceEq, Int.reduceNe, Int.reduceNeg, Int.reduceToNat, Nat.reduceMul, Nat.reduceLT, Nat.reduceSub, Nat.reduceLeDiff]
    refine ⟨.inr trivial, _, rfl, ?_⟩
    refine RnO.tup (RnOL.cons (RnO.agg (RnOL.cons (RnO.slm (g := 0) rfl rfl rfl (flat_ints _) (by simp [ints, hra])) (RnOL.cons (RnO.flat rfl) (RnOL.cons (RnO.slm (g := 0) rfl rfl rfl (flat_ints _) (by simp [ints])) (RnOL.cons (RnO.slm (g := 0) rfl rfl rfl (flat_ed _) (ed_len _)) RnOL.nil))))) (RnOL.cons (RnO.slm (g := 0) rfl rfl rfl (flat_ints _) (by simp [ints])) RnOL.nil))
  · rw [Bool.not_eq_true] at hl0
    have e : sAll a (lf l) = ([], []) := by
      unfold sAll
      rw [hl0, Bool.and_false, if_neg (by decide)]
      unfold sQ; rfl
    simp (maxSteps := 1000000) (disch := first | omega | exact PairsOK.mk rfl | (simp only [lenW] <;> omega)) only [h0', h0n, hh0, hl0, Int.reduceGT, ne_eq, List.length_replicate, wD, Nat.reduceAdd, Nat.reduceEqDiff, Nat.reduceBEq, ↓reduceIte, reduceCtorEq, SX.exit.injEq, if_true, if_false, Int.reduceAdd, Int.reduceSub, Int.reduceMul, Int.reduceLT, Int.reduceLE, Int.reduceEq, Int.reduceNe, Int.reduceNeg, Int.reduceToNat, Nat.reduceMul, Nat.reduceLT, Nat.reduceSub, Nat.reduceLeDiff]
    refine ⟨.inr trivial, _, rfl, ?_⟩
    have hr : restr a (lf l) = ⟨a.al, 0, [], []⟩ := by unfold restr; rw [e]; rfl
    rw [hr, e]
    exact RnO.tup (RnOL.cons (RnO.agg (RnOL.cons (RnO.slm (g := 0) rfl rfl rfl (flat_ints _) (by simp [ints])) (RnOL.cons (RnO.flat rfl) (RnOL.cons RnO.nil (RnOL.cons RnO.nil RnOL.nil))))) (RnOL.cons RnO.nil RnOL.nil))
end Go.AM.SE
namespace Go.AM.SE
open Go.Proofs Go.AM.SD
set_option maxRecDepth 100000
set_option linter.unusedSimpArgs false
set_option linter.unusedVariables false
theorem Agr0 {n : Nat} {f : List Nat} (hf : ∀ x ∈ f, x < n) (hnd : f.Nodup) : Agr n (left0 n f) (f.map rm0) ((List.range n).map rm0) := by
  refine ⟨by simp, fun i r h => ?_, ?_, fun r => ?_⟩
  · rw [List.getElem?_map] at h
    by_cases hi : i < n
    · rw [List.getElem?_range hi] at h; cases h; rfl
    · rw [List.getElem?_eq_none (by simpa using hi)] at h; cases h
  · rw [List.map_map]
    have : (fun x : Rm => x.st) ∘ rm0 = id := rfl
    rw [this, List.map_id]; exact hnd
  · constructor
    · intro h
      obtain ⟨x, hx, rfl⟩ := List.mem_map.1 h
      have hxn := hf x hx
      refine ⟨hxn, ?_, ?_⟩
      · rw [Bool.eq_false_iff]
        intro h2
        exact (lf_left0.1 h2).2 hx
      · show ((List.range n).map rm0)[x]? = _
        rw [List.getElem?_map, List.getElem?_range hxn]; rfl
    · rintro ⟨h1, h2, h3⟩
      rw [List.getElem?_map, List.getElem?_range h1] at h3
      have h3 : rm0 r.st = r := by simpa using h3
      refine List.mem_map.2 ⟨r.st, ?_, h3⟩
      refine Classical.byContradiction fun h4 => ?_
      have := lf_left0.2 ⟨h1, h4⟩
      rw [this] at h2; cases h2
theorem agr_le {n : Nat} {l : LB} {rs rr : List Rm} (h : Agr n l rs rr) : rs.length ≤ n := by
  have := nodup_len n (rs.map (·.st)) h.nd fun x hx => by
    obtain ⟨r, hr, rfl⟩ := List.mem_map.1 hx
    exact ((h.mem r).1 hr).1
  simpa using this
theorem offs_take {l : LB} {xs : List Nat} {i x : Nat} (h : xs[i]? = some x) : offs l (xs.take (i + 1)) = (offs l (xs.take i)).set x false := by
  unfold offs
  rw [List.take_add_one, h, Option.toList, List.foldl_append]; rfl
def dists (n : Nat) (l : LB) (d : List Int) : List Int := (kept n l).map fun i => d.getD i 0
theorem kept_succ {i : Nat} {l : LB} : kept (i + 1) l = kept i l ++ if lf l i = true then [i] else [] := by
  unfold kept
  rw [List.range_succ, List.filter_append]
  congr 1
  rw [List.filter_cons]; rfl
theorem kept_len {i : Nat} {l : LB} : (kept i l).length ≤ i := by
  unfold kept; exact Nat.le_trans (List.length_filter_le _ _) (by simp)
structure Res where
  kept : List Nat
  dist : List Int
  rem : List Rm
  rounds : Nat
  sup : Aut
  orig : List Nat
abbrev rsV (r : Res) : AV := .agg [sliN r.kept, sli r.dist, rms r.rem, .int .i64 (r.rounds : Int), sliN r.sup.al, .int .i64 (r.sup.n : Int), sliN r.sup.ms, egsN r.sup.es, sliN r.orig]
theorem noRef_res (r : Res) : noRef (rsV r) = true := by simp only [noRef, noRefs, noRefs_ints, noRefs_rm, noRefs_ed]; rfl
def pRes (a : Aut) (f u : List Nat) (all : Bool) : Res :=
  let F := fin a.n a.es a.ms f u all
  ⟨kept a.n F.1, dists a.n F.1 (pDist a.n a.es a.ms (lf F.1)), srtR F.2.1, F.2.2, restr a (lf F.1), (sAll a (lf F.1)).1⟩
abbrev nine : List AV := [.nilsl, .nilsl, .nilsl, .int .i64 0, .nilsl, .int .i64 0, .nilsl, .nilsl, .nilsl]
def rnd0 (i : Nat) : Nat := if i = 0 then 0 else 1
theorem one_rm (l : List Rm) : (l.flatMap rmC).all AV.one = true := by
  induction l with
  | nil => rfl
  | cons x l ih => rw [List.flatMap_cons, List.all_append, ih]; rfl
theorem dists_succ {i : Nat} {l : LB} {d : List Int} : dists (i + 1) l d = dists i l d ++ if lf l i = true then [d.getD i 0] else [] := by
  unfold dists
  rw [kept_succ, List.map_append]
  congr 1
  split <;> rfl
theorem dists_len {i : Nat} {l : LB} {d : List Int} : (dists i l d).length = (kept i l).length := by unfold dists; simp
abbrev St4 := Nat × LB × List Rm × Nat
abbrev rkH (a : Aut) (u : List Nat) (t : St4) : HL := [(41, .cells 0 nine), (61, .cells 0 [.nilsl, .nilsl, .sl 74 0 0 t.2.2.1.length 4, .int .i64 (t.2.2.2 : Int), .nilsl, .int .i64 0, .nilsl, .nilsl, .nilsl]), (70, .cells 0 (pblk a u)), (71, .map 0 (mapF .i64 (backF a.es) (keysR a.es))), (72, .cells 0 (bls t.2.1)), (74, .cells 0 (t.2.2.1.flatMap rmC))]
set_option maxHeartbeats 32000000 in
theorem result39 (a : Aut) (f u : List Nat) (all : Bool) (h : WfA a) (hq : QOk a f u) (hel : a.es.length ≤ 1000000) : PSpec Try.prog 39 [aV a, sliN f, sliN u, .bool all] (rsV (pRes a f u all)) := by
  have hn5 := h.n5
  have hfl := sorted_len hq.fS hq.fn
  have hul := sorted_len hq.uS hq.un
  have hml : a.ms.length ≤ a.n := nodup_len a.n a.ms h.nd h.msn
  refine PSpec.of_rn 40 ok39 rfl (by (try simp only [noRefs, noRefs_keysI, noRefs_back, noRefs_ints, noRefs_eg, noRefs_ed, noRefs_rm, noRefs_ls, noRefs_bls, noRef, Bool.and_self, Bool.and_true]) <;> rfl) (noRef_res _) ?_
  simp (maxSteps := 1000000) (disch := first | omega | exact PairsOK.mk rfl | (simp only [lenW] <;> omega)) only [s39, Int.reduceGT, ne_eq, List.length_replicate, wD, Nat.reduceAdd, Nat.reduceEqDiff, Nat.reduceBEq, ↓reduceIte, reduceCtorEq, SX.exit.injEq, if_true, if_false, Int.reduceAdd, Int.reduceSub, Int.reduceMul, Int.reduceLT, Int.reduceLE, Int.reduceEq, Int.reduceNe, Int.reduceNeg, Int.reduceToNat, Nat.reduceMul, Nat.reduceLT, Nat.reduceSub, Nat.reduceLeDiff]
  refine ch (HSpec.of_O (b := 70) (by (try simp only [noRefs, noRefs_keysI, noRefs_back, noRefs_ints, noRefs_eg, noRefs_ed, noRefs_rm, noRefs_ls, noRefs_bls, noRef, Bool.and_self, Bool.and_true]) <;> rfl) (start34 a f u h.esn hq.fn (by omega) hel (by omega)) (by repeat (first | exact Fresh.e | exact Fresh.le (by assumption) (by omega) | refine Fresh.set ?_ (by omega) (by omega))) rfl) ?_
  simp (maxSteps := 1000000) (disch := first | omega | exact PairsOK.mk rfl | (simp only [lenW] <;> omega)) only [Int.reduceGT, ne_eq, List.length_replicate, wD, Nat.reduceAdd, Nat.reduceEqDiff, Nat.reduceBEq, ↓reduceIte, reduceCtorEq, SX.exit.injEq, if_true, if_false, Int.reduceAdd, Int.reduceSub, Int.reduceMul, Int.reduceLT, Int.reduceLE, Int.reduceEq, Int.reduceNe, Int.reduceNeg, Int.reduceToNat, Nat.reduceMul, Nat.reduceLT, Nat.reduceSub, Nat.reduceLeDiff]
  refine wS_loopX 100 (fun i : Nat => [(3, .bool all), (8, .ptr 41 0 0), (9, .ptr 70 0 0), (10, .ptr 61 0 0), (23, sliN f), (24, .int .i64 f.length), (25, .int .i64 i)])
    (fun i => rkH a u (2, left0 a.n f, (f.take i).map rm0, rnd0 i))
    (fun i => i ≤ f.length) (fun i => f.length - i) 0 0 160
    (fun _ : Unit => [(3, .bool all), (8, .ptr 41 0 0), (9, .ptr 70 0 0), (10, .ptr 61 0 0)])
    (fun _ => rkH a u (2, left0 a.n f, f.map rm0, rnd0 f.length)) (fun _ => True) ?_ (Nat.zero_le _) ?_ ?_
  · refine ⟨[(41, .blk 41 0), (61, .blk 47 0), (70, .blk 70 0), (71, .blk 71 0), (72, .blk 72 0), (74, .nil)], rfl, RO.zero, ?_, au7⟩
    repeat' (first | exact RB.nil | (refine RnL.same ?_; first | rfl | (simp only [noRef, noRefs, noRefs_append, Bool.and_self, Bool.and_true, Bool.true_and, noRefs_ints, noRefs_eg, noRefs_ed, noRefs_rm, noRefs_ls, noRefs_bk, noRefs_bls, noRef_sli, noRef_sliN, noRef_egs, noRef_egsN, noRefs_keysI, noRefs_back, noRefs_rowE]; done)) | exact RnM.keyM rfl | exact RnL.nil | exact (True.intro : RnM _ _ _ [] []) | refine RnL.cons ?_ ?_ | (refine Rn.same ?_; first | rfl | (simp only [noRef, noRefs, noRefs_append, Bool.and_self, Bool.and_true, Bool.true_and, noRefs_ints, noRefs_eg, noRefs_ed, noRefs_rm, noRefs_ls, noRefs_bk, noRefs_bls, noRef_sli, noRef_sliN, noRef_egs, noRef_egsN, noRefs_keysI, noRefs_back, noRefs_rowE]; done)) | exact Rn.x1 rfl rfl | exact Rn.x2 rfl rfl | exact Rn.x3 rfl rfl | exact Rn.x4 rfl rfl | exact Rn.x5 rfl | exact Rn.x6 rfl | exact Rn.x7 rfl | refine RB.newnil rfl rfl ?_ | refine RB.cells rfl rfl rfl ?_ ?_ | refine RB.map rfl rfl rfl ?_ ?_ | refine RB.cellsB rfl rfl ?_ ?_ | refine RB.mapB rfl rfl ?_ ?_)
    · exact RnM.mapF fun x _ => Rn.same (noRef_sliN _)
  · rintro i hi
    by_cases hlt : i < f.length
    · obtain ⟨x, hx⟩ := get_ex hlt
      have hll := rm_len ((f.take i).map rm0)
      rw [List.length_map, List.length_take, Nat.min_eq_left (by omega)] at hll
      have htk : ((f.take (i + 1)).map rm0) = (f.take i).map rm0 ++ [rm0 x] := by rw [List.take_add_one, hx, Option.toList, List.map_append]; rfl
      have hlm : ((f.take i).map rm0).length = i := by rw [List.length_map, List.length_take]; omega
      generalize hF : (f.take i).map rm0 = G at *
      simp (maxSteps := 1000000) (disch := first | omega | exact PairsOK.mk rfl | (simp only [lenW] <;> omega)) only [hlt, head_nz hx, hll, hlm, Int.reduceGT, ne_eq, List.length_replicate, wD, Nat.reduceAdd, Nat.reduceEqDiff, Nat.reduceBEq, ↓reduceIte, reduceCtorEq, SX.exit.injEq, if_true, if_false, Int.reduceAdd, Int.reduceSub, Int.reduceMul, Int.reduceLT, Int.reduceLE, Int.reduceEq, Int.reduceNe, Int.reduceNeg, Int.reduceToNat, Nat.reduceMul, Nat.reduceLT, Nat.reduceSub, Nat.reduceLeDiff]
      refine ⟨i + 1, by omega, by omega, ?_⟩
      rw [htk]
      dsimp only [rkH]
      rw [List.flatMap_append, List.length_append, hlm]
      refine ⟨[(41, .blk 41 0), (61, .blk 61 0), (70, .blk 70 0), (71, .blk 71 0), (72, .blk 72 0), (74, .blk 74 1)], rfl, au0, ?_, au7⟩
      repeat' (first | exact RB.nil | (refine RnL.same ?_; first | rfl | (simp only [noRef, noRefs, noRefs_append, Bool.and_self, Bool.and_true, Bool.true_and, noRefs_ints, noRefs_eg, noRefs_ed, noRefs_rm, noRefs_ls, noRefs_bk, noRefs_bls, noRef_sli, noRef_sliN, noRef_egs, noRef_egsN, noRefs_keysI, noRefs_back, noRefs_rowE]; done)) | exact RnM.keyM rfl | exact RnL.nil | exact (True.intro : RnM _ _ _ [] []) | refine RnL.cons ?_ ?_ | (refine Rn.same ?_; first | rfl | (simp only [noRef, noRefs, noRefs_append, Bool.and_self, Bool.and_true, Bool.true_and, noRefs_ints, noRefs_eg, noRefs_ed, noRefs_rm, noRefs_ls, noRefs_bk, noRefs_bls, noRef_sli, noRef_sliN, noRef_egs, noRef_egsN, noRefs_keysI, noRefs_back, noRefs_rowE]; done)) | exact Rn.x1 rfl rfl | exact Rn.x2 rfl rfl | exact Rn.x3 rfl rfl | exact Rn.x4 rfl rfl | exact Rn.x5 rfl | exact Rn.x6 rfl | exact Rn.x7 rfl | refine RB.newnil rfl rfl ?_ | refine RB.cells rfl rfl rfl ?_ ?_ | refine RB.map rfl rfl rfl ?_ ?_ | refine RB.cellsB rfl rfl ?_ ?_ | refine RB.mapB rfl rfl ?_ ?_)
      · exact RnM.mapF fun x _ => Rn.same (noRef_sliN _)
    · have e : i = f.length := by omega
      subst e
      dsimp only [rkH]
      simp (maxSteps := 1000000) (disch := first | omega | exact PairsOK.mk rfl | (simp only [lenW] <;> omega)) only [hlt, Int.reduceGT, ne_eq, List.length_replicate, wD, Nat.reduceAdd, Nat.reduceEqDiff, Nat.reduceBEq, ↓reduceIte, reduceCtorEq, SX.exit.injEq, if_true, if_false, Int.reduceAdd, Int.reduceSub, Int.reduceMul, Int.reduceLT, Int.reduceLE, Int.reduceEq, Int.reduceNe, Int.reduceNeg, Int.reduceToNat, Nat.reduceMul, Nat.reduceLT, Nat.reduceSub, Nat.reduceLeDiff]
      refine ⟨(), ?_⟩
      refine ⟨[(41, .blk 41 0), (61, .blk 61 0), (70, .blk 70 0), (71, .blk 71 0), (72, .blk 72 0), (74, .blk 74 0)], rfl, au0, ?_, au7⟩
      repeat' (first | exact RB.nil | (refine RnL.same ?_; first | rfl | (simp only [noRef, noRefs, noRefs_append, Bool.and_self, Bool.and_true, Bool.true_and, noRefs_ints, noRefs_eg, noRefs_ed, noRefs_rm, noRefs_ls, noRefs_bk, noRefs_bls, noRef_sli, noRef_sliN, noRef_egs, noRef_egsN, noRefs_keysI, noRefs_back, noRefs_rowE]; done)) | exact RnM.keyM rfl | exact RnL.nil | exact (True.intro : RnM _ _ _ [] []) | refine RnL.cons ?_ ?_ | (refine Rn.same ?_; first | rfl | (simp only [noRef, noRefs, noRefs_append, Bool.and_self, Bool.and_true, Bool.true_and, noRefs_ints, noRefs_eg, noRefs_ed, noRefs_rm, noRefs_ls, noRefs_bk, noRefs_bls, noRef_sli, noRef_sliN, noRef_egs, noRef_egsN, noRefs_keysI, noRefs_back, noRefs_rowE]; done)) | exact Rn.x1 rfl rfl | exact Rn.x2 rfl rfl | exact Rn.x3 rfl rfl | exact Rn.x4 rfl rfl | exact Rn.x5 rfl | exact Rn.x6 rfl | exact Rn.x7 rfl | refine RB.newnil rfl rfl ?_ | refine RB.cells rfl rfl rfl ?_ ?_ | refine RB.map rfl rfl rfl ?_ ?_ | refine RB.cellsB rfl rfl ?_ ?_ | refine RB.mapB rfl rfl ?_ ?_)
      · exact RnM.mapF fun x _ => Rn.same (noRef_sliN _)
  rintro _ _
  have hrn0 : rnd0 f.length = if f.length = 0 then 0 else 1 := rfl
  have hc0 : cntL a.n (left0 a.n f) < a.n + 1 := by
    have : cntL a.n (left0 a.n f) ≤ a.n := by unfold cntL; exact Nat.le_trans List.countP_le_length (by simp)
    omega
  have hA0 := Agr0 (n := a.n) hq.fn (by rw [List.nodup_iff_pairwise_ne]; exact hq.fS.imp fun h => by omega)
  dsimp only [rkH]
  simp (maxSteps := 1000000) (disch := first | omega | exact PairsOK.mk rfl | (simp only [lenW] <;> omega)) only [Int.reduceGT, ne_eq, List.length_replicate, wD, Nat.reduceAdd, Nat.reduceEqDiff, Nat.reduceBEq, ↓reduceIte, reduceCtorEq, SX.exit.injEq, if_true, if_false, Int.reduceAdd, Int.reduceSub, Int.reduceMul, Int.reduceLT, Int.reduceLE, Int.reduceEq, Int.reduceNe, Int.reduceNeg, Int.reduceToNat, Nat.reduceMul, Nat.reduceLT, Nat.reduceSub, Nat.reduceLeDiff]
  refine wS_loopX 170 (fun t : St4 => [(3, .bool all), (8, .ptr 41 0 0), (9, .ptr 70 0 0), (10, .ptr 61 0 0), (13, .int .i64 t.1)]) (rkH a u)
    (fun t => t.2.1.length = a.n ∧ (∃ rr, Agr a.n t.2.1 t.2.2.1 rr) ∧ t.1 + cntL a.n t.2.1 ≤ a.n + 2 ∧ ∃ fu, cntL a.n t.2.1 < fu ∧ pRounds a.n a.es a.ms u all fu t.1 t.2.1 t.2.2.1 t.2.2.2 = fin a.n a.es a.ms f u all)
    (fun t => cntL a.n t.2.1) (2, left0 a.n f, f.map rm0, rnd0 f.length) 2 260
    (fun t : St4 => [(8, .ptr 41 0 0), (9, .ptr 70 0 0), (10, .ptr 61 0 0)]) (rkH a u) (fun t => t.2 = fin a.n a.es a.ms f u all ∧ t.2.1.length = a.n ∧ ∃ rr, Agr a.n t.2.1 t.2.2.1 rr) ?_ ⟨left0_len, ⟨_, hA0⟩, by dsimp only; omega, a.n + 1, hc0, rfl⟩ ?_ ?_
  · dsimp only [rkH]
    rw [List.length_map]
    refine ⟨[(41, .blk 41 0), (61, .blk 61 0), (70, .blk 70 0), (71, .blk 71 0), (72, .blk 72 0), (74, .blk 74 0)], rfl, au0, ?_, au7⟩
    repeat' (first | exact RB.nil | (refine RnL.same ?_; first | rfl | (simp only [noRef, noRefs, noRefs_append, Bool.and_self, Bool.and_true, Bool.true_and, noRefs_ints, noRefs_eg, noRefs_ed, noRefs_rm, noRefs_ls, noRefs_bk, noRefs_bls, noRef_sli, noRef_sliN, noRef_egs, noRef_egsN, noRefs_keysI, noRefs_back, noRefs_rowE]; done)) | exact RnM.keyM rfl | exact RnL.nil | exact (True.intro : RnM _ _ _ [] []) | refine RnL.cons ?_ ?_ | (refine Rn.same ?_; first | rfl | (simp only [noRef, noRefs, noRefs_append, Bool.and_self, Bool.and_true, Bool.true_and, noRefs_ints, noRefs_eg, noRefs_ed, noRefs_rm, noRefs_ls, noRefs_bk, noRefs_bls, noRef_sli, noRef_sliN, noRef_egs, noRef_egsN, noRefs_keysI, noRefs_back, noRefs_rowE]; done)) | exact Rn.x1 rfl rfl | exact Rn.x2 rfl rfl | exact Rn.x3 rfl rfl | exact Rn.x4 rfl rfl | exact Rn.x5 rfl | exact Rn.x6 rfl | exact Rn.x7 rfl | refine RB.newnil rfl rfl ?_ | refine RB.cells rfl rfl rfl ?_ ?_ | refine RB.map rfl rfl rfl ?_ ?_ | refine RB.cellsB rfl rfl ?_ ?_ | refine RB.mapB rfl rfl ?_ ?_)
    · exact RnM.mapF fun x _ => Rn.same (noRef_sliN _)
  · rintro ⟨rank, l, rs, k⟩ ⟨hl, ⟨rr, hA⟩, hrk, fu, hfu, hpr⟩
    dsimp only at hl hA hrk hfu hpr ⊢
    dsimp only [rkH]
    have hN := next35 a u l rank all h.inN h.nd hl (by omega) hel (by omega) (by omega)
    have hst := pNext_st (left := lf l) (unc := u) (rank := rank) (all := all) h.inN h.nd h.srt
    obtain ⟨fu, rfl⟩ : ∃ m, fu = m + 1 := ⟨fu - 1, by omega⟩
    have hdec : ∀ r ∈ pNext a.n a.es a.ms (lf l) u rank all, cntL a.n (offs l ((pNext a.n a.es a.ms (lf l) u rank all).map (·.st))) < cntL a.n l := fun r hr => by
      obtain ⟨h1, h2⟩ := hst.2 r hr
      refine cntL_lt (fun i _ hi => ?_) h1 h2 ?_
      · rw [lf_offs] at hi; simp only [Bool.and_eq_true] at hi; exact hi.1
      · rw [lf_offs, len_of_contains (List.mem_map.2 ⟨r, hr, rfl⟩)]; simp
    unfold pRounds at hpr
    have hrl := agr_le hA
    have hA2 := hA.step hl hst.1 hst.2
    generalize pNext a.n a.es a.ms (lf l) u rank all = nx at *
    simp (maxSteps := 1000000) (disch := first | omega | exact PairsOK.mk rfl | (simp only [lenW] <;> omega)) only [Int.reduceGT, ne_eq, List.length_replicate, wD, Nat.reduceAdd, Nat.reduceEqDiff, Nat.reduceBEq, ↓reduceIte, reduceCtorEq, SX.exit.injEq, if_true, if_false, Int.reduceAdd, Int.reduceSub, Int.reduceMul, Int.reduceLT, Int.reduceLE, Int.reduceEq, Int.reduceNe, Int.reduceNeg, Int.reduceToNat, Nat.reduceMul, Nat.reduceLT, Nat.reduceSub, Nat.reduceLeDiff]
    refine ch (HSpec.of_F (FrzL.cons (frzP (a := a) (u := u) (l := l) (by first | (simp (disch := omega) only [get_same, get_ne, hp_cons]; done) | (simp (disch := omega) only [get_same, get_ne, hp_cons]; rfl)) (by first | (simp (disch := omega) only [get_same, get_ne, hp_cons]; done) | (simp (disch := omega) only [get_same, get_ne, hp_cons]; rfl)) (by first | (simp (disch := omega) only [get_same, get_ne, hp_cons]; done) | (simp (disch := omega) only [get_same, get_ne, hp_cons]; rfl)) hl) (FrzL.cons (FrzTo.same _) (FrzL.cons (FrzTo.same _) FrzL.nil))) (FSpec.of_new hN (by (try simp only [noRefs, noRefs_keysI, noRefs_back, noRefs_ints, noRefs_eg, noRefs_ed, noRefs_rm, noRefs_ls, noRefs_bls, noRef, Bool.and_self, Bool.and_true]) <;> rfl) (flat_rm _) (rm_len _) rfl)) ?_
    by_cases h0 : nx.length = 0
    · rw [if_pos h0] at hpr
      simp (maxSteps := 1000000) (disch := first | omega | exact PairsOK.mk rfl | (simp only [lenW] <;> omega)) only [h0, Int.reduceGT, ne_eq, List.length_replicate, wD, Nat.reduceAdd, Nat.reduceEqDiff, Nat.reduceBEq, ↓reduceIte, reduceCtorEq, SX.exit.injEq, if_true, if_false, Int.reduceAdd, Int.reduceSub, Int.reduceMul, Int.reduceLT, Int.reduceLE, Int.reduceEq, Int.reduceNe, Int.reduceNeg, Int.reduceToNat, Nat.reduceMul, Nat.reduceLT, Nat.reduceSub, Nat.reduceLeDiff]
      refine ⟨(rank, l, rs, k), ⟨hpr, hl, rr, hA⟩, ?_⟩
      refine ⟨[(41, .blk 41 0), (61, .blk 61 0), (70, .blk 70 0), (71, .blk 71 0), (72, .blk 72 0), (74, .blk 74 0)], rfl, au0, ?_, au7⟩
      repeat' (first | exact RB.nil | (refine RnL.same ?_; first | rfl | (simp only [noRef, noRefs, noRefs_append, Bool.and_self, Bool.and_true, Bool.true_and, noRefs_ints, noRefs_eg, noRefs_ed, noRefs_rm, noRefs_ls, noRefs_bk, noRefs_bls, noRef_sli, noRef_sliN, noRef_egs, noRef_egsN, noRefs_keysI, noRefs_back, noRefs_rowE]; done)) | exact RnM.keyM rfl | exact RnL.nil | exact (True.intro : RnM _ _ _ [] []) | refine RnL.cons ?_ ?_ | (refine Rn.same ?_; first | rfl | (simp only [noRef, noRefs, noRefs_append, Bool.and_self, Bool.and_true, Bool.true_and, noRefs_ints, noRefs_eg, noRefs_ed, noRefs_rm, noRefs_ls, noRefs_bk, noRefs_bls, noRef_sli, noRef_sliN, noRef_egs, noRef_egsN, noRefs_keysI, noRefs_back, noRefs_rowE]; done)) | exact Rn.x1 rfl rfl | exact Rn.x2 rfl rfl | exact Rn.x3 rfl rfl | exact Rn.x4 rfl rfl | exact Rn.x5 rfl | exact Rn.x6 rfl | exact Rn.x7 rfl | refine RB.newnil rfl rfl ?_ | refine RB.cells rfl rfl rfl ?_ ?_ | refine RB.map rfl rfl rfl ?_ ?_ | refine RB.cellsB rfl rfl ?_ ?_ | refine RB.mapB rfl rfl ?_ ?_)
      · exact RnM.mapF fun x _ => Rn.same (noRef_sliN _)
    · rw [if_neg h0] at hpr
      have hnl := agr_le hA2
      rw [List.length_append] at hnl
      obtain ⟨r0, hr0⟩ : ∃ r, r ∈ nx := by
        cases nx with
        | nil => exact absurd rfl h0
        | cons r _ => exact ⟨r, by simp⟩
      have hd0 := hdec r0 hr0
      have h0' : ¬ (nx.length : Int) = 0 := by omega
      simp (maxSteps := 1000000) (disch := first | omega | exact PairsOK.mk rfl | (simp only [lenW] <;> omega)) only [h0', Int.reduceGT, ne_eq, List.length_replicate, wD, Nat.reduceAdd, Nat.reduceEqDiff, Nat.reduceBEq, ↓reduceIte, reduceCtorEq, SX.exit.injEq, if_true, if_false, Int.reduceAdd, Int.reduceSub, Int.reduceMul, Int.reduceLT, Int.reduceLE, Int.reduceEq, Int.reduceNe, Int.reduceNeg, Int.reduceToNat, Nat.reduceMul, Nat.reduceLT, Nat.reduceSub, Nat.reduceLeDiff]
      refine wS_loopX 300 (fun j : Nat => [(49, rms nx), (50, .int .i64 nx.length), (51, .int .i64 j), (3, .bool all), (8, .ptr 41 0 0), (9, .ptr 70 0 0), (10, .ptr 61 0 0), (13, .int .i64 rank), (14, rms nx)])
        (fun j => rkH a u (rank, offs l ((nx.map (·.st)).take j), rs, k)) (fun j => j ≤ nx.length) (fun j => nx.length - j) 0 4 400
        (fun _ : Unit => [(3, .bool all), (8, .ptr 41 0 0), (9, .ptr 70 0 0), (10, .ptr 61 0 0), (13, .int .i64 rank), (14, rms nx)])
        (fun _ => rkH a u (rank, offs l (nx.map (·.st)), rs, k)) (fun _ => True) ?_ (Nat.zero_le _) ?_ ?_
      · refine ⟨[(41, .blk 41 0), (61, .blk 61 0), (70, .blk 70 0), (71, .blk 71 0), (72, .blk 72 0), (74, .blk 74 0)], rfl, au0, ?_, au7⟩
        repeat' (first | exact RB.nil | (refine RnL.same ?_; first | rfl | (simp only [noRef, noRefs, noRefs_append, Bool.and_self, Bool.and_true, Bool.true_and, noRefs_ints, noRefs_eg, noRefs_ed, noRefs_rm, noRefs_ls, noRefs_bk, noRefs_bls, noRef_sli, noRef_sliN, noRef_egs, noRef_egsN, noRefs_keysI, noRefs_back, noRefs_rowE]; done)) | exact RnM.keyM rfl | exact RnL.nil | exact (True.intro : RnM _ _ _ [] []) | refine RnL.cons ?_ ?_ | (refine Rn.same ?_; first | rfl | (simp only [noRef, noRefs, noRefs_append, Bool.and_self, Bool.and_true, Bool.true_and, noRefs_ints, noRefs_eg, noRefs_ed, noRefs_rm, noRefs_ls, noRefs_bk, noRefs_bls, noRef_sli, noRef_sliN, noRef_egs, noRef_egsN, noRefs_keysI, noRefs_back, noRefs_rowE]; done)) | exact Rn.x1 rfl rfl | exact Rn.x2 rfl rfl | exact Rn.x3 rfl rfl | exact Rn.x4 rfl rfl | exact Rn.x5 rfl | exact Rn.x6 rfl | exact Rn.x7 rfl | refine RB.newnil rfl rfl ?_ | refine RB.cells rfl rfl rfl ?_ ?_ | refine RB.map rfl rfl rfl ?_ ?_ | refine RB.cellsB rfl rfl ?_ ?_ | refine RB.mapB rfl rfl ?_ ?_)
        · exact RnM.mapF fun x _ => Rn.same (noRef_sliN _)
      · rintro j hj
        dsimp only [rkH]
        by_cases hjl : j < nx.length
        · obtain ⟨r, hr⟩ := get_ex hjl
          have hrn := (hst.2 r (List.mem_of_getElem? hr)).1
          have hst2 := offs_take (l := l) (xs := nx.map (·.st)) (i := j) (x := r.st) (by rw [List.getElem?_map, hr]; rfl)
          have hol : (offs l ((nx.map (·.st)).take j)).length = a.n := by rw [offs_len]; exact hl
          generalize offs l ((nx.map (·.st)).take j) = L at *
          have h1 : r.st + 1 ≤ L.length := by omega
          simp (maxSteps := 1000000) (disch := first | omega | exact PairsOK.mk rfl | (simp only [lenW] <;> omega)) only [hjl, drop_rms hr, hrn, h1, bls_set, Int.reduceGT, ne_eq, List.length_replicate, wD, Nat.reduceAdd, Nat.reduceEqDiff, Nat.reduceBEq, ↓reduceIte, reduceCtorEq, SX.exit.injEq, if_true, if_false, Int.reduceAdd, Int.reduceSub, Int.reduceMul, Int.reduceLT, Int.reduceLE, Int.reduceEq, Int.reduceNe, Int.reduceNeg, Int.reduceToNat, Nat.reduceMul, Nat.reduceLT, Nat.reduceSub, Nat.reduceLeDiff]
          refine ⟨j + 1, by omega, by omega, ?_⟩
          rw [hst2]
          refine ⟨[(41, .blk 41 0), (61, .blk 61 0), (70, .blk 70 0), (71, .blk 71 0), (72, .blk 72 0), (74, .blk 74 0)], rfl, au0, ?_, au7⟩
          repeat' (first | exact RB.nil | (refine RnL.same ?_; first | rfl | (simp only [noRef, noRefs, noRefs_append, Bool.and_self, Bool.and_true, Bool.true_and, noRefs_ints, noRefs_eg, noRefs_ed, noRefs_rm, noRefs_ls, noRefs_bk, noRefs_bls, noRef_sli, noRef_sliN, noRef_egs, noRef_egsN, noRefs_keysI, noRefs_back, noRefs_rowE]; done)) | exact RnM.keyM rfl | exact RnL.nil | exact (True.intro : RnM _ _ _ [] []) | refine RnL.cons ?_ ?_ | (refine Rn.same ?_; first | rfl | (simp only [noRef, noRefs, noRefs_append, Bool.and_self, Bool.and_true, Bool.true_and, noRefs_ints, noRefs_eg, noRefs_ed, noRefs_rm, noRefs_ls, noRefs_bk, noRefs_bls, noRef_sli, noRef_sliN, noRef_egs, noRef_egsN, noRefs_keysI, noRefs_back, noRefs_rowE]; done)) | exact Rn.x1 rfl rfl | exact Rn.x2 rfl rfl | exact Rn.x3 rfl rfl | exact Rn.x4 rfl rfl | exact Rn.x5 rfl | exact Rn.x6 rfl | exact Rn.x7 rfl | refine RB.newnil rfl rfl ?_ | refine RB.cells rfl rfl rfl ?_ ?_ | refine RB.map rfl rfl rfl ?_ ?_ | refine RB.cellsB rfl rfl ?_ ?_ | refine RB.mapB rfl rfl ?_ ?_)
          · exact RnM.mapF fun x _ => Rn.same (noRef_sliN _)
        · have e : j = nx.length := by omega
          have e2 : (nx.map (·.st)).take j = nx.map (·.st) := by rw [List.take_of_length_le]; simp; omega
          rw [e2]
          simp (maxSteps := 1000000) (disch := first | omega | exact PairsOK.mk rfl | (simp only [lenW] <;> omega)) only [hjl, Int.reduceGT, ne_eq, List.length_replicate, wD, Nat.reduceAdd, Nat.reduceEqDiff, Nat.reduceBEq, ↓reduceIte, reduceCtorEq, SX.exit.injEq, if_true, if_false, Int.reduceAdd, Int.reduceSub, Int.reduceMul, Int.reduceLT, Int.reduceLE, Int.reduceEq, Int.reduceNe, Int.reduceNeg, Int.reduceToNat, Nat.reduceMul, Nat.reduceLT, Nat.reduceSub, Nat.reduceLeDiff]
          refine ⟨(), ?_⟩
          refine ⟨[(41, .blk 41 0), (61, .blk 61 0), (70, .blk 70 0), (71, .blk 71 0), (72, .blk 72 0), (74, .blk 74 0)], rfl, au0, ?_, au7⟩
          repeat' (first | exact RB.nil | (refine RnL.same ?_; first | rfl | (simp only [noRef, noRefs, noRefs_append, Bool.and_self, Bool.and_true, Bool.true_and, noRefs_ints, noRefs_eg, noRefs_ed, noRefs_rm, noRefs_ls, noRefs_bk, noRefs_bls, noRef_sli, noRef_sliN, noRef_egs, noRef_egsN, noRefs_keysI, noRefs_back, noRefs_rowE]; done)) | exact RnM.keyM rfl | exact RnL.nil | exact (True.intro : RnM _ _ _ [] []) | refine RnL.cons ?_ ?_ | (refine Rn.same ?_; first | rfl | (simp only [noRef, noRefs, noRefs_append, Bool.and_self, Bool.and_true, Bool.true_and, noRefs_ints, noRefs_eg, noRefs_ed, noRefs_rm, noRefs_ls, noRefs_bk, noRefs_bls, noRef_sli, noRef_sliN, noRef_egs, noRef_egsN, noRefs_keysI, noRefs_back, noRefs_rowE]; done)) | exact Rn.x1 rfl rfl | exact Rn.x2 rfl rfl | exact Rn.x3 rfl rfl | exact Rn.x4 rfl rfl | exact Rn.x5 rfl | exact Rn.x6 rfl | exact Rn.x7 rfl | refine RB.newnil rfl rfl ?_ | refine RB.cells rfl rfl rfl ?_ ?_ | refine RB.map rfl rfl rfl ?_ ?_ | refine RB.cellsB rfl rfl ?_ ?_ | refine RB.mapB rfl rfl ?_ ?_)
          · exact RnM.mapF fun x _ => Rn.same (noRef_sliN _)
      rintro _ _
      have hrsl := rm_len rs
      have hon := one_rm nx
      dsimp only [rkH]
      simp (maxSteps := 1000000) (disch := first | omega | exact PairsOK.mk rfl | (simp only [lenW] <;> omega)) only [hrsl, hon, Int.reduceGT, ne_eq, List.length_replicate, wD, Nat.reduceAdd, Nat.reduceEqDiff, Nat.reduceBEq, ↓reduceIte, reduceCtorEq, SX.exit.injEq, if_true, if_false, Int.reduceAdd, Int.reduceSub, Int.reduceMul, Int.reduceLT, Int.reduceLE, Int.reduceEq, Int.reduceNe, Int.reduceNeg, Int.reduceToNat, Nat.reduceMul, Nat.reduceLT, Nat.reduceSub, Nat.reduceLeDiff]
      refine ⟨(rank + 1, offs l (nx.map (·.st)), rs ++ nx, rank), by dsimp only; exact hd0, ⟨by dsimp only; rw [offs_len]; exact hl, ⟨_, hA2⟩, by dsimp only; omega, fu, by dsimp only; omega, hpr⟩, ?_⟩
      dsimp only [rkH]
      rw [List.flatMap_append, List.length_append]
      refine ⟨[(41, .blk 41 0), (61, .blk 61 0), (70, .blk 70 0), (71, .blk 71 0), (72, .blk 72 0), (74, .blk 74 1)], rfl, au0, ?_, au7⟩
      repeat' (first | exact RB.nil | (refine RnL.same ?_; first | rfl | (simp only [noRef, noRefs, noRefs_append, Bool.and_self, Bool.and_true, Bool.true_and, noRefs_ints, noRefs_eg, noRefs_ed, noRefs_rm, noRefs_ls, noRefs_bk, noRefs_bls, noRef_sli, noRef_sliN, noRef_egs, noRef_egsN, noRefs_keysI, noRefs_back, noRefs_rowE]; done)) | exact RnM.keyM rfl | exact RnL.nil | exact (True.intro : RnM _ _ _ [] []) | refine RnL.cons ?_ ?_ | (refine Rn.same ?_; first | rfl | (simp only [noRef, noRefs, noRefs_append, Bool.and_self, Bool.and_true, Bool.true_and, noRefs_ints, noRefs_eg, noRefs_ed, noRefs_rm, noRefs_ls, noRefs_bk, noRefs_bls, noRef_sli, noRef_sliN, noRef_egs, noRef_egsN, noRefs_keysI, noRefs_back, noRefs_rowE]; done)) | exact Rn.x1 rfl rfl | exact Rn.x2 rfl rfl | exact Rn.x3 rfl rfl | exact Rn.x4 rfl rfl | exact Rn.x5 rfl | exact Rn.x6 rfl | exact Rn.x7 rfl | refine RB.newnil rfl rfl ?_ | refine RB.cells rfl rfl rfl ?_ ?_ | refine RB.map rfl rfl rfl ?_ ?_ | refine RB.cellsB rfl rfl ?_ ?_ | refine RB.mapB rfl rfl ?_ ?_)
      · exact RnM.mapF fun x _ => Rn.same (noRef_sliN _)
  rintro ⟨rank, l, rs, k⟩ ⟨hfin, hl, rr, hA⟩
  dsimp only at hfin hl hA ⊢
  have hrl := agr_le hA
  have hpd := pDist_len (left := lf l) h.inN h.nd
  have hsup := super54 a u l h hl hel (by omega)
  have hdi := dist53 a u l h.inN h.nd hl (by omega) hel (by omega)
  have hres : pRes a f u all = ⟨kept a.n l, dists a.n l (pDist a.n a.es a.ms (lf l)), srtR rs, k, restr a (lf l), (sAll a (lf l)).1⟩ := by
    unfold pRes; rw [← hfin]
  rw [hres]
  have hsr := srtR_len rs
  have hsrl := rm_len (srtR rs)
  generalize pDist a.n a.es a.ms (lf l) = d at *
  dsimp only [rkH]
  simp (maxSteps := 1000000) (disch := first | omega | exact PairsOK.mk rfl | (simp only [lenW] <;> omega)) only [Int.reduceGT, ne_eq, List.length_replicate, wD, Nat.reduceAdd, Nat.reduceEqDiff, Nat.reduceBEq, ↓reduceIte, reduceCtorEq, SX.exit.injEq, if_true, if_false, Int.reduceAdd, Int.reduceSub, Int.reduceMul, Int.reduceLT, Int.reduceLE, Int.reduceEq, Int.reduceNe, Int.reduceNeg, Int.reduceToNat, Nat.reduceMul, Nat.reduceLT, Nat.reduceSub, Nat.reduceLeDiff]
  refine ch (sortH (l := rs) (fun r hr => by have := ((hA.mem r).1 hr).1; omega) (by omega) (by first | (simp (disch := omega) only [get_same, get_ne, hp_cons]; done) | (simp (disch := omega) only [get_same, get_ne, hp_cons]; rfl))) ?_
  simp (maxSteps := 1000000) (disch := first | omega | exact PairsOK.mk rfl | (simp only [lenW] <;> omega)) only [Int.reduceGT, ne_eq, List.length_replicate, wD, Nat.reduceAdd, Nat.reduceEqDiff, Nat.reduceBEq, ↓reduceIte, reduceCtorEq, SX.exit.injEq, if_true, if_false, Int.reduceAdd, Int.reduceSub, Int.reduceMul, Int.reduceLT, Int.reduceLE, Int.reduceEq, Int.reduceNe, Int.reduceNeg, Int.reduceToNat, Nat.reduceMul, Nat.reduceLT, Nat.reduceSub, Nat.reduceLeDiff]
  refine ch (HSpec.of_F (FrzL.cons (frzP (a := a) (u := u) (l := l) (by first | (simp (disch := omega) only [get_same, get_ne, hp_cons]; done) | (simp (disch := omega) only [get_same, get_ne, hp_cons]; rfl)) (by first | (simp (disch := omega) only [get_same, get_ne, hp_cons]; done) | (simp (disch := omega) only [get_same, get_ne, hp_cons]; rfl)) (by first | (simp (disch := omega) only [get_same, get_ne, hp_cons]; done) | (simp (disch := omega) only [get_same, get_ne, hp_cons]; rfl)) hl) FrzL.nil) (FSpec.of_new hdi (by (try simp only [noRefs, noRefs_keysI, noRefs_back, noRefs_ints, noRefs_eg, noRefs_ed, noRefs_rm, noRefs_ls, noRefs_bls, noRef, Bool.and_self, Bool.and_true]) <;> rfl) (flat_ints _) (by rw [ints_len, hpd, Nat.mul_one]) rfl)) ?_
  simp (maxSteps := 1000000) (disch := first | omega | exact PairsOK.mk rfl | (simp only [lenW] <;> omega)) only [Int.reduceGT, ne_eq, List.length_replicate, wD, Nat.reduceAdd, Nat.reduceEqDiff, Nat.reduceBEq, ↓reduceIte, reduceCtorEq, SX.exit.injEq, if_true, if_false, Int.reduceAdd, Int.reduceSub, Int.reduceMul, Int.reduceLT, Int.reduceLE, Int.reduceEq, Int.reduceNe, Int.reduceNeg, Int.reduceToNat, Nat.reduceMul, Nat.reduceLT, Nat.reduceSub, Nat.reduceLeDiff]
  refine wS_loopX 500 (fun i : Nat => [(8, .ptr 41 0 0), (9, .ptr 70 0 0), (10, .ptr 61 0 0), (77, .fsl (ints d) a.n 1), (78, .int .i64 a.n), (79, .int .i64 i)])
    (fun i => [(41, .cells 0 nine), (61, .cells 0 [.sl 76 0 0 (kept i l).length 1, .sl 77 0 0 (kept i l).length 1, .sl 74 0 0 rs.length 4, .int .i64 (k : Int), .nilsl, .int .i64 0, .nilsl, .nilsl, .nilsl]), (70, .cells 0 (pblk a u)), (71, .map 0 (mapF .i64 (backF a.es) (keysR a.es))), (72, .cells 0 (bls l)), (74, .cells 0 ((srtR rs).flatMap rmC)), (76, .cells 0 (ints (nz (kept i l)))), (77, .cells 0 (ints (dists i l d)))])
    (fun i => i ≤ a.n) (fun i => a.n - i) 0 6 600
    (fun _ : Unit => [(8, .ptr 41 0 0), (9, .ptr 70 0 0), (10, .ptr 61 0 0)])
    (fun _ => [(41, .cells 0 nine), (61, .cells 0 [.sl 76 0 0 (kept a.n l).length 1, .sl 77 0 0 (kept a.n l).length 1, .sl 74 0 0 rs.length 4, .int .i64 (k : Int), .nilsl, .int .i64 0, .nilsl, .nilsl, .nilsl]), (70, .cells 0 (pblk a u)), (71, .map 0 (mapF .i64 (backF a.es) (keysR a.es))), (72, .cells 0 (bls l)), (74, .cells 0 ((srtR rs).flatMap rmC)), (76, .cells 0 (ints (nz (kept a.n l)))), (77, .cells 0 (ints (dists a.n l d)))]) (fun _ => True) ?_ (Nat.zero_le _) ?_ ?_
  · refine ⟨[(41, .blk 41 0), (61, .blk 61 0), (70, .blk 70 0), (71, .blk 71 0), (72, .blk 72 0), (74, .blk 74 0), (76, .nil), (77, .nil)], rfl, au0, ?_, au7⟩
    repeat' (first | exact RB.nil | (refine RnL.same ?_; first | rfl | (simp only [noRef, noRefs, noRefs_append, Bool.and_self, Bool.and_true, Bool.true_and, noRefs_ints, noRefs_eg, noRefs_ed, noRefs_rm, noRefs_ls, noRefs_bk, noRefs_bls, noRef_sli, noRef_sliN, noRef_egs, noRef_egsN, noRefs_keysI, noRefs_back, noRefs_rowE]; done)) | exact RnM.keyM rfl | exact RnL.nil | exact (True.intro : RnM _ _ _ [] []) | refine RnL.cons ?_ ?_ | (refine Rn.same ?_; first | rfl | (simp only [noRef, noRefs, noRefs_append, Bool.and_self, Bool.and_true, Bool.true_and, noRefs_ints, noRefs_eg, noRefs_ed, noRefs_rm, noRefs_ls, noRefs_bk, noRefs_bls, noRef_sli, noRef_sliN, noRef_egs, noRef_egsN, noRefs_keysI, noRefs_back, noRefs_rowE]; done)) | exact Rn.x1 rfl rfl | exact Rn.x2 rfl rfl | exact Rn.x3 rfl rfl | exact Rn.x4 rfl rfl | exact Rn.x5 rfl | exact Rn.x6 rfl | exact Rn.x7 rfl | refine RB.newnil rfl rfl ?_ | refine RB.cells rfl rfl rfl ?_ ?_ | refine RB.map rfl rfl rfl ?_ ?_ | refine RB.cellsB rfl rfl ?_ ?_ | refine RB.mapB rfl rfl ?_ ?_)
    · exact RnM.mapF fun x _ => Rn.same (noRef_sliN _)
  · rintro i hi
    by_cases hlt : i < a.n
    · have hks := kept_succ (i := i) (l := l)
      have hds := dists_succ (i := i) (l := l) (d := d)
      have hkl := @kept_len i l
      have hdl := @dists_len i l d
      generalize kept i l = K at *
      generalize dists i l d = D at *
      have hil : i < l.length := by omega
      have hid : i < d.length := by omega
      have hdx : d[i]? = some (d.getD i 0) := by rw [List.getElem?_eq_getElem hid]; simp [hid]
      by_cases h1 : lf l i = true
      · rw [if_pos h1] at hks hds
        simp (maxSteps := 1000000) (disch := first | omega | exact PairsOK.mk rfl | (simp only [lenW] <;> omega)) only [hlt, get_bls hil, head_ints hdx, h1, hdl, Int.reduceGT, ne_eq, List.length_replicate, wD, Nat.reduceAdd, Nat.reduceEqDiff, Nat.reduceBEq, ↓reduceIte, reduceCtorEq, SX.exit.injEq, if_true, if_false, Int.reduceAdd, Int.reduceSub, Int.reduceMul, Int.reduceLT, Int.reduceLE, Int.reduceEq, Int.reduceNe, Int.reduceNeg, Int.reduceToNat, Nat.reduceMul, Nat.reduceLT, Nat.reduceSub, Nat.reduceLeDiff]
        refine ⟨i + 1, by omega, by omega, ?_⟩
        rw [hks, hds, List.length_append, nz_append, ints_append, ints_append]
        refine ⟨[(41, .blk 41 0), (61, .blk 61 0), (70, .blk 70 0), (71, .blk 71 0), (72, .blk 72 0), (74, .blk 74 0), (76, .blk 76 1), (77, .blk 77 1)], rfl, au0, ?_, au7⟩
        repeat' (first | exact RB.nil | (refine RnL.same ?_; first | rfl | (simp only [noRef, noRefs, noRefs_append, Bool.and_self, Bool.and_true, Bool.true_and, noRefs_ints, noRefs_eg, noRefs_ed, noRefs_rm, noRefs_ls, noRefs_bk, noRefs_bls, noRef_sli, noRef_sliN, noRef_egs, noRef_egsN, noRefs_keysI, noRefs_back, noRefs_rowE]; done)) | exact RnM.keyM rfl | exact RnL.nil | exact (True.intro : RnM _ _ _ [] []) | refine RnL.cons ?_ ?_ | (refine Rn.same ?_; first | rfl | (simp only [noRef, noRefs, noRefs_append, Bool.and_self, Bool.and_true, Bool.true_and, noRefs_ints, noRefs_eg, noRefs_ed, noRefs_rm, noRefs_ls, noRefs_bk, noRefs_bls, noRef_sli, noRef_sliN, noRef_egs, noRef_egsN, noRefs_keysI, noRefs_back, noRefs_rowE]; done)) | exact Rn.x1 rfl rfl | exact Rn.x2 rfl rfl | exact Rn.x3 rfl rfl | exact Rn.x4 rfl rfl | exact Rn.x5 rfl | exact Rn.x6 rfl | exact Rn.x7 rfl | refine RB.newnil rfl rfl ?_ | refine RB.cells rfl rfl rfl ?_ ?_ | refine RB.map rfl rfl rfl ?_ ?_ | refine RB.cellsB rfl rfl ?_ ?_ | refine RB.mapB rfl rfl ?_ ?_)
        · exact RnM.mapF fun x _ => Rn.same (noRef_sliN _)
      · rw [if_neg h1, List.append_nil] at hks hds
        rw [Bool.not_eq_true] at h1
        simp (maxSteps := 1000000) (disch := first | omega | exact PairsOK.mk rfl | (simp only [lenW] <;> omega)) only [hlt, get_bls hil, head_ints hdx, h1, Int.reduceGT, ne_eq, List.length_replicate, wD, Nat.reduceAdd, Nat.reduceEqDiff, Nat.reduceBEq, ↓reduceIte, reduceCtorEq, SX.exit.injEq, if_true, if_false, Int.reduceAdd, Int.reduceSub, Int.reduceMul, Int.reduceLT, Int.reduceLE, Int.reduceEq, Int.reduceNe, Int.reduceNeg, Int.reduceToNat, Nat.reduceMul, Nat.reduceLT, Nat.reduceSub, Nat.reduceLeDiff]
        refine ⟨i + 1, by omega, by omega, ?_⟩
        rw [hks, hds]
        refine ⟨[(41, .blk 41 0), (61, .blk 61 0), (70, .blk 70 0), (71, .blk 71 0), (72, .blk 72 0), (74, .blk 74 0), (76, .blk 76 0), (77, .blk 77 0)], rfl, au0, ?_, au7⟩
        repeat' (first | exact RB.nil | (refine RnL.same ?_; first | rfl | (simp only [noRef, noRefs, noRefs_append, Bool.and_self, Bool.and_true, Bool.true_and, noRefs_ints, noRefs_eg, noRefs_ed, noRefs_rm, noRefs_ls, noRefs_bk, noRefs_bls, noRef_sli, noRef_sliN, noRef_egs, noRef_egsN, noRefs_keysI, noRefs_back, noRefs_rowE]; done)) | exact RnM.keyM rfl | exact RnL.nil | exact (True.intro : RnM _ _ _ [] []) | refine RnL.cons ?_ ?_ | (refine Rn.same ?_; first | rfl | (simp only [noRef, noRefs, noRefs_append, Bool.and_self, Bool.and_true, Bool.true_and, noRefs_ints, noRefs_eg, noRefs_ed, noRefs_rm, noRefs_ls, noRefs_bk, noRefs_bls, noRef_sli, noRef_sliN, noRef_egs, noRef_egsN, noRefs_keysI, noRefs_back, noRefs_rowE]; done)) | exact Rn.x1 rfl rfl | exact Rn.x2 rfl rfl | exact Rn.x3 rfl rfl | exact Rn.x4 rfl rfl | exact Rn.x5 rfl | exact Rn.x6 rfl | exact Rn.x7 rfl | refine RB.newnil rfl rfl ?_ | refine RB.cells rfl rfl rfl ?_ ?_ | refine RB.map rfl rfl rfl ?_ ?_ | refine RB.cellsB rfl rfl ?_ ?_ | refine RB.mapB rfl rfl ?_ ?_)
        · exact RnM.mapF fun x _ => Rn.same (noRef_sliN _)
    · have e : i = a.n := by omega
      subst e
      simp (maxSteps := 1000000) (disch := first | omega | exact PairsOK.mk rfl | (simp only [lenW] <;> omega)) only [hlt, Int.reduceGT, ne_eq, List.length_replicate, wD, Nat.reduceAdd, Nat.reduceEqDiff, Nat.reduceBEq, ↓reduceIte, reduceCtorEq, SX.exit.injEq, if_true, if_false, Int.reduceAdd, Int.reduceSub, Int.reduceMul, Int.reduceLT, Int.reduceLE, Int.reduceEq, Int.reduceNe, Int.reduceNeg, Int.reduceToNat, Nat.reduceMul, Nat.reduceLT, Nat.reduceSub, Nat.reduceLeDiff]
      refine ⟨(), ?_⟩
      refine ⟨[(41, .blk 41 0), (61, .blk 61 0), (70, .blk 70 0), (71, .blk 71 0), (72, .blk 72 0), (74, .blk 74 0), (76, .blk 76 0), (77, .blk 77 0)], rfl, au0, ?_, au7⟩
      repeat' (first | exact RB.nil | (refine RnL.same ?_; first | rfl | (simp only [noRef, noRefs, noRefs_append, Bool.and_self, Bool.and_true, Bool.true_and, noRefs_ints, noRefs_eg, noRefs_ed, noRefs_rm, noRefs_ls, noRefs_bk, noRefs_bls, noRef_sli, noRef_sliN, noRef_egs, noRef_egsN, noRefs_keysI, noRefs_back, noRefs_rowE]; done)) | exact RnM.keyM rfl | exact RnL.nil | exact (True.intro : RnM _ _ _ [] []) | refine RnL.cons ?_ ?_ | (refine Rn.same ?_; first | rfl | (simp only [noRef, noRefs, noRefs_append, Bool.and_self, Bool.and_true, Bool.true_and, noRefs_ints, noRefs_eg, noRefs_ed, noRefs_rm, noRefs_ls, noRefs_bk, noRefs_bls, noRef_sli, noRef_sliN, noRef_egs, noRef_egsN, noRefs_keysI, noRefs_back, noRefs_rowE]; done)) | exact Rn.x1 rfl rfl | exact Rn.x2 rfl rfl | exact Rn.x3 rfl rfl | exact Rn.x4 rfl rfl | exact Rn.x5 rfl | exact Rn.x6 rfl | exact Rn.x7 rfl | refine RB.newnil rfl rfl ?_ | refine RB.cells rfl rfl rfl ?_ ?_ | refine RB.map rfl rfl rfl ?_ ?_ | refine RB.cellsB rfl rfl ?_ ?_ | refine RB.mapB rfl rfl ?_ ?_)
      · exact RnM.mapF fun x _ => Rn.same (noRef_sliN _)
  rintro _ _
  have hdl := @dists_len a.n l d
  generalize restr a (lf l) = S at *
  generalize (sAll a (lf l)).1 = O at *
  simp (maxSteps := 1000000) (disch := first | omega | exact PairsOK.mk rfl | (simp only [lenW] <;> omega)) only [Int.reduceGT, ne_eq, List.length_replicate, wD, Nat.reduceAdd, Nat.reduceEqDiff, Nat.reduceBEq, ↓reduceIte, reduceCtorEq, SX.exit.injEq, if_true, if_false, Int.reduceAdd, Int.reduceSub, Int.reduceMul, Int.reduceLT, Int.reduceLE, Int.reduceEq, Int.reduceNe, Int.reduceNeg, Int.reduceToNat, Nat.reduceMul, Nat.reduceLT, Nat.reduceSub, Nat.reduceLeDiff]
  refine ch (HSpec.of_F (FrzL.cons (frzP (a := a) (u := u) (l := l) (by first | (simp (disch := omega) only [get_same, get_ne, hp_cons]; done) | (simp (disch := omega) only [get_same, get_ne, hp_cons]; rfl)) (by first | (simp (disch := omega) only [get_same, get_ne, hp_cons]; done) | (simp (disch := omega) only [get_same, get_ne, hp_cons]; rfl)) (by first | (simp (disch := omega) only [get_same, get_ne, hp_cons]; done) | (simp (disch := omega) only [get_same, get_ne, hp_cons]; rfl)) hl) FrzL.nil) hsup) ?_
  simp (maxSteps := 1000000) (disch := first | omega | exact PairsOK.mk rfl | (simp only [lenW] <;> omega)) only [Int.reduceGT, ne_eq, List.length_replicate, wD, Nat.reduceAdd, Nat.reduceEqDiff, Nat.reduceBEq, ↓reduceIte, reduceCtorEq, SX.exit.injEq, if_true, if_false, Int.reduceAdd, Int.reduceSub, Int.reduceMul, Int.reduceLT, Int.reduceLE, Int.reduceEq, Int.reduceNe, Int.reduceNeg, Int.reduceToNat, Nat.reduceMul, Nat.reduceLT, Nat.reduceSub, Nat.reduceLeDiff]
  refine ⟨.inr trivial, _, rfl, ?_⟩
  refine Rn.agg (RnL.cons (Rn.fz0 (g := 0) rfl (by simp [ints]) (RnL.same (noRefs_ints _))) (RnL.cons ?_ (RnL.cons ?_ (RnL.cons (Rn.same rfl) (RnL.cons (Rn.same (noRef_sliN _)) (RnL.cons (Rn.same rfl) (RnL.cons (Rn.same (noRef_sliN _)) (RnL.cons (Rn.same (noRef_egsN _)) (RnL.cons (Rn.same (noRef_sliN _)) RnL.nil)))))))))
  · have : (dists a.n l d).length = (kept a.n l).length := hdl
    show Rn 0 π0 _ (.fsl (ints (dists a.n l d)) (dists a.n l d).length 1) _
    rw [this]
    exact Rn.fz0 (g := 0) rfl (by rw [ints_len, this, Nat.mul_one]) (RnL.same (noRefs_ints _))
  · show Rn 0 π0 _ (.fsl ((srtR rs).flatMap rmC) (srtR rs).length 4) _
    rw [hsr]
    exact Rn.fz0 (g := 0) rfl (by rw [rm_len, hsr]) (RnL.same (noRefs_rm _))
end Go.AM.SE
set_option maxRecDepth 100000
namespace Go.AM.SF
open Go.Proofs
def s9 : SFn := ⟨92, [.tmp 0],
 (.seq (.region [⟨(some 0), .mov (.c (.bool false)), [], none⟩] [] [0])
 (.seq (.region [⟨(some 9), .call .pure (.f 31) [], [], none⟩,
 ⟨(some 10), .bslice true .dyn 1 1 [(.int .i64 0)] [(0, 1, (.c (.int .i64 2)))], [], none⟩,
 ⟨(some 11), .bslice true .dyn 1 2 [(.int .i64 0), (.int .i64 0)] [(0, 1, (.c (.int .i64 1))), (1, 1, (.c (.int .i64 2)))], [], none⟩,
 ⟨(some 12), .call .pure (.f 23) [(.t 9), (.t 10), (.t 11)], [0, 1, 2, 0], none⟩,
 ⟨(some 8), .mov (.t 12), [3], none⟩,
 ⟨(some 13), .extract 0 (.t 8), [4], none⟩,
 ⟨(some 14), .extract 1 (.t 8), [4], none⟩,
 ⟨(some 1), .alloc .dyn (.agg [.nilsl, .nilsl, .nilsl, (.int .i64 0), .nilsl, (.int .i64 0), .nilsl, .nilsl, .nilsl]), [], none⟩,
 ⟨none, .store 9 (.t 1) (.t 13), [7, 5, 3, 0, 1, 2, 3, 4, 5, 7], none⟩,
 ⟨(some 2), .mov (.t 14), [6, 8, 0, 1, 2, 3, 4, 5, 6, 7, 8], none⟩] [] [9, 10, 11, 12, 8, 13, 14])
 (.seq (.region [⟨(some 15), .call .pure (.f 31) [], [], none⟩,
 ⟨(some 3), .alloc .dyn (.agg [.nilsl, (.int .i64 0), .nilsl, .nilsl]), [], none⟩,
 ⟨none, .store 4 (.t 3) (.t 15), [1, 0, 0, 0, 1], none⟩] [] [15])
 (.seq (.region [⟨(some 16), .faddr 3 (.t 3), [], none⟩,
 ⟨(some 17), .load none (.t 16), [0], none⟩,
 ⟨(some 18), .slice (some 3) (.t 17) none (some (.c (.int .i64 3))) none, [1], none⟩,
 ⟨(some 19), .faddr 3 (.t 3), [0, 1, 2], none⟩,
 ⟨none, .store 1 (.t 19) (.t 18), [3, 2, 0, 1, 2], none⟩] [] [16, 17, 18, 19])
 (.seq (.region [⟨(some 21), .load (some 4) (.t 3), [], none⟩,
 ⟨(some 22), .bslice true .dyn 1 2 [(.int .i64 0), (.int .i64 0)] [(0, 1, (.c (.int .i64 1))), (1, 1, (.c (.int .i64 2)))], [], none⟩,
 ⟨(some 23), .call .pure (.f 23) [(.t 21), (.c .nilsl), (.t 22)], [0, 1], none⟩,
 ⟨(some 20), .mov (.t 23), [2], none⟩,
 ⟨(some 24), .extract 0 (.t 20), [3], none⟩,
 ⟨(some 25), .extract 1 (.t 20), [3], none⟩,
 ⟨(some 4), .alloc .dyn (.agg [.nilsl, .nilsl, .nilsl, (.int .i64 0), .nilsl, (.int .i64 0), .nilsl, .nilsl, .nilsl]), [], none⟩,
 ⟨none, .store 9 (.t 4) (.t 24), [6, 4, 2, 0, 1, 2, 3, 4, 6], none⟩,
 ⟨(some 5), .mov (.t 25), [5, 7, 0, 1, 2, 3, 4, 5, 6, 7], none⟩] [] [21, 22, 23, 20, 24, 25])
 (.seq (.region [⟨(some 27), .load (some 4) (.t 3), [], none⟩,
 ⟨(some 28), .bslice true .dyn 1 2 [(.int .i64 0), (.int .i64 0)] [(0, 1, (.c (.int .i64 1))), (1, 1, (.c (.int .i64 2)))], [], none⟩,
 ⟨(some 29), .call .pure (.f 24) [(.t 27), (.c .nilsl), (.t 28)], [0, 1], none⟩,
 ⟨(some 26), .mov (.t 29), [2], none⟩,
 ⟨(some 30), .extract 0 (.t 26), [3], none⟩,
 ⟨(some 31), .extract 1 (.t 26), [3], none⟩,
 ⟨(some 6), .alloc .dyn (.agg [.nilsl, .nilsl, .nilsl, (.int .i64 0), .nilsl, (.int .i64 0), .nilsl, .nilsl, .nilsl]), [], none⟩,
 ⟨none, .store 9 (.t 6) (.t 30), [6, 4, 2, 0, 1, 2, 3, 4, 6], none⟩,
 ⟨(some 7), .mov (.t 31), [5, 7, 0, 1, 2, 3, 4, 5, 6, 7], none⟩] [] [3, 27, 28, 29, 26, 30, 31])
 (.seq (.region [⟨(some 32), .mov (.t 2), [], none⟩,
 ⟨(some 33), .bin .eql (.t 32) (.c (.int .i64 0)), [0], none⟩,
 ⟨(some 34), .mov (.t 33), [1], none⟩,
 ⟨(some 35), .faddr 0 (.t 1), [2], (some (34, true))⟩,
 ⟨(some 36), .faddr 0 (.t 35), [3, 2], (some (34, true))⟩,
 ⟨(some 37), .load none (.t 36), [4, 2], (some (34, true))⟩,
 ⟨(some 38), .bslice true .dyn 1 1 [(.int .i64 0)] [(0, 1, (.c (.int .i64 0)))], [2], (some (34, true))⟩,
 ⟨(some 39), .call .pure (.f 14) [(.t 37), (.t 38)], [5, 6, 2, 2], (some (34, true))⟩,
 ⟨(some 40), .pick (.t 34) (.t 39) (.c (.bool false)), [2, 7], none⟩,
 ⟨(some 41), .mov (.t 40), [8, 7], none⟩,
 ⟨(some 42), .faddr 0 (.t 1), [9], (some (41, true))⟩,
 ⟨(some 43), .faddr 2 (.t 42), [10, 9], (some (41, true))⟩,
 ⟨(some 44), .load none (.t 43), [11, 9], (some (41, true))⟩,
 ⟨(some 45), .build [(.int .i64 0), (.int .i64 0), (.int .i64 0), (.int .i64 0)] [(0, 1, (.c (.int .i64 1))), (1, 1, (.c (.int .i64 2))), (2, 1, (.c (.int .i64 2))), (3, 1, (.c (.int .i64 2)))], [9], (some (41, true))⟩,
 ⟨(some 46), .build [(.int .i64 0), (.int .i64 0), (.int .i64 0), (.int .i64 0)] [(0, 1, (.c (.int .i64 2))), (1, 1, (.c (.int .i64 1))), (2, 1, (.c (.int .i64 1))), (3, 1, (.c (.int .i64 (-1))))], [9], (some (41, true))⟩,
 ⟨(some 47), .bslice true .dyn 4 2 [(.int .i64 0), (.int .i64 0), (.int .i64 0), (.int .i64 0), (.int .i64 0), (.int .i64 0), (.int .i64 0), (.int .i64 0)] [(0, 4, (.t 45)), (4, 4, (.t 46))], [13, 14, 9], (some (41, true))⟩,
 ⟨(some 48), .call .pure (.f 18) [(.t 44), (.t 47)], [12, 15, 9, 9], (some (41, true))⟩,
 ⟨(some 49), .pick (.t 41) (.t 48) (.c (.bool false)), [9, 16], none⟩,
 ⟨(some 50), .mov (.t 49), [17, 16], none⟩,
 ⟨(some 51), .faddr 4 (.t 1), [18], (some (50, true))⟩,
 ⟨(some 52), .faddr 1 (.t 51), [19, 18], (some (50, true))⟩,
 ⟨(some 53), .load none (.t 52), [20, 18], (some (50, true))⟩,
 ⟨(some 54), .bin .eql (.t 53) (.c (.int .i64 1)), [21, 18], (some (50, true))⟩,
 ⟨(some 55), .pick (.t 50) (.t 54) (.c (.bool false)), [18, 22], none⟩,
 ⟨(some 56), .mov (.t 55), [23, 18], none⟩,
 ⟨(some 57), .mov (.t 5), [24], (some (56, true))⟩,
 ⟨(some 58), .bin .eql (.t 57) (.c (.int .i64 0)), [25, 24], (some (56, true))⟩,
 ⟨(some 59), .pick (.t 56) (.t 58) (.c (.bool false)), [24, 26], none⟩,
 ⟨(some 60), .mov (.t 59), [27, 24], none⟩,
 ⟨(some 61), .faddr 3 (.t 4), [28], (some (60, true))⟩,
 ⟨(some 62), .load none (.t 61), [29, 28], (some (60, true))⟩,
 ⟨(some 63), .bin .eql (.t 62) (.c (.int .i64 3)), [30, 28], (some (60, true))⟩,
 ⟨(some 64), .pick (.t 60) (.t 63) (.c (.bool false)), [28, 31], none⟩,
 ⟨(some 65), .mov (.t 64), [32, 28], none⟩,
 ⟨(some 66), .faddr 0 (.t 4), [33], (some (65, true))⟩,
 ⟨(some 67), .faddr 2 (.t 66), [34, 33], (some (65, true))⟩,
 ⟨(some 68), .load none (.t 67), [35, 33], (some (65, true))⟩,
 ⟨(some 69), .len 1 (.t 68), [36, 33], (some (65, true))⟩,
 ⟨(some 70), .bin .eql (.t 69) (.c (.int .i64 2)), [37, 33], (some (65, true))⟩,
 ⟨(some 71), .pick (.t 65) (.t 70) (.c (.bool false)), [33, 38], none⟩,
 ⟨(some 72), .mov (.t 71), [39, 33], none⟩,
 ⟨(some 73), .faddr 0 (.t 4), [40], (some (72, true))⟩,
 ⟨(some 74), .faddr 2 (.t 73), [41, 40], (some (72, true))⟩,
 ⟨(some 75), .load none (.t 74), [42, 40], (some (72, true))⟩,
 ⟨(some 76), .iaddr none 4 (.t 75) (.c (.int .i64 1)), [43, 40], (some (72, true))⟩,
 ⟨(some 77), .faddr 2 (.t 76), [44, 40], (some (72, true))⟩,
 ⟨(some 78), .load none (.t 77), [45, 40], (some (72, true))⟩,
 ⟨(some 79), .bin .eql (.t 78) (.c (.int .i64 3)), [46, 40], (some (72, true))⟩,
 ⟨(some 80), .pick (.t 72) (.t 79) (.c (.bool false)), [40, 47], none⟩,
 ⟨(some 81), .mov (.t 80), [48, 40], none⟩,
 ⟨(some 82), .mov (.t 7), [49], (some (81, true))⟩,
 ⟨(some 83), .bin .eql (.t 82) (.c (.int .i64 0)), [50, 49], (some (81, true))⟩,
 ⟨(some 84), .pick (.t 81) (.t 83) (.c (.bool false)), [49, 51], none⟩,
 ⟨(some 85), .mov (.t 84), [52, 49], none⟩,
 ⟨(some 86), .faddr 0 (.t 6), [53], (some (85, true))⟩,
 ⟨(some 87), .faddr 1 (.t 86), [54, 53], (some (85, true))⟩,
 ⟨(some 88), .load none (.t 87), [55, 53], (some (85, true))⟩,
 ⟨(some 89), .bslice true .dyn 1 3 [(.int .i64 0), (.int .i64 0), (.int .i64 0)] [(0, 1, (.c (.int .i64 0))), (1, 1, (.c (.int .i64 1))), (2, 1, (.c (.int .i64 (-1))))], [53], (some (85, true))⟩,
 ⟨(some 90), .call .pure (.f 14) [(.t 88), (.t 89)], [56, 57, 53, 53], (some (85, true))⟩,
 ⟨(some 91), .pick (.t 85) (.t 90) (.c (.bool false)), [53, 58], none⟩,
 ⟨(some 0), .mov (.t 91), [59, 58, 0, 1, 2, 3, 4, 5, 6, 7, 8, 9, 10, 11, 12, 13, 14, 15, 16, 17, 18, 19, 20, 21, 22, 23, 24, 25, 26, 27, 28, 29, 30, 31, 32, 33, 34, 35, 36, 37, 38, 39, 40, 41, 42, 43, 44, 45, 46, 47, 48, 49, 50, 51, 52, 53, 54, 55, 56, 57, 58, 59], none⟩] [] [1, 2, 4, 5, 6, 7, 32, 33, 34, 35, 36, 37, 38, 39, 40, 41, 42, 43, 44, 45, 46, 47, 48, 49, 50, 51, 52, 53, 54, 55, 56, 57, 58, 59, 60, 61, 62, 63, 64, 65, 66, 67, 68, 69, 70, 71, 72, 73, 74, 75, 76, 77, 78, 79, 80, 81, 82, 83, 84, 85, 86, 87, 88, 89, 90, 91])
 .ret)))))))⟩
theorem ok9 : okFn Try.prog 9 s9 = true := by kernel_rfl
end Go.AM.SF
namespace Go.AM.SE
open Go.Proofs Go.AM.SD
set_option maxRecDepth 100000
set_option linter.unusedSimpArgs false
set_option linter.unusedVariables false
theorem noRef_res2 (r : Res) (e : Int) : noRef (.tup [rsV r, .int .i64 e]) = true := by simp only [noRef, noRefs, noRefs_ints, noRefs_rm, noRefs_ed]; rfl
theorem Synth23 (a : Aut) (f u : List Nat) (h : WfA a) (hq : QOk a f u) (hel : a.es.length ≤ 1000000) : PSpec Try.prog 23 [aV a, sliN f, sliN u] (.tup [rsV (pRes a f u true), .int .i64 0]) := by
  refine PSpec.of_rn 64 ok23 rfl (by (try simp only [noRefs, noRefs_keysI, noRefs_back, noRefs_ints, noRefs_eg, noRefs_ed, noRefs_rm, noRefs_ls, noRefs_bls, noRef, Bool.and_self, Bool.and_true]) <;> rfl) (noRef_res2 _ _) ?_
  simp (maxSteps := 1000000) (disch := first | omega | exact PairsOK.mk rfl | (simp only [lenW] <;> omega)) only [s23, Int.reduceGT, ne_eq, List.length_replicate, wD, Nat.reduceAdd, Nat.reduceEqDiff, Nat.reduceBEq, ↓reduceIte, reduceCtorEq, SX.exit.injEq, if_true, if_false, Int.reduceAdd, Int.reduceSub, Int.reduceMul, Int.reduceLT, Int.reduceLE, Int.reduceEq, Int.reduceNe, Int.reduceNeg, Int.reduceToNat, Nat.reduceMul, Nat.reduceLT, Nat.reduceSub, Nat.reduceLeDiff]
  refine cp (check22N a f u h hq hel) ?_
  simp (maxSteps := 1000000) (disch := first | omega | exact PairsOK.mk rfl | (simp only [lenW] <;> omega)) only [Int.reduceGT, ne_eq, List.length_replicate, wD, Nat.reduceAdd, Nat.reduceEqDiff, Nat.reduceBEq, ↓reduceIte, reduceCtorEq, SX.exit.injEq, if_true, if_false, Int.reduceAdd, Int.reduceSub, Int.reduceMul, Int.reduceLT, Int.reduceLE, Int.reduceEq, Int.reduceNe, Int.reduceNeg, Int.reduceToNat, Nat.reduceMul, Nat.reduceLT, Nat.reduceSub, Nat.reduceLeDiff]
  refine cp (result39 a f u true h hq hel) ?_
  generalize pRes a f u true = r
  simp (maxSteps := 1000000) (disch := first | omega | exact PairsOK.mk rfl | (simp only [lenW] <;> omega)) only [Int.reduceGT, ne_eq, List.length_replicate, wD, Nat.reduceAdd, Nat.reduceEqDiff, Nat.reduceBEq, ↓reduceIte, reduceCtorEq, SX.exit.injEq, if_true, if_false, Int.reduceAdd, Int.reduceSub, Int.reduceMul, Int.reduceLT, Int.reduceLE, Int.reduceEq, Int.reduceNe, Int.reduceNeg, Int.reduceToNat, Nat.reduceMul, Nat.reduceLT, Nat.reduceSub, Nat.reduceLeDiff]
  exact ⟨.inr trivial, _, rfl, Rn.same (noRef_res2 _ _)⟩
theorem Closed24 (a : Aut) (f u : List Nat) (h : WfA a) (hq : QOk a f u) (hel : a.es.length ≤ 1000000) : PSpec Try.prog 24 [aV a, sliN f, sliN u] (.tup [rsV (pRes a f u false), .int .i64 0]) := by
  refine PSpec.of_rn 64 ok24 rfl (by (try simp only [noRefs, noRefs_keysI, noRefs_back, noRefs_ints, noRefs_eg, noRefs_ed, noRefs_rm, noRefs_ls, noRefs_bls, noRef, Bool.and_self, Bool.and_true]) <;> rfl) (noRef_res2 _ _) ?_
  simp (maxSteps := 1000000) (disch := first | omega | exact PairsOK.mk rfl | (simp only [lenW] <;> omega)) only [s24, Int.reduceGT, ne_eq, List.length_replicate, wD, Nat.reduceAdd, Nat.reduceEqDiff, Nat.reduceBEq, ↓reduceIte, reduceCtorEq, SX.exit.injEq, if_true, if_false, Int.reduceAdd, Int.reduceSub, Int.reduceMul, Int.reduceLT, Int.reduceLE, Int.reduceEq, Int.reduceNe, Int.reduceNeg, Int.reduceToNat, Nat.reduceMul, Nat.reduceLT, Nat.reduceSub, Nat.reduceLeDiff]
  refine cp (check22N a f u h hq hel) ?_
  simp (maxSteps := 1000000) (disch := first | omega | exact PairsOK.mk rfl | (simp only [lenW] <;> omega)) only [Int.reduceGT, ne_eq, List.length_replicate, wD, Nat.reduceAdd, Nat.reduceEqDiff, Nat.reduceBEq, ↓reduceIte, reduceCtorEq, SX.exit.injEq, if_true, if_false, Int.reduceAdd, Int.reduceSub, Int.reduceMul, Int.reduceLT, Int.reduceLE, Int.reduceEq, Int.reduceNe, Int.reduceNeg, Int.reduceToNat, Nat.reduceMul, Nat.reduceLT, Nat.reduceSub, Nat.reduceLeDiff]
  refine cp (result39 a f u false h hq hel) ?_
  generalize pRes a f u false = r
  simp (maxSteps := 1000000) (disch := first | omega | exact PairsOK.mk rfl | (simp only [lenW] <;> omega)) only [Int.reduceGT, ne_eq, List.length_replicate, wD, Nat.reduceAdd, Nat.reduceEqDiff, Nat.reduceBEq, ↓reduceIte, reduceCtorEq, SX.exit.injEq, if_true, if_false, Int.reduceAdd, Int.reduceSub, Int.reduceMul, Int.reduceLT, Int.reduceLE, Int.reduceEq, Int.reduceNe, Int.reduceNeg, Int.reduceToNat, Nat.reduceMul, Nat.reduceLT, Nat.reduceSub, Nat.reduceLeDiff]
  exact ⟨.inr trivial, _, rfl, Rn.same (noRef_res2 _ _)⟩
theorem Kept11 (a : Aut) (f u : List Nat) (h : WfA a) (hq : QOk a f u) (hel : a.es.length ≤ 1000000) : PSpec Try.prog 11 [aV a, sliN f, sliN u] (.tup [sliN (pRes a f u true).kept, .int .i64 0]) := by
  refine PSpec.of_rn 64 ok11 rfl (by (try simp only [noRefs, noRefs_keysI, noRefs_back, noRefs_ints, noRefs_eg, noRefs_ed, noRefs_rm, noRefs_ls, noRefs_bls, noRef, Bool.and_self, Bool.and_true]) <;> rfl) (by simp only [noRef, noRefs, noRefs_ints]; rfl) ?_
  simp (maxSteps := 1000000) (disch := first | omega | exact PairsOK.mk rfl | (simp only [lenW] <;> omega)) only [s11, Int.reduceGT, ne_eq, List.length_replicate, wD, Nat.reduceAdd, Nat.reduceEqDiff, Nat.reduceBEq, ↓reduceIte, reduceCtorEq, SX.exit.injEq, if_true, if_false, Int.reduceAdd, Int.reduceSub, Int.reduceMul, Int.reduceLT, Int.reduceLE, Int.reduceEq, Int.reduceNe, Int.reduceNeg, Int.reduceToNat, Nat.reduceMul, Nat.reduceLT, Nat.reduceSub, Nat.reduceLeDiff]
  refine cp (Synth23 a f u h hq hel) ?_
  generalize pRes a f u true = r
  simp (maxSteps := 1000000) (disch := first | omega | exact PairsOK.mk rfl | (simp only [lenW] <;> omega)) only [Int.reduceGT, ne_eq, List.length_replicate, wD, Nat.reduceAdd, Nat.reduceEqDiff, Nat.reduceBEq, ↓reduceIte, reduceCtorEq, SX.exit.injEq, if_true, if_false, Int.reduceAdd, Int.reduceSub, Int.reduceMul, Int.reduceLT, Int.reduceLE, Int.reduceEq, Int.reduceNe, Int.reduceNeg, Int.reduceToNat, Nat.reduceMul, Nat.reduceLT, Nat.reduceSub, Nat.reduceLeDiff]
  exact ⟨.inr trivial, _, rfl, Rn.same (by simp only [noRef, noRefs, noRefs_ints]; rfl)⟩
theorem nil_mid {P : Program} {fn : Nat} {x y v : AV} {sz : Nat} (hx : noRef x = true) (hy : noRef y = true) (hp : PSpec P fn [x, .fsl [] 0 sz, y] v) : PSpec P fn [x, .nilsl, y] v := by
  refine PSpec.weak (fun c w vs _ ha => ?_) (by simp only [noRefs, hx, hy, noRef]; rfl) hp
  simp only [VRels] at ha ⊢
  obtain ⟨v1, vs1, rfl, h1, v2, vs2, rfl, h2, v3, vs3, rfl, h3, h4⟩ := ha
  refine ⟨v1, _, rfl, h1, v2, _, rfl, ?_, v3, _, rfl, h3, h4⟩
  simp only [VRel] at h2 ⊢
  exact .inl ⟨⟨none, h2⟩, trivial, trivial⟩
def mach : Aut := ⟨[0, 1, 2, 3], 3, [0], [(0, 0, 1), (1, 1, 0), (1, 2, 2), (2, 3, 0)]⟩
def mach3 : Aut := ⟨[0, 1, 2, 3], 3, [0], [(0, 0, 1), (1, 1, 0), (1, 2, 2)]⟩
theorem mach_wf : WfA mach := by
  refine ⟨by decide, by decide, by decide, by decide, by decide, by decide, by decide, by decide⟩
theorem mach3_wf : WfA mach3 := by
  refine ⟨by decide, by decide, by decide, by decide, by decide, by decide, by decide, by decide⟩
theorem machine31 : PSpec Try.prog 31 [] (aV mach) := by
  refine PSpec.of_rn 64 ok31 rfl rfl (noRef_aV _) ?_
  simp (maxSteps := 1000000) (disch := first | omega | exact PairsOK.mk rfl | (simp only [lenW] <;> omega)) only [s31, Int.reduceGT, ne_eq, List.length_replicate, wD, Nat.reduceAdd, Nat.reduceEqDiff, Nat.reduceBEq, ↓reduceIte, reduceCtorEq, SX.exit.injEq, if_true, if_false, Int.reduceAdd, Int.reduceSub, Int.reduceMul, Int.reduceLT, Int.reduceLE, Int.reduceEq, Int.reduceNe, Int.reduceNeg, Int.reduceToNat, Nat.reduceMul, Nat.reduceLT, Nat.reduceSub, Nat.reduceLeDiff]
  refine ⟨.inr trivial, _, rfl, ?_⟩
  exact Rn.agg (RnL.cons (Rn.fz0 (g := 0) rfl rfl (RnL.same rfl)) (RnL.cons (Rn.same rfl) (RnL.cons (Rn.fz0 (g := 0) rfl rfl (RnL.same rfl)) (RnL.cons (Rn.fz0 (g := 0) rfl rfl (RnL.same rfl)) RnL.nil))))
theorem q1 : QOk mach [2] [1, 2] := ⟨by decide, by decide, by decide, by decide⟩
theorem q2 : QOk mach3 [] [1, 2] := ⟨by decide, by decide, by decide, by decide⟩
theorem r1_eq : pRes mach [2] [1, 2] true = ⟨[0], [0], [⟨1, 2, 2, 2⟩, ⟨2, 1, 1, -1⟩], 2, ⟨[0, 1, 2, 3], 1, [0], []⟩, [0]⟩ := by
  kernel_rfl
theorem r2_eq : pRes mach3 [] [1, 2] true = ⟨[0], [0], [⟨1, 3, 2, 2⟩, ⟨2, 2, 3, -1⟩], 3, ⟨[0, 1, 2, 3], 1, [0], []⟩, [0]⟩ := by
  kernel_rfl
theorem r3_eq : pRes mach3 [] [1, 2] false = ⟨[0, 1, 2], [0, 1, -1], [], 0, mach3, [0, 1, 2]⟩ := by
  kernel_rfl
theorem aEq_rm (x y : Rm) : aEq (.flat true [.i, .i, .i, .i]) true (rmV x) (rmV y) = some (.bool (!decide (x = y))) := by
  have : ∀ n m : Nat, decide ((n : Int) = (m : Int)) = decide (n = m) := fun n m => decide_eq_decide.2 (by omega)
  obtain ⟨a, b, c, d⟩ := x
  obtain ⟨a', b', c', d'⟩ := y
  simp only [aEq, eqCells, eqCell, if_true]
  simp only [Rm.mk.injEq, Bool.decide_and, this]
  cases decide (a = a') <;> cases decide (b = b') <;> cases decide (c = c') <;> cases decide (d = d') <;> rfl
theorem sameRems18 (a b : List Rm) (hl : a.length ≤ 1000000) : PSpec Try.prog 18 [rms a, rms b] (.bool (decide (a = b))) := by
  refine PSpec.of_flat 64 ok18 rfl (by (try simp only [noRefs, noRefs_keysI, noRefs_back, noRefs_ints, noRefs_eg, noRefs_ed, noRefs_rm, noRefs_ls, noRefs_bls, noRef, Bool.and_self, Bool.and_true]) <;> rfl) rfl ?_
  by_cases hab : a.length = b.length
  · simp (maxSteps := 1000000) (disch := first | omega | exact PairsOK.mk rfl | (simp only [lenW] <;> omega)) only [s18, hab, Int.reduceGT, ne_eq, List.length_replicate, wD, Nat.reduceAdd, Nat.reduceEqDiff, Nat.reduceBEq, ↓reduceIte, reduceCtorEq, SX.exit.injEq, if_true, if_false, Int.reduceAdd, Int.reduceSub, Int.reduceMul, Int.reduceLT, Int.reduceLE, Int.reduceEq, Int.reduceNe, Int.reduceNeg, Int.reduceToNat, Nat.reduceMul, Nat.reduceLT, Nat.reduceSub, Nat.reduceLeDiff]
    refine wS_loopR 100 (fun i : Nat => [(0, rms a), (1, rms b), (5, .int .i64 i)]) (fun _ => []) (fun i => i ≤ a.length ∧ ∀ j, j < i → a[j]? = b[j]?) (fun i => a.length - i) 0 ⟨[], rfl, au0, au8, au7⟩ ⟨Nat.zero_le _, fun j hj => absurd hj (Nat.not_lt_zero _)⟩ ?_
    rintro i ⟨hi, hb⟩
    by_cases hlt : i < a.length
    · obtain ⟨x, hx⟩ := get_ex hlt
      obtain ⟨y, hy⟩ := get_ex (l := b) (i := i) (by omega)
      have hlt2 : i < b.length := by omega
      by_cases h0 : x = y
      · have hq : aEq (.flat true [.i, .i, .i, .i]) true (rmV y) (rmV y) = some (.bool false) := by rw [aEq_rm]; simp
        simp (maxSteps := 1000000) (disch := first | omega | exact PairsOK.mk rfl | (simp only [lenW] <;> omega)) only [hlt, hlt2, drop_rms hx, drop_rms hy, hq, h0, Int.reduceGT, ne_eq, List.length_replicate, wD, Nat.reduceAdd, Nat.reduceEqDiff, Nat.reduceBEq, ↓reduceIte, reduceCtorEq, SX.exit.injEq, if_true, if_false, Int.reduceAdd, Int.reduceSub, Int.reduceMul, Int.reduceLT, Int.reduceLE, Int.reduceEq, Int.reduceNe, Int.reduceNeg, Int.reduceToNat, Nat.reduceMul, Nat.reduceLT, Nat.reduceSub, Nat.reduceLeDiff]
        refine ⟨i + 1, by omega, ⟨by omega, fun j hj => ?_⟩, ⟨[], rfl, au0, au8, au7⟩⟩
        by_cases e : j = i
        · subst e; rw [hx, hy, h0]
        · exact hb j (by omega)
      · have hq : aEq (.flat true [.i, .i, .i, .i]) true (rmV x) (rmV y) = some (.bool true) := by rw [aEq_rm]; simp [h0]
        simp (maxSteps := 1000000) (disch := first | omega | exact PairsOK.mk rfl | (simp only [lenW] <;> omega)) only [hlt, hlt2, drop_rms hx, drop_rms hy, hq, Int.reduceGT, ne_eq, List.length_replicate, wD, Nat.reduceAdd, Nat.reduceEqDiff, Nat.reduceBEq, ↓reduceIte, reduceCtorEq, SX.exit.injEq, if_true, if_false, Int.reduceAdd, Int.reduceSub, Int.reduceMul, Int.reduceLT, Int.reduceLE, Int.reduceEq, Int.reduceNe, Int.reduceNeg, Int.reduceToNat, Nat.reduceMul, Nat.reduceLT, Nat.reduceSub, Nat.reduceLeDiff]
        refine ⟨.inr trivial, _, rfl, ?_⟩
        have : a ≠ b := fun e => by subst e; rw [hx] at hy; cases hy; exact h0 rfl
        simp [resOf, lk_cons, this]
    · have : a = b := List.ext_getElem? fun j => by
        by_cases hj : j < i
        · exact hb j hj
        · rw [List.getElem?_eq_none (by omega), List.getElem?_eq_none (by omega)]
      simp (maxSteps := 1000000) (disch := first | omega | exact PairsOK.mk rfl | (simp only [lenW] <;> omega)) only [hlt, Int.reduceGT, ne_eq, List.length_replicate, wD, Nat.reduceAdd, Nat.reduceEqDiff, Nat.reduceBEq, ↓reduceIte, reduceCtorEq, SX.exit.injEq, if_true, if_false, Int.reduceAdd, Int.reduceSub, Int.reduceMul, Int.reduceLT, Int.reduceLE, Int.reduceEq, Int.reduceNe, Int.reduceNeg, Int.reduceToNat, Nat.reduceMul, Nat.reduceLT, Nat.reduceSub, Nat.reduceLeDiff]
      exact ⟨.inr trivial, _, rfl, by simp [resOf, lk_cons, this]⟩
  · simp (maxSteps := 1000000) (disch := first | omega | exact PairsOK.mk rfl | (simp only [lenW] <;> omega)) only [s18, hab, Int.reduceGT, ne_eq, List.length_replicate, wD, Nat.reduceAdd, Nat.reduceEqDiff, Nat.reduceBEq, ↓reduceIte, reduceCtorEq, SX.exit.injEq, if_true, if_false, Int.reduceAdd, Int.reduceSub, Int.reduceMul, Int.reduceLT, Int.reduceLE, Int.reduceEq, Int.reduceNe, Int.reduceNeg, Int.reduceToNat, Nat.reduceMul, Nat.reduceLT, Nat.reduceSub, Nat.reduceLeDiff]
    have : a ≠ b := fun e => hab (by rw [e])
    exact ⟨.inr trivial, _, rfl, by simp [resOf, lk_cons, this]⟩
set_option maxHeartbeats 16000000 in
theorem known9 : PSpec Try.prog 9 [] (.bool true) := by
  have k1 := Synth23 mach [2] [1, 2] mach_wf q1 (by decide)
  have k2 := nil_mid (noRef_aV _) (noRef_sliN _) (Synth23 mach3 [] [1, 2] mach3_wf q2 (by decide))
  have k3 := nil_mid (noRef_aV _) (noRef_sliN _) (Closed24 mach3 [] [1, 2] mach3_wf q2 (by decide))
  rw [r1_eq] at k1
  rw [r2_eq] at k2
  rw [r3_eq] at k3
  refine PSpec.of_flat 64 SF.ok9 rfl rfl rfl ?_
  simp (maxSteps := 1000000) (disch := first | omega | exact PairsOK.mk rfl | (simp only [lenW] <;> omega)) only [SF.s9, Int.reduceGT, ne_eq, List.length_replicate, wD, Nat.reduceAdd, Nat.reduceEqDiff, Nat.reduceBEq, ↓reduceIte, reduceCtorEq, SX.exit.injEq, if_true, if_false, Int.reduceAdd, Int.reduceSub, Int.reduceMul, Int.reduceLT, Int.reduceLE, Int.reduceEq, Int.reduceNe, Int.reduceNeg, Int.reduceToNat, Nat.reduceMul, Nat.reduceLT, Nat.reduceSub, Nat.reduceLeDiff]
  refine cp machine31 ?_
  simp (maxSteps := 1000000) (disch := first | omega | exact PairsOK.mk rfl | (simp only [lenW] <;> omega)) only [aBuildSlice_frz, wZ_some, List.map_cons, List.map_nil, Int.reduceGT, ne_eq, List.length_replicate, wD, Nat.reduceAdd, Nat.reduceEqDiff, Nat.reduceBEq, ↓reduceIte, reduceCtorEq, SX.exit.injEq, if_true, if_false, Int.reduceAdd, Int.reduceSub, Int.reduceMul, Int.reduceLT, Int.reduceLE, Int.reduceEq, Int.reduceNe, Int.reduceNeg, Int.reduceToNat, Nat.reduceMul, Nat.reduceLT, Nat.reduceSub, Nat.reduceLeDiff]
  refine cp k1 ?_
  simp (maxSteps := 1000000) (disch := first | omega | exact PairsOK.mk rfl | (simp only [lenW] <;> omega)) only [aBuildSlice_frz, wZ_some, List.map_cons, List.map_nil, Int.reduceGT, ne_eq, List.length_replicate, wD, Nat.reduceAdd, Nat.reduceEqDiff, Nat.reduceBEq, ↓reduceIte, reduceCtorEq, SX.exit.injEq, if_true, if_false, Int.reduceAdd, Int.reduceSub, Int.reduceMul, Int.reduceLT, Int.reduceLE, Int.reduceEq, Int.reduceNe, Int.reduceNeg, Int.reduceToNat, Nat.reduceMul, Nat.reduceLT, Nat.reduceSub, Nat.reduceLeDiff]
  refine cp machine31 ?_
  have h3 : (3 : Int) ≤ ((mach.es.length : Nat) : Int) := by decide
  have ht : List.take 9 (mach.es.flatMap edC) = mach3.es.flatMap edC := rfl
  simp (maxSteps := 1000000) (disch := first | omega | exact PairsOK.mk rfl | (simp only [lenW] <;> omega)) only [aBuildSlice_frz, wZ_some, List.map_cons, List.map_nil, h3, ht, Int.reduceGT, ne_eq, List.length_replicate, wD, Nat.reduceAdd, Nat.reduceEqDiff, Nat.reduceBEq, ↓reduceIte, reduceCtorEq, SX.exit.injEq, if_true, if_false, Int.reduceAdd, Int.reduceSub, Int.reduceMul, Int.reduceLT, Int.reduceLE, Int.reduceEq, Int.reduceNe, Int.reduceNeg, Int.reduceToNat, Nat.reduceMul, Nat.reduceLT, Nat.reduceSub, Nat.reduceLeDiff]
  refine cp k2 ?_
  simp (maxSteps := 1000000) (disch := first | omega | exact PairsOK.mk rfl | (simp only [lenW] <;> omega)) only [aBuildSlice_frz, wZ_some, List.map_cons, List.map_nil, Int.reduceGT, ne_eq, List.length_replicate, wD, Nat.reduceAdd, Nat.reduceEqDiff, Nat.reduceBEq, ↓reduceIte, reduceCtorEq, SX.exit.injEq, if_true, if_false, Int.reduceAdd, Int.reduceSub, Int.reduceMul, Int.reduceLT, Int.reduceLE, Int.reduceEq, Int.reduceNe, Int.reduceNeg, Int.reduceToNat, Nat.reduceMul, Nat.reduceLT, Nat.reduceSub, Nat.reduceLeDiff]
  refine cp k3 ?_
  simp (maxSteps := 1000000) (disch := first | omega | exact PairsOK.mk rfl | (simp only [lenW] <;> omega)) only [aBuildSlice_frz, wZ_some, List.map_cons, List.map_nil, Int.reduceGT, ne_eq, List.length_replicate, wD, Nat.reduceAdd, Nat.reduceEqDiff, Nat.reduceBEq, ↓reduceIte, reduceCtorEq, SX.exit.injEq, if_true, if_false, Int.reduceAdd, Int.reduceSub, Int.reduceMul, Int.reduceLT, Int.reduceLE, Int.reduceEq, Int.reduceNe, Int.reduceNeg, Int.reduceToNat, Nat.reduceMul, Nat.reduceLT, Nat.reduceSub, Nat.reduceLeDiff]
  have e1 : decide (nz [0] = [(0 : Int)]) = true := by decide
  refine cp (sameInts (nz [0]) [0] (by decide)) ?_
  rw [e1]
  simp (maxSteps := 1000000) (disch := first | omega | exact PairsOK.mk rfl | (simp only [lenW] <;> omega)) only [aBuildSlice_frz, wZ_some, List.map_cons, List.map_nil, Int.reduceGT, ne_eq, List.length_replicate, wD, Nat.reduceAdd, Nat.reduceEqDiff, Nat.reduceBEq, ↓reduceIte, reduceCtorEq, SX.exit.injEq, if_true, if_false, Int.reduceAdd, Int.reduceSub, Int.reduceMul, Int.reduceLT, Int.reduceLE, Int.reduceEq, Int.reduceNe, Int.reduceNeg, Int.reduceToNat, Nat.reduceMul, Nat.reduceLT, Nat.reduceSub, Nat.reduceLeDiff]
  have e2 : decide (([⟨1, 2, 2, 2⟩, ⟨2, 1, 1, -1⟩] : List Rm) = [⟨1, 2, 2, 2⟩, ⟨2, 1, 1, -1⟩]) = true := by simp
  refine cp (sameRems18 [⟨1, 2, 2, 2⟩, ⟨2, 1, 1, -1⟩] [⟨1, 2, 2, 2⟩, ⟨2, 1, 1, -1⟩] (by decide)) ?_
  rw [e2]
  have d3 : ∀ h : Prop, True := fun _ => trivial
  have hd := drop_rms (l := [⟨1, 3, 2, 2⟩, ⟨2, 2, 3, -1⟩]) (i := 1) rfl
  simp (maxSteps := 1000000) (disch := first | omega | exact PairsOK.mk rfl | (simp only [lenW] <;> omega)) only [aBuildSlice_frz, wZ_some, List.map_cons, List.map_nil, hd, Int.cast_ofNat_Int, Int.reduceGT, ne_eq, List.length_replicate, wD, Nat.reduceAdd, Nat.reduceEqDiff, Nat.reduceBEq, ↓reduceIte, reduceCtorEq, SX.exit.injEq, if_true, if_false, Int.reduceAdd, Int.reduceSub, Int.reduceMul, Int.reduceLT, Int.reduceLE, Int.reduceEq, Int.reduceNe, Int.reduceNeg, Int.reduceToNat, Nat.reduceMul, Nat.reduceLT, Nat.reduceSub, Nat.reduceLeDiff]
  have e3 : decide (([0, 1, -1] : List Int) = [0, 1, -1]) = true := by simp
  refine cp (sameInts [0, 1, -1] [0, 1, -1] (by decide)) ?_
  rw [e3]
  simp (maxSteps := 1000000) (disch := first | omega | exact PairsOK.mk rfl | (simp only [lenW] <;> omega)) only [Int.reduceGT, ne_eq, List.length_replicate, wD, Nat.reduceAdd, Nat.reduceEqDiff, Nat.reduceBEq, ↓reduceIte, reduceCtorEq, SX.exit.injEq, if_true, if_false, Int.reduceAdd, Int.reduceSub, Int.reduceMul, Int.reduceLT, Int.reduceLE, Int.reduceEq, Int.reduceNe, Int.reduceNeg, Int.reduceToNat, Nat.reduceMul, Nat.reduceLT, Nat.reduceSub, Nat.reduceLeDiff]
  exact ⟨.inr trivial, _, rfl, rfl⟩
end Go.AM.SE
namespace Go.AM.SE
open Go.Proofs Go.AM.SD
set_option maxRecDepth 100000
set_option linter.unusedSimpArgs false
set_option linter.unusedVariables false
theorem find_at {α : Type} {p : α → Bool} {l : List α} {i : Nat} {x : α} (hx : l[i]? = some x) (hp : p x = true) (hb : ∀ j y, j < i → l[j]? = some y → p y = false) : l.find? p = some x := by
  obtain ⟨hi, e⟩ := List.getElem?_eq_some_iff.1 hx
  rw [List.find?_eq_some_iff_getElem]
  refine ⟨hp, i, hi, e, fun j hj => ?_⟩
  have := hb j l[j] hj (List.getElem?_eq_getElem (by omega))
  simp [this]
def stepI (es : List Ed) (s ev : Nat) : Int := match stepA es s ev with | some to => (to : Int) | none => -1
set_option maxHeartbeats 16000000 in
theorem step60 (a : Aut) (s ev : Nat) (hel : a.es.length ≤ 1000000) : PSpec Try.prog 60 [aV a, .int .i64 s, .int .i64 ev] (.int .i64 (stepI a.es s ev)) := by
  refine PSpec.of_flat 64 ok60 rfl (by (try simp only [noRefs, noRefs_keysI, noRefs_back, noRefs_ints, noRefs_eg, noRefs_ed, noRefs_rm, noRefs_ls, noRefs_bls, noRef, Bool.and_self, Bool.and_true]) <;> rfl) rfl ?_
  simp (maxSteps := 1000000) (disch := first | omega | exact PairsOK.mk rfl | (simp only [lenW] <;> omega)) only [s60, Int.reduceGT, ne_eq, List.length_replicate, wD, Nat.reduceAdd, Nat.reduceEqDiff, Nat.reduceBEq, ↓reduceIte, reduceCtorEq, SX.exit.injEq, if_true, if_false, Int.reduceAdd, Int.reduceSub, Int.reduceMul, Int.reduceLT, Int.reduceLE, Int.reduceEq, Int.reduceNe, Int.reduceNeg, Int.reduceToNat, Nat.reduceMul, Nat.reduceLT, Nat.reduceSub, Nat.reduceLeDiff]
  refine wS_loopR 100 (fun i : Nat => [(1, .int .i64 s), (2, .int .i64 ev), (3, .ptr 50 0 0), (7, .int .i64 i)]) (fun _ => [(50, .cells 0 [sliN a.al, .int .i64 (a.n : Int), sliN a.ms, egsN a.es])])
    (fun i => i ≤ a.es.length ∧ ∀ (j : Nat) y, j < i → a.es[j]? = some y → (y.1 == s && y.2.1 == ev) = false) (fun i => a.es.length - i) 0 ⟨[(50, .blk 64 0)], rfl, au0, au8, au7⟩ ⟨Nat.zero_le _, fun j y hj => absurd hj (Nat.not_lt_zero _)⟩ ?_
  rintro i ⟨hi, hb⟩
  by_cases hlt : i < a.es.length
  · obtain ⟨e, he⟩ := get_ex hlt
    have hno : (e.1 == s && e.2.1 == ev) = false → i + 1 ≤ a.es.length ∧ ∀ (j : Nat) y, j < i + 1 → a.es[j]? = some y → (y.1 == s && y.2.1 == ev) = false := fun h => ⟨by omega, fun j y hj hy => by
      by_cases e2 : j = i
      · subst e2; rw [he] at hy; cases hy; exact h
      · exact hb j y (by omega) hy⟩
    by_cases h1 : e.1 = s
    · by_cases h2 : e.2.1 = ev
      · have hf := find_at (p := fun e : Ed => e.1 == s && e.2.1 == ev) he (by simp [h1, h2]) hb
        have hs : stepI a.es s ev = e.2.2 := by unfold stepI stepA; rw [hf]; rfl
        have h1' : (e.1 : Int) = (s : Int) := by omega
        have h2' : (e.2.1 : Int) = (ev : Int) := by omega
        simp (maxSteps := 1000000) (disch := first | omega | exact PairsOK.mk rfl | (simp only [lenW] <;> omega)) only [hlt, drop_eds he, h1', h2', Int.reduceGT, ne_eq, List.length_replicate, wD, Nat.reduceAdd, Nat.reduceEqDiff, Nat.reduceBEq, ↓reduceIte, reduceCtorEq, SX.exit.injEq, if_true, if_false, Int.reduceAdd, Int.reduceSub, Int.reduceMul, Int.reduceLT, Int.reduceLE, Int.reduceEq, Int.reduceNe, Int.reduceNeg, Int.reduceToNat, Nat.reduceMul, Nat.reduceLT, Nat.reduceSub, Nat.reduceLeDiff]
        exact ⟨.inr trivial, _, rfl, by rw [hs]; rfl⟩
      · have h1' : (e.1 : Int) = (s : Int) := by omega
        have h2' : ¬ (e.2.1 : Int) = (ev : Int) := by omega
        simp (maxSteps := 1000000) (disch := first | omega | exact PairsOK.mk rfl | (simp only [lenW] <;> omega)) only [hlt, drop_eds he, h1', h2', Int.reduceGT, ne_eq, List.length_replicate, wD, Nat.reduceAdd, Nat.reduceEqDiff, Nat.reduceBEq, ↓reduceIte, reduceCtorEq, SX.exit.injEq, if_true, if_false, Int.reduceAdd, Int.reduceSub, Int.reduceMul, Int.reduceLT, Int.reduceLE, Int.reduceEq, Int.reduceNe, Int.reduceNeg, Int.reduceToNat, Nat.reduceMul, Nat.reduceLT, Nat.reduceSub, Nat.reduceLeDiff]
        exact ⟨i + 1, by omega, hno (by simp [h2]), ⟨[(50, .blk 50 0)], rfl, au0, au8, au7⟩⟩
    · have h1' : ¬ (e.1 : Int) = (s : Int) := by omega
      simp (maxSteps := 1000000) (disch := first | omega | exact PairsOK.mk rfl | (simp only [lenW] <;> omega)) only [hlt, drop_eds he, h1', Int.reduceGT, ne_eq, List.length_replicate, wD, Nat.reduceAdd, Nat.reduceEqDiff, Nat.reduceBEq, ↓reduceIte, reduceCtorEq, SX.exit.injEq, if_true, if_false, Int.reduceAdd, Int.reduceSub, Int.reduceMul, Int.reduceLT, Int.reduceLE, Int.reduceEq, Int.reduceNe, Int.reduceNeg, Int.reduceToNat, Nat.reduceMul, Nat.reduceLT, Nat.reduceSub, Nat.reduceLeDiff]
      exact ⟨i + 1, by omega, hno (by simp [h1]), ⟨[(50, .blk 50 0)], rfl, au0, au8, au7⟩⟩
  · have hf : a.es.find? (fun e => e.1 == s && e.2.1 == ev) = none := by
      rw [List.find?_eq_none]
      intro y hy
      obtain ⟨j, hj, hjl⟩ := mem_at hy
      rw [hb j y (by omega) hj]; decide
    have hs : stepI a.es s ev = -1 := by unfold stepI stepA; rw [hf]; rfl
    simp (maxSteps := 1000000) (disch := first | omega | exact PairsOK.mk rfl | (simp only [lenW] <;> omega)) only [hlt, Int.reduceGT, ne_eq, List.length_replicate, wD, Nat.reduceAdd, Nat.reduceEqDiff, Nat.reduceBEq, ↓reduceIte, reduceCtorEq, SX.exit.injEq, if_true, if_false, Int.reduceAdd, Int.reduceSub, Int.reduceMul, Int.reduceLT, Int.reduceLE, Int.reduceEq, Int.reduceNe, Int.reduceNeg, Int.reduceToNat, Nat.reduceMul, Nat.reduceLT, Nat.reduceSub, Nat.reduceLeDiff]
    exact ⟨.inr trivial, _, rfl, by rw [hs]; rfl⟩
theorem index61 (l : List Int) (n : Int) (hl : l.length ≤ 1099511627776) : PSpec Try.prog 61 [sli l, .int .i64 n] (.int .i64 (indexR l n)) := by
  refine PSpec.of_flat 64 ok61 rfl (by (try simp only [noRefs, noRefs_keysI, noRefs_back, noRefs_ints, noRefs_eg, noRefs_ed, noRefs_rm, noRefs_ls, noRefs_bls, noRef, Bool.and_self, Bool.and_true]) <;> rfl) rfl ?_
  simp (maxSteps := 1000000) (disch := first | omega | exact PairsOK.mk rfl | (simp only [lenW] <;> omega)) only [s61, Int.reduceGT, ne_eq, List.length_replicate, wD, Nat.reduceAdd, Nat.reduceEqDiff, Nat.reduceBEq, ↓reduceIte, reduceCtorEq, SX.exit.injEq, if_true, if_false, Int.reduceAdd, Int.reduceSub, Int.reduceMul, Int.reduceLT, Int.reduceLE, Int.reduceEq, Int.reduceNe, Int.reduceNeg, Int.reduceToNat, Nat.reduceMul, Nat.reduceLT, Nat.reduceSub, Nat.reduceLeDiff]
  refine wS_loopR 100 (fun i : Nat => [(0, sli l), (1, .int .i64 n), (5, .int .i64 i)]) (fun _ => []) (fun i => i ≤ l.length ∧ ∀ (j : Nat) y, j < i → l[j]? = some y → y ≠ n) (fun i => l.length - i) 0 ⟨[], rfl, au0, au8, au7⟩ ⟨Nat.zero_le _, fun j y hj => absurd hj (Nat.not_lt_zero _)⟩ ?_
  rintro i ⟨hi, hb⟩
  by_cases hlt : i < l.length
  · obtain ⟨x, hx⟩ := get_ex hlt
    by_cases h0 : x = n
    · have h1 : n ∈ l := h0 ▸ List.mem_of_getElem? hx
      have h2 : l.findIdx (· == n) = i := by
        rw [List.findIdx_eq hlt]
        refine ⟨by rw [List.getElem?_eq_getElem hlt] at hx; cases hx; simp [h0], fun j hj => ?_⟩
        have := hb j l[j] hj (List.getElem?_eq_getElem (by omega))
        simpa using this
      simp (maxSteps := 1000000) (disch := first | omega | exact PairsOK.mk rfl | (simp only [lenW] <;> omega)) only [hlt, head_ints hx, h0, Int.reduceGT, ne_eq, List.length_replicate, wD, Nat.reduceAdd, Nat.reduceEqDiff, Nat.reduceBEq, ↓reduceIte, reduceCtorEq, SX.exit.injEq, if_true, if_false, Int.reduceAdd, Int.reduceSub, Int.reduceMul, Int.reduceLT, Int.reduceLE, Int.reduceEq, Int.reduceNe, Int.reduceNeg, Int.reduceToNat, Nat.reduceMul, Nat.reduceLT, Nat.reduceSub, Nat.reduceLeDiff]
      refine ⟨.inr trivial, _, rfl, ?_⟩
      simp only [indexR, if_pos h1, h2]; rfl
    · simp (maxSteps := 1000000) (disch := first | omega | exact PairsOK.mk rfl | (simp only [lenW] <;> omega)) only [hlt, head_ints hx, h0, Int.reduceGT, ne_eq, List.length_replicate, wD, Nat.reduceAdd, Nat.reduceEqDiff, Nat.reduceBEq, ↓reduceIte, reduceCtorEq, SX.exit.injEq, if_true, if_false, Int.reduceAdd, Int.reduceSub, Int.reduceMul, Int.reduceLT, Int.reduceLE, Int.reduceEq, Int.reduceNe, Int.reduceNeg, Int.reduceToNat, Nat.reduceMul, Nat.reduceLT, Nat.reduceSub, Nat.reduceLeDiff]
      refine ⟨i + 1, by omega, ⟨by omega, fun j y hj hy => ?_⟩, ⟨[], rfl, au0, au8, au7⟩⟩
      by_cases e : j = i
      · subst e; rw [hx] at hy; cases hy; exact h0
      · exact hb j y (by omega) hy
  · have : n ∉ l := fun h => by
      obtain ⟨j, hj, hjl⟩ := mem_at h
      exact hb j n (by omega) hj rfl
    simp (maxSteps := 1000000) (disch := first | omega | exact PairsOK.mk rfl | (simp only [lenW] <;> omega)) only [hlt, Int.reduceGT, ne_eq, List.length_replicate, wD, Nat.reduceAdd, Nat.reduceEqDiff, Nat.reduceBEq, ↓reduceIte, reduceCtorEq, SX.exit.injEq, if_true, if_false, Int.reduceAdd, Int.reduceSub, Int.reduceMul, Int.reduceLT, Int.reduceLE, Int.reduceEq, Int.reduceNe, Int.reduceNeg, Int.reduceToNat, Nat.reduceMul, Nat.reduceLT, Nat.reduceSub, Nat.reduceLeDiff]
    exact ⟨.inr trivial, _, rfl, by simp only [indexR, if_neg this]; rfl⟩
theorem index_nz {l : List Nat} {x : Nat} (h : x ∈ l) : indexR (nz l) x = idx l x := by
  have h1 : (x : Int) ∈ nz l := List.mem_map.2 ⟨x, h, rfl⟩
  unfold indexR
  rw [if_pos h1]
  unfold idx nz
  rw [List.findIdx_map]
  congr 2
  funext y
  show ((y : Int) == (x : Int)) = (y == x)
  by_cases e : y = x
  · subst e; simp
  · have : ¬ (y : Int) = (x : Int) := by omega
    rw [beq_eq_false_iff_ne.2 this, beq_eq_false_iff_ne.2 e]
theorem fRow_take {al : List Nat} {es : List Ed} {s : Nat} {out : List Nat} {k ev : Nat} (h : al[k]? = some ev) : (al.take (k + 1)).foldl (fEv es s) out = fEv es s ((al.take k).foldl (fEv es s) out) ev := by
  rw [List.take_add_one, h, Option.toList, List.foldl_append]; rfl
structure Raw (a : Aut) : Prop where
  esn : ∀ e ∈ a.es, e.1 < a.n ∧ e.2.2 < a.n
  n5 : a.n ≤ 5
  el : a.es.length ≤ 1000000
  al : a.al.length ≤ 32
  ml : a.ms.length ≤ 32
set_option maxHeartbeats 16000000 in
theorem found59 (a : Aut) (h : Raw a) : PSpec Try.prog 59 [aV a] (sliN (found a)) := by
  have hn5 := h.n5
  have hal := h.al
  refine PSpec.of_rn 64 ok59 rfl (by (try simp only [noRefs, noRefs_keysI, noRefs_back, noRefs_ints, noRefs_eg, noRefs_ed, noRefs_rm, noRefs_ls, noRefs_bls, noRef, Bool.and_self, Bool.and_true]) <;> rfl) (noRef_sliN _) ?_
  have hfin : fQ a.al a.es (a.n + 1) 0 (if 0 < a.n then [0] else []) = found a := rfl
  by_cases h0 : 0 < a.n
  · rw [if_pos h0] at hfin
    have h0' : (0 : Int) < (a.n : Int) := by omega
    simp (maxSteps := 1000000) (disch := first | omega | exact PairsOK.mk rfl | (simp only [lenW] <;> omega)) only [s59, h0', aAppend_nilW, wAn_some, Int.reduceGT, ne_eq, List.length_replicate, wD, Nat.reduceAdd, Nat.reduceEqDiff, Nat.reduceBEq, ↓reduceIte, reduceCtorEq, SX.exit.injEq, if_true, if_false, Int.reduceAdd, Int.reduceSub, Int.reduceMul, Int.reduceLT, Int.reduceLE, Int.reduceEq, Int.reduceNe, Int.reduceNeg, Int.reduceToNat, Nat.reduceMul, Nat.reduceLT, Nat.reduceSub, Nat.reduceLeDiff]
    refine wS_loopR 100 (fun t : Nat × List Nat => [(1, .ptr 50 0 0), (3, .sl 75 0 0 t.2.length 1), (4, .int .i64 t.1)]) (fun t => [(50, .cells 0 [sliN a.al, .int .i64 (a.n : Int), sliN a.ms, egsN a.es]), (75, .cells 0 (ints (nz t.2)))])
      (fun t => t.1 ≤ t.2.length ∧ FI a.n t.2 ∧ fQ a.al a.es (a.n + 1 - t.1) t.1 t.2 = found a) (fun t => a.n + 1 - t.1) (0, [0]) ?_ ⟨Nat.zero_le _, ⟨by simp, fun x hx => by simp at hx; omega⟩, by dsimp only; exact hfin⟩ ?_
    · exact ⟨[(50, .blk 64 0), (75, .blk 72 0)], rfl, au0, au8, au7⟩
    rintro ⟨i, out⟩ ⟨hi, hfi, hq⟩
    dsimp only at hi hfi hq ⊢
    have hfl := hfi.len
    by_cases hlt : i < out.length
    · obtain ⟨s, hs⟩ := get_ex hlt
      have hq' : fQ a.al a.es (a.n + 1 - (i + 1)) (i + 1) (fRow a.al a.es s out) = found a := by
        rw [← hq, show a.n + 1 - i = (a.n + 1 - (i + 1)) + 1 by omega]
        simp only [fQ, hs]
      have hrow := fun k => FI.row h.esn s (a.al.take k) out hfi
      simp (maxSteps := 1000000) (disch := first | omega | exact PairsOK.mk rfl | (simp only [lenW] <;> omega)) only [hlt, Int.reduceGT, ne_eq, List.length_replicate, wD, Nat.reduceAdd, Nat.reduceEqDiff, Nat.reduceBEq, ↓reduceIte, reduceCtorEq, SX.exit.injEq, if_true, if_false, Int.reduceAdd, Int.reduceSub, Int.reduceMul, Int.reduceLT, Int.reduceLE, Int.reduceEq, Int.reduceNe, Int.reduceNeg, Int.reduceToNat, Nat.reduceMul, Nat.reduceLT, Nat.reduceSub, Nat.reduceLeDiff]
      refine wS_loopX 200 (fun k : Nat => [(1, .ptr 50 0 0), (3, .sl 75 0 0 ((a.al.take k).foldl (fEv a.es s) out).length 1), (4, .int .i64 i), (5, .int .i64 k)]) (fun k => [(50, .cells 0 [sliN a.al, .int .i64 (a.n : Int), sliN a.ms, egsN a.es]), (75, .cells 0 (ints (nz ((a.al.take k).foldl (fEv a.es s) out))))])
        (fun k => k ≤ a.al.length) (fun k => a.al.length - k) 0 2 300
        (fun _ : Unit => [(1, .ptr 50 0 0), (3, .sl 75 0 0 (fRow a.al a.es s out).length 1), (4, .int .i64 i)]) (fun _ => [(50, .cells 0 [sliN a.al, .int .i64 (a.n : Int), sliN a.ms, egsN a.es]), (75, .cells 0 (ints (nz (fRow a.al a.es s out))))]) (fun _ => True) ?_ (Nat.zero_le _) ?_ ?_
      · exact ⟨[(50, .blk 50 0), (75, .blk 75 0)], rfl, au0, au8, au7⟩
      · rintro k hk
        by_cases hkl : k < a.al.length
        · obtain ⟨ev, hev⟩ := get_ex hkl
          have hstep := fRow_take (es := a.es) (s := s) (out := out) hev
          obtain ⟨k1, ⟨t, ht⟩, _⟩ := hrow k
          have hol := k1.len
          have hs2 : ((a.al.take k).foldl (fEv a.es s) out)[i]? = some s := by rw [ht, List.getElem?_append_left hlt]; exact hs
          generalize (a.al.take k).foldl (fEv a.es s) out = o at *
          have hil : i < o.length := (List.getElem?_eq_some_iff.1 hs2).1
          simp (maxSteps := 1000000) (disch := first | omega | exact PairsOK.mk rfl | (simp only [lenW] <;> omega)) only [hkl, hil, get_ints (nz_at hs2), head_nz hev, Int.reduceGT, ne_eq, List.length_replicate, wD, Nat.reduceAdd, Nat.reduceEqDiff, Nat.reduceBEq, ↓reduceIte, reduceCtorEq, SX.exit.injEq, if_true, if_false, Int.reduceAdd, Int.reduceSub, Int.reduceMul, Int.reduceLT, Int.reduceLE, Int.reduceEq, Int.reduceNe, Int.reduceNeg, Int.reduceToNat, Nat.reduceMul, Nat.reduceLT, Nat.reduceSub, Nat.reduceLeDiff]
          refine cp (step60 a s ev h.el) ?_
          cases hst : stepA a.es s ev with
          | none =>
            have h1 : stepI a.es s ev = -1 := by unfold stepI; rw [hst]
            have h2 : fEv a.es s o ev = o := by unfold fEv; rw [hst]
            rw [h2] at hstep
            rw [h1]
            simp (maxSteps := 1000000) (disch := first | omega | exact PairsOK.mk rfl | (simp only [lenW] <;> omega)) only [Int.reduceGT, ne_eq, List.length_replicate, wD, Nat.reduceAdd, Nat.reduceEqDiff, Nat.reduceBEq, ↓reduceIte, reduceCtorEq, SX.exit.injEq, if_true, if_false, Int.reduceAdd, Int.reduceSub, Int.reduceMul, Int.reduceLT, Int.reduceLE, Int.reduceEq, Int.reduceNe, Int.reduceNeg, Int.reduceToNat, Nat.reduceMul, Nat.reduceLT, Nat.reduceSub, Nat.reduceLeDiff]
            refine ⟨k + 1, by omega, by omega, ?_⟩
            rw [hstep]
            exact ⟨[(50, .blk 50 0), (75, .blk 75 0)], rfl, au0, au8, au7⟩
          | some to =>
            have h1 : stepI a.es s ev = to := by unfold stepI; rw [hst]
            have hto := stepA_lt h.esn hst
            rw [h1]
            simp (maxSteps := 1000000) (disch := first | omega | exact PairsOK.mk rfl | (simp only [lenW] <;> omega)) only [Int.reduceGT, ne_eq, List.length_replicate, wD, Nat.reduceAdd, Nat.reduceEqDiff, Nat.reduceBEq, ↓reduceIte, reduceCtorEq, SX.exit.injEq, if_true, if_false, Int.reduceAdd, Int.reduceSub, Int.reduceMul, Int.reduceLT, Int.reduceLE, Int.reduceEq, Int.reduceNe, Int.reduceNeg, Int.reduceToNat, Nat.reduceMul, Nat.reduceLT, Nat.reduceSub, Nat.reduceLeDiff]
            have hh := has36 (nz o) to (by simp; omega)
            rw [mem_nz, sli_nz] at hh
            by_cases hc : o.contains to = true
            · have h2 : fEv a.es s o ev = o := by unfold fEv; rw [hst]; exact if_pos hc
              rw [h2] at hstep
              rw [hc] at hh
              refine ch (HSpec.lend (FrzL.cons (FrzTo.all (by first | (simp (disch := omega) only [get_same, get_ne, hp_cons]; done) | (simp (disch := omega) only [get_same, get_ne, hp_cons]; rfl)) (by simp [ints])) (FrzL.cons (FrzTo.same _) FrzL.nil)) hh rfl) ?_
              simp (maxSteps := 1000000) (disch := first | omega | exact PairsOK.mk rfl | (simp only [lenW] <;> omega)) only [Int.reduceGT, ne_eq, List.length_replicate, wD, Nat.reduceAdd, Nat.reduceEqDiff, Nat.reduceBEq, ↓reduceIte, reduceCtorEq, SX.exit.injEq, if_true, if_false, Int.reduceAdd, Int.reduceSub, Int.reduceMul, Int.reduceLT, Int.reduceLE, Int.reduceEq, Int.reduceNe, Int.reduceNeg, Int.reduceToNat, Nat.reduceMul, Nat.reduceLT, Nat.reduceSub, Nat.reduceLeDiff]
              refine ⟨k + 1, by omega, by omega, ?_⟩
              rw [hstep]
              exact ⟨[(50, .blk 50 0), (75, .blk 75 0)], rfl, au0, au8, au7⟩
            · have h2 : fEv a.es s o ev = o ++ [to] := by unfold fEv; rw [hst]; exact if_neg hc
              rw [h2] at hstep
              rw [Bool.not_eq_true] at hc
              rw [hc] at hh
              refine ch (HSpec.lend (FrzL.cons (FrzTo.all (by first | (simp (disch := omega) only [get_same, get_ne, hp_cons]; done) | (simp (disch := omega) only [get_same, get_ne, hp_cons]; rfl)) (by simp [ints])) (FrzL.cons (FrzTo.same _) FrzL.nil)) hh rfl) ?_
              simp (maxSteps := 1000000) (disch := first | omega | exact PairsOK.mk rfl | (simp only [lenW] <;> omega)) only [Int.reduceGT, ne_eq, List.length_replicate, wD, Nat.reduceAdd, Nat.reduceEqDiff, Nat.reduceBEq, ↓reduceIte, reduceCtorEq, SX.exit.injEq, if_true, if_false, Int.reduceAdd, Int.reduceSub, Int.reduceMul, Int.reduceLT, Int.reduceLE, Int.reduceEq, Int.reduceNe, Int.reduceNeg, Int.reduceToNat, Nat.reduceMul, Nat.reduceLT, Nat.reduceSub, Nat.reduceLeDiff]
              refine ⟨k + 1, by omega, by omega, ?_⟩
              rw [hstep, List.length_append, nz_append, ints_append]
              exact ⟨[(50, .blk 50 0), (75, .blk 75 1)], rfl, au0, au8, au7⟩
        · have e : k = a.al.length := by omega
          subst e
          simp (maxSteps := 1000000) (disch := first | omega | exact PairsOK.mk rfl | (simp only [lenW] <;> omega)) only [hkl, Int.reduceGT, ne_eq, List.length_replicate, wD, Nat.reduceAdd, Nat.reduceEqDiff, Nat.reduceBEq, ↓reduceIte, reduceCtorEq, SX.exit.injEq, if_true, if_false, Int.reduceAdd, Int.reduceSub, Int.reduceMul, Int.reduceLT, Int.reduceLE, Int.reduceEq, Int.reduceNe, Int.reduceNeg, Int.reduceToNat, Nat.reduceMul, Nat.reduceLT, Nat.reduceSub, Nat.reduceLeDiff]
          refine ⟨(), ?_⟩
          exact ⟨[(50, .blk 50 0), (75, .blk 75 0)], rfl, au0, au8, au7⟩
      rintro _ _
      obtain ⟨k1, ⟨t, ht⟩, _⟩ := hrow a.al.length
      rw [List.take_length] at k1 ht
      have ht : fRow a.al a.es s out = out ++ t := ht
      simp (maxSteps := 1000000) (disch := first | omega | exact PairsOK.mk rfl | (simp only [lenW] <;> omega)) only [Int.reduceGT, ne_eq, List.length_replicate, wD, Nat.reduceAdd, Nat.reduceEqDiff, Nat.reduceBEq, ↓reduceIte, reduceCtorEq, SX.exit.injEq, if_true, if_false, Int.reduceAdd, Int.reduceSub, Int.reduceMul, Int.reduceLT, Int.reduceLE, Int.reduceEq, Int.reduceNe, Int.reduceNeg, Int.reduceToNat, Nat.reduceMul, Nat.reduceLT, Nat.reduceSub, Nat.reduceLeDiff]
      refine ⟨(i + 1, fRow a.al a.es s out), by dsimp only; omega, ⟨by dsimp only; rw [ht, List.length_append]; omega, k1, hq'⟩, ?_⟩
      exact ⟨[(50, .blk 50 0), (75, .blk 75 0)], rfl, au0, au8, au7⟩
    · have hv : out[i]? = none := List.getElem?_eq_none (by omega)
      have hqf : out = found a := by
        rw [← hq, show a.n + 1 - i = (a.n - i) + 1 by omega]
        simp only [fQ, hv]
      simp (maxSteps := 1000000) (disch := first | omega | exact PairsOK.mk rfl | (simp only [lenW] <;> omega)) only [hlt, Int.reduceGT, ne_eq, List.length_replicate, wD, Nat.reduceAdd, Nat.reduceEqDiff, Nat.reduceBEq, ↓reduceIte, reduceCtorEq, SX.exit.injEq, if_true, if_false, Int.reduceAdd, Int.reduceSub, Int.reduceMul, Int.reduceLT, Int.reduceLE, Int.reduceEq, Int.reduceNe, Int.reduceNeg, Int.reduceToNat, Nat.reduceMul, Nat.reduceLT, Nat.reduceSub, Nat.reduceLeDiff]
      refine ⟨.inr trivial, _, rfl, ?_⟩
      rw [hqf]
      exact Rn.fz0 (g := 0) rfl (by simp [ints]) (RnL.same (noRefs_ints _))
  · rw [if_neg h0] at hfin
    have h0' : ¬ (0 : Int) < (a.n : Int) := by omega
    simp (maxSteps := 1000000) (disch := first | omega | exact PairsOK.mk rfl | (simp only [lenW] <;> omega)) only [s59, h0', Int.reduceGT, ne_eq, List.length_replicate, wD, Nat.reduceAdd, Nat.reduceEqDiff, Nat.reduceBEq, ↓reduceIte, reduceCtorEq, SX.exit.injEq, if_true, if_false, Int.reduceAdd, Int.reduceSub, Int.reduceMul, Int.reduceLT, Int.reduceLE, Int.reduceEq, Int.reduceNe, Int.reduceNeg, Int.reduceToNat, Nat.reduceMul, Nat.reduceLT, Nat.reduceSub, Nat.reduceLeDiff]
    refine wS_loopR 100 (fun t : Nat × List Nat => [(1, .ptr 50 0 0), (3, .sl 75 0 0 t.2.length 1), (4, .int .i64 t.1)]) (fun t => [(50, .cells 0 [sliN a.al, .int .i64 (a.n : Int), sliN a.ms, egsN a.es]), (75, .cells 0 (ints (nz t.2)))])
      (fun t => t.1 ≤ t.2.length ∧ FI a.n t.2 ∧ fQ a.al a.es (a.n + 1 - t.1) t.1 t.2 = found a) (fun t => a.n + 1 - t.1) (0, ([] : List Nat)) ?_ ⟨Nat.zero_le _, ⟨by simp, fun x hx => by cases hx⟩, by dsimp only; exact hfin⟩ ?_
    · exact ⟨[(50, .blk 64 0), (75, .nil)], rfl, au0, au8, au7⟩
    rintro ⟨i, out⟩ ⟨hi, hfi, hq⟩
    dsimp only at hi hfi hq ⊢
    have hfl := hfi.len
    by_cases hlt : i < out.length
    · obtain ⟨s, hs⟩ := get_ex hlt
      have hq' : fQ a.al a.es (a.n + 1 - (i + 1)) (i + 1) (fRow a.al a.es s out) = found a := by
        rw [← hq, show a.n + 1 - i = (a.n + 1 - (i + 1)) + 1 by omega]
        simp only [fQ, hs]
      have hrow := fun k => FI.row h.esn s (a.al.take k) out hfi
      simp (maxSteps := 1000000) (disch := first | omega | exact PairsOK.mk rfl | (simp only [lenW] <;> omega)) only [hlt, Int.reduceGT, ne_eq, List.length_replicate, wD, Nat.reduceAdd, Nat.reduceEqDiff, Nat.reduceBEq, ↓reduceIte, reduceCtorEq, SX.exit.injEq, if_true, if_false, Int.reduceAdd, Int.reduceSub, Int.reduceMul, Int.reduceLT, Int.reduceLE, Int.reduceEq, Int.reduceNe, Int.reduceNeg, Int.reduceToNat, Nat.reduceMul, Nat.reduceLT, Nat.reduceSub, Nat.reduceLeDiff]
      refine wS_loopX 200 (fun k : Nat => [(1, .ptr 50 0 0), (3, .sl 75 0 0 ((a.al.take k).foldl (fEv a.es s) out).length 1), (4, .int .i64 i), (5, .int .i64 k)]) (fun k => [(50, .cells 0 [sliN a.al, .int .i64 (a.n : Int), sliN a.ms, egsN a.es]), (75, .cells 0 (ints (nz ((a.al.take k).foldl (fEv a.es s) out))))])
        (fun k => k ≤ a.al.length) (fun k => a.al.length - k) 0 2 300
        (fun _ : Unit => [(1, .ptr 50 0 0), (3, .sl 75 0 0 (fRow a.al a.es s out).length 1), (4, .int .i64 i)]) (fun _ => [(50, .cells 0 [sliN a.al, .int .i64 (a.n : Int), sliN a.ms, egsN a.es]), (75, .cells 0 (ints (nz (fRow a.al a.es s out))))]) (fun _ => True) ?_ (Nat.zero_le _) ?_ ?_
      · exact ⟨[(50, .blk 50 0), (75, .blk 75 0)], rfl, au0, au8, au7⟩
      · rintro k hk
        by_cases hkl : k < a.al.length
        · obtain ⟨ev, hev⟩ := get_ex hkl
          have hstep := fRow_take (es := a.es) (s := s) (out := out) hev
          obtain ⟨k1, ⟨t, ht⟩, _⟩ := hrow k
          have hol := k1.len
          have hs2 : ((a.al.take k).foldl (fEv a.es s) out)[i]? = some s := by rw [ht, List.getElem?_append_left hlt]; exact hs
          generalize (a.al.take k).foldl (fEv a.es s) out = o at *
          have hil : i < o.length := (List.getElem?_eq_some_iff.1 hs2).1
          simp (maxSteps := 1000000) (disch := first | omega | exact PairsOK.mk rfl | (simp only [lenW] <;> omega)) only [hkl, hil, get_ints (nz_at hs2), head_nz hev, Int.reduceGT, ne_eq, List.length_replicate, wD, Nat.reduceAdd, Nat.reduceEqDiff, Nat.reduceBEq, ↓reduceIte, reduceCtorEq, SX.exit.injEq, if_true, if_false, Int.reduceAdd, Int.reduceSub, Int.reduceMul, Int.reduceLT, Int.reduceLE, Int.reduceEq, Int.reduceNe, Int.reduceNeg, Int.reduceToNat, Nat.reduceMul, Nat.reduceLT, Nat.reduceSub, Nat.reduceLeDiff]
          refine cp (step60 a s ev h.el) ?_
          cases hst : stepA a.es s ev with
          | none =>
            have h1 : stepI a.es s ev = -1 := by unfold stepI; rw [hst]
            have h2 : fEv a.es s o ev = o := by unfold fEv; rw [hst]
            rw [h2] at hstep
            rw [h1]
            simp (maxSteps := 1000000) (disch := first | omega | exact PairsOK.mk rfl | (simp only [lenW] <;> omega)) only [Int.reduceGT, ne_eq, List.length_replicate, wD, Nat.reduceAdd, Nat.reduceEqDiff, Nat.reduceBEq, ↓reduceIte, reduceCtorEq, SX.exit.injEq, if_true, if_false, Int.reduceAdd, Int.reduceSub, Int.reduceMul, Int.reduceLT, Int.reduceLE, Int.reduceEq, Int.reduceNe, Int.reduceNeg, Int.reduceToNat, Nat.reduceMul, Nat.reduceLT, Nat.reduceSub, Nat.reduceLeDiff]
            refine ⟨k + 1, by omega, by omega, ?_⟩
            rw [hstep]
            exact ⟨[(50, .blk 50 0), (75, .blk 75 0)], rfl, au0, au8, au7⟩
          | some to =>
            have h1 : stepI a.es s ev = to := by unfold stepI; rw [hst]
            have hto := stepA_lt h.esn hst
            rw [h1]
            simp (maxSteps := 1000000) (disch := first | omega | exact PairsOK.mk rfl | (simp only [lenW] <;> omega)) only [Int.reduceGT, ne_eq, List.length_replicate, wD, Nat.reduceAdd, Nat.reduceEqDiff, Nat.reduceBEq, ↓reduceIte, reduceCtorEq, SX.exit.injEq, if_true, if_false, Int.reduceAdd, Int.reduceSub, Int.reduceMul, Int.reduceLT, Int.reduceLE, Int.reduceEq, Int.reduceNe, Int.reduceNeg, Int.reduceToNat, Nat.reduceMul, Nat.reduceLT, Nat.reduceSub, Nat.reduceLeDiff]
            have hh := has36 (nz o) to (by simp; omega)
            rw [mem_nz, sli_nz] at hh
            by_cases hc : o.contains to = true
            · have h2 : fEv a.es s o ev = o := by unfold fEv; rw [hst]; exact if_pos hc
              rw [h2] at hstep
              rw [hc] at hh
              refine ch (HSpec.lend (FrzL.cons (FrzTo.all (by first | (simp (disch := omega) only [get_same, get_ne, hp_cons]; done) | (simp (disch := omega) only [get_same, get_ne, hp_cons]; rfl)) (by simp [ints])) (FrzL.cons (FrzTo.same _) FrzL.nil)) hh rfl) ?_
              simp (maxSteps := 1000000) (disch := first | omega | exact PairsOK.mk rfl | (simp only [lenW] <;> omega)) only [Int.reduceGT, ne_eq, List.length_replicate, wD, Nat.reduceAdd, Nat.reduceEqDiff, Nat.reduceBEq, ↓reduceIte, reduceCtorEq, SX.exit.injEq, if_true, if_false, Int.reduceAdd, Int.reduceSub, Int.reduceMul, Int.reduceLT, Int.reduceLE, Int.reduceEq, Int.reduceNe, Int.reduceNeg, Int.reduceToNat, Nat.reduceMul, Nat.reduceLT, Nat.reduceSub, Nat.reduceLeDiff]
              refine ⟨k + 1, by omega, by omega, ?_⟩
              rw [hstep]
              exact ⟨[(50, .blk 50 0), (75, .blk 75 0)], rfl, au0, au8, au7⟩
            · have h2 : fEv a.es s o ev = o ++ [to] := by unfold fEv; rw [hst]; exact if_neg hc
              rw [h2] at hstep
              rw [Bool.not_eq_true] at hc
              rw [hc] at hh
              refine ch (HSpec.lend (FrzL.cons (FrzTo.all (by first | (simp (disch := omega) only [get_same, get_ne, hp_cons]; done) | (simp (disch := omega) only [get_same, get_ne, hp_cons]; rfl)) (by simp [ints])) (FrzL.cons (FrzTo.same _) FrzL.nil)) hh rfl) ?_
              simp (maxSteps := 1000000) (disch := first | omega | exact PairsOK.mk rfl | (simp only [lenW] <;> omega)) only [Int.reduceGT, ne_eq, List.length_replicate, wD, Nat.reduceAdd, Nat.reduceEqDiff, Nat.reduceBEq, ↓reduceIte, reduceCtorEq, SX.exit.injEq, if_true, if_false, Int.reduceAdd, Int.reduceSub, Int.reduceMul, Int.reduceLT, Int.reduceLE, Int.reduceEq, Int.reduceNe, Int.reduceNeg, Int.reduceToNat, Nat.reduceMul, Nat.reduceLT, Nat.reduceSub, Nat.reduceLeDiff]
              refine ⟨k + 1, by omega, by omega, ?_⟩
              rw [hstep, List.length_append, nz_append, ints_append]
              exact ⟨[(50, .blk 50 0), (75, .blk 75 1)], rfl, au0, au8, au7⟩
        · have e : k = a.al.length := by omega
          subst e
          simp (maxSteps := 1000000) (disch := first | omega | exact PairsOK.mk rfl | (simp only [lenW] <;> omega)) only [hkl, Int.reduceGT, ne_eq, List.length_replicate, wD, Nat.reduceAdd, Nat.reduceEqDiff, Nat.reduceBEq, ↓reduceIte, reduceCtorEq, SX.exit.injEq, if_true, if_false, Int.reduceAdd, Int.reduceSub, Int.reduceMul, Int.reduceLT, Int.reduceLE, Int.reduceEq, Int.reduceNe, Int.reduceNeg, Int.reduceToNat, Nat.reduceMul, Nat.reduceLT, Nat.reduceSub, Nat.reduceLeDiff]
          refine ⟨(), ?_⟩
          exact ⟨[(50, .blk 50 0), (75, .blk 75 0)], rfl, au0, au8, au7⟩
      rintro _ _
      obtain ⟨k1, ⟨t, ht⟩, _⟩ := hrow a.al.length
      rw [List.take_length] at k1 ht
      have ht : fRow a.al a.es s out = out ++ t := ht
      simp (maxSteps := 1000000) (disch := first | omega | exact PairsOK.mk rfl | (simp only [lenW] <;> omega)) only [Int.reduceGT, ne_eq, List.length_replicate, wD, Nat.reduceAdd, Nat.reduceEqDiff, Nat.reduceBEq, ↓reduceIte, reduceCtorEq, SX.exit.injEq, if_true, if_false, Int.reduceAdd, Int.reduceSub, Int.reduceMul, Int.reduceLT, Int.reduceLE, Int.reduceEq, Int.reduceNe, Int.reduceNeg, Int.reduceToNat, Nat.reduceMul, Nat.reduceLT, Nat.reduceSub, Nat.reduceLeDiff]
      refine ⟨(i + 1, fRow a.al a.es s out), by dsimp only; omega, ⟨by dsimp only; rw [ht, List.length_append]; omega, k1, hq'⟩, ?_⟩
      exact ⟨[(50, .blk 50 0), (75, .blk 75 0)], rfl, au0, au8, au7⟩
    · have hv : out[i]? = none := List.getElem?_eq_none (by omega)
      have hqf : out = found a := by
        rw [← hq, show a.n + 1 - i = (a.n - i) + 1 by omega]
        simp only [fQ, hv]
      simp (maxSteps := 1000000) (disch := first | omega | exact PairsOK.mk rfl | (simp only [lenW] <;> omega)) only [hlt, Int.reduceGT, ne_eq, List.length_replicate, wD, Nat.reduceAdd, Nat.reduceEqDiff, Nat.reduceBEq, ↓reduceIte, reduceCtorEq, SX.exit.injEq, if_true, if_false, Int.reduceAdd, Int.reduceSub, Int.reduceMul, Int.reduceLT, Int.reduceLE, Int.reduceEq, Int.reduceNe, Int.reduceNeg, Int.reduceToNat, Nat.reduceMul, Nat.reduceLT, Nat.reduceSub, Nat.reduceLeDiff]
      refine ⟨.inr trivial, _, rfl, ?_⟩
      rw [hqf]
      exact Rn.fz0 (g := 0) rfl (by simp [ints]) (RnL.same (noRefs_ints _))
end Go.AM.SE
namespace Go.AM.SE
open Go.Proofs Go.AM.SD
set_option maxRecDepth 100000
set_option linter.unusedSimpArgs false
set_option linter.unusedVariables false
theorem one_ints (l : List Int) : (ints l).all AV.one = true := by
  induction l with
  | nil => rfl
  | cons x l ih => show (AV.one _ && (ints l).all AV.one) = true; rw [ih]; rfl
theorem empty45 (l : List Nat) (hl : l.length ≤ 1000000) : PSpec Try.prog 45 [sliN l] (.agg [sliN l, .int .i64 0, .nilsl, .nilsl]) := by
  refine PSpec.of_rn 64 ok45 rfl (by (try simp only [noRefs, noRefs_keysI, noRefs_back, noRefs_ints, noRefs_eg, noRefs_ed, noRefs_rm, noRefs_ls, noRefs_bls, noRef, Bool.and_self, Bool.and_true]) <;> rfl) (by simp only [noRef, noRefs, noRefs_ints]; rfl) ?_
  have hone := one_ints (nz l)
  simp (maxSteps := 1000000) (disch := first | omega | exact PairsOK.mk rfl | (simp only [lenW] <;> omega)) only [s45, hone, Int.reduceGT, ne_eq, List.length_replicate, wD, Nat.reduceAdd, Nat.reduceEqDiff, Nat.reduceBEq, ↓reduceIte, reduceCtorEq, SX.exit.injEq, if_true, if_false, Int.reduceAdd, Int.reduceSub, Int.reduceMul, Int.reduceLT, Int.reduceLE, Int.reduceEq, Int.reduceNe, Int.reduceNeg, Int.reduceToNat, Nat.reduceMul, Nat.reduceLT, Nat.reduceSub, Nat.reduceLeDiff]
  refine ⟨.inr trivial, _, rfl, ?_⟩
  exact Rn.agg (RnL.cons (Rn.fz0 (g := 1) rfl (by simp [ints]) (RnL.same (noRefs_ints _))) (RnL.same rfl))
theorem cRow_take {a : Aut} {f : List Nat} {i s k ev : Nat} (h : a.al[k]? = some ev) : (a.al.take (k + 1)).filterMap (fun ev => (stepA a.es s ev).map fun to => (i, ev, idx f to)) = (a.al.take k).filterMap (fun ev => (stepA a.es s ev).map fun to => (i, ev, idx f to)) ++ match stepA a.es s ev with | some to => [(i, ev, idx f to)] | none => [] := by
  rw [List.take_add_one, h, Option.toList, List.filterMap_append]
  congr 1
  cases e : stepA a.es s ev with
  | none => simp [e]
  | some to => simp [e]
def cPre (a : Aut) (f : List Nat) (i : Nat) : List Ed := (List.range i).flatMap fun i => cRow a f i (f.getD i 0)
def cPart (a : Aut) (f : List Nat) (i s k : Nat) : List Ed := cPre a f i ++ (a.al.take k).filterMap (fun ev => (stepA a.es s ev).map fun to => (i, ev, idx f to))
theorem cPre_succ {a : Aut} {f : List Nat} {i s : Nat} (h : f[i]? = some s) : cPre a f (i + 1) = cPre a f i ++ cRow a f i s := by
  unfold cPre
  rw [List.range_succ, List.flatMap_append]
  have : f.getD i 0 = s := by rw [List.getD_eq_getElem?_getD, h]; rfl
  rw [List.flatMap_cons, List.flatMap_nil, List.append_nil, this]
theorem cRow_len (a : Aut) (f : List Nat) (i s : Nat) : (cRow a f i s).length ≤ a.al.length := by unfold cRow; exact List.length_filterMap_le _ _
theorem cPre_len (a : Aut) (f : List Nat) : ∀ i, (cPre a f i).length ≤ i * a.al.length
  | 0 => by simp [cPre]
  | i + 1 => by
    have h1 := cPre_len a f i
    have h2 := cRow_len a f i (f.getD i 0)
    unfold cPre at h1 ⊢
    rw [List.range_succ, List.flatMap_append, List.length_append, Nat.succ_mul]
    simp only [List.flatMap_cons, List.flatMap_nil, List.append_nil]
    omega
set_option maxHeartbeats 32000000 in
theorem canon46 (a : Aut) (h : Raw a) : PSpec Try.prog 46 [aV a] (aV (canon a)) := by
  have hn5 := h.n5
  have hal := h.al
  have hml := h.ml
  obtain ⟨f1, _, f3⟩ := found_ok h.esn
  have hfl := f1.len
  refine PSpec.of_rn 64 ok46 rfl (by (try simp only [noRefs, noRefs_keysI, noRefs_back, noRefs_ints, noRefs_eg, noRefs_ed, noRefs_rm, noRefs_ls, noRefs_bls, noRef, Bool.and_self, Bool.and_true]) <;> rfl) (noRef_aV _) ?_
  have hF := found59 a h
  have hcan : canon a = ⟨a.al, (found a).length, mks a (found a).length (found a), cPre a (found a) (found a).length⟩ := rfl
  rw [hcan]
  generalize found a = f at *
  simp (maxSteps := 1000000) (disch := first | omega | exact PairsOK.mk rfl | (simp only [lenW] <;> omega)) only [s46, Int.reduceGT, ne_eq, List.length_replicate, wD, Nat.reduceAdd, Nat.reduceEqDiff, Nat.reduceBEq, ↓reduceIte, reduceCtorEq, SX.exit.injEq, if_true, if_false, Int.reduceAdd, Int.reduceSub, Int.reduceMul, Int.reduceLT, Int.reduceLE, Int.reduceEq, Int.reduceNe, Int.reduceNeg, Int.reduceToNat, Nat.reduceMul, Nat.reduceLT, Nat.reduceSub, Nat.reduceLeDiff]
  refine cp hF ?_
  simp (maxSteps := 1000000) (disch := first | omega | exact PairsOK.mk rfl | (simp only [lenW] <;> omega)) only [Int.reduceGT, ne_eq, List.length_replicate, wD, Nat.reduceAdd, Nat.reduceEqDiff, Nat.reduceBEq, ↓reduceIte, reduceCtorEq, SX.exit.injEq, if_true, if_false, Int.reduceAdd, Int.reduceSub, Int.reduceMul, Int.reduceLT, Int.reduceLE, Int.reduceEq, Int.reduceNe, Int.reduceNeg, Int.reduceToNat, Nat.reduceMul, Nat.reduceLT, Nat.reduceSub, Nat.reduceLeDiff]
  refine cp (empty45 a.al (by omega)) ?_
  simp (maxSteps := 1000000) (disch := first | omega | exact PairsOK.mk rfl | (simp only [lenW] <;> omega)) only [Int.reduceGT, ne_eq, List.length_replicate, wD, Nat.reduceAdd, Nat.reduceEqDiff, Nat.reduceBEq, ↓reduceIte, reduceCtorEq, SX.exit.injEq, if_true, if_false, Int.reduceAdd, Int.reduceSub, Int.reduceMul, Int.reduceLT, Int.reduceLE, Int.reduceEq, Int.reduceNe, Int.reduceNeg, Int.reduceToNat, Nat.reduceMul, Nat.reduceLT, Nat.reduceSub, Nat.reduceLeDiff]
  refine wS_loopX 100 (fun i : Nat => [(1, .ptr 50 0 0), (2, .ptr 51 0 0), (3, sliN f), (4, .ptr 52 0 0), (5, .int .i64 i)])
    (fun i => [(50, .cells 0 [sliN a.al, .int .i64 (a.n : Int), sliN a.ms, egsN a.es]), (51, .cells 0 [.nilsl, .int .i64 0, .nilsl, .nilsl]), (52, .cells 0 [sliN a.al, .int .i64 f.length, .sl 77 0 0 (mks a i f).length 1, .sl 76 0 0 (cPre a f i).length 3]), (76, .cells 0 ((cPre a f i).flatMap edC)), (77, .cells 0 (ints (nz (mks a i f))))])
    (fun i => i ≤ f.length) (fun i => f.length - i) 0 0 160
    (fun _ : Unit => [(2, .ptr 51 0 0), (4, .ptr 52 0 0)])
    (fun _ => [(51, .cells 0 [.nilsl, .int .i64 0, .nilsl, .nilsl]), (52, .cells 0 [sliN a.al, .int .i64 f.length, .sl 77 0 0 (mks a f.length f).length 1, .sl 76 0 0 (cPre a f f.length).length 3]), (76, .cells 0 ((cPre a f f.length).flatMap edC)), (77, .cells 0 (ints (nz (mks a f.length f))))]) (fun _ => True) ?_ (Nat.zero_le _) ?_ ?_
  · exact ⟨[(50, .blk 64 0), (51, .blk 65 0), (52, .blk 72 0), (76, .nil), (77, .nil)], rfl, au0, au8, au7⟩
  · rintro i hi
    by_cases hlt : i < f.length
    · obtain ⟨s, hs⟩ := get_ex hlt
      have hsf := List.mem_of_getElem? hs
      have hmn := mks_succ (a := a) hs
      have hmsl := @mks_len a i f
      have hcl := cPre_len a f i
      have hcl2 : (cPre a f i).length ≤ 1000 := Nat.le_trans hcl (Nat.le_trans (Nat.mul_le_mul (show i ≤ 5 by omega) hal) (by decide))
      have hcs := cPre_succ (a := a) hs
      have hed0 := ed_len (cPre a f i)
      have hh := has36 (nz a.ms) s (by simp; omega)
      rw [mem_nz, sli_nz] at hh
      have hpart0 : cPart a f i s 0 = cPre a f i := by simp [cPart]
      have hpartn : cPart a f i s a.al.length = cPre a f (i + 1) := by rw [hcs]; unfold cPart cRow; rw [List.take_length]
      generalize hM1 : mks a (i + 1) f = M1 at *
      generalize hM : mks a i f = M at *
      by_cases hmv : a.ms.contains s = true
      · rw [if_pos hmv] at hmn
        rw [hmv] at hh
        simp (maxSteps := 1000000) (disch := first | omega | exact PairsOK.mk rfl | (simp only [lenW] <;> omega)) only [hlt, head_nz hs, Int.reduceGT, ne_eq, List.length_replicate, wD, Nat.reduceAdd, Nat.reduceEqDiff, Nat.reduceBEq, ↓reduceIte, reduceCtorEq, SX.exit.injEq, if_true, if_false, Int.reduceAdd, Int.reduceSub, Int.reduceMul, Int.reduceLT, Int.reduceLE, Int.reduceEq, Int.reduceNe, Int.reduceNeg, Int.reduceToNat, Nat.reduceMul, Nat.reduceLT, Nat.reduceSub, Nat.reduceLeDiff]
        refine ch (HSpec.lend (FrzL.same _) hh rfl) ?_
        simp (maxSteps := 1000000) (disch := first | omega | exact PairsOK.mk rfl | (simp only [lenW] <;> omega)) only [Int.reduceGT, ne_eq, List.length_replicate, wD, Nat.reduceAdd, Nat.reduceEqDiff, Nat.reduceBEq, ↓reduceIte, reduceCtorEq, SX.exit.injEq, if_true, if_false, Int.reduceAdd, Int.reduceSub, Int.reduceMul, Int.reduceLT, Int.reduceLE, Int.reduceEq, Int.reduceNe, Int.reduceNeg, Int.reduceToNat, Nat.reduceMul, Nat.reduceLT, Nat.reduceSub, Nat.reduceLeDiff]
        refine wS_loopX 300 (fun k : Nat => [(1, .ptr 50 0 0), (2, .ptr 51 0 0), (3, sliN f), (4, .ptr 52 0 0), (5, .int .i64 i), (6, .int .i64 k)])
          (fun k => [(50, .cells 0 [sliN a.al, .int .i64 (a.n : Int), sliN a.ms, egsN a.es]), (51, .cells 0 [.nilsl, .int .i64 0, .nilsl, .nilsl]), (52, .cells 0 [sliN a.al, .int .i64 f.length, .sl 77 0 0 M1.length 1, .sl 76 0 0 (cPart a f i s k).length 3]), (76, .cells 0 ((cPart a f i s k).flatMap edC)), (77, .cells 0 (ints (nz M1)))])
          (fun k => k ≤ a.al.length) (fun k => a.al.length - k) 0 2 400
          (fun _ : Unit => [(1, .ptr 50 0 0), (2, .ptr 51 0 0), (3, sliN f), (4, .ptr 52 0 0), (5, .int .i64 i)])
          (fun _ => [(50, .cells 0 [sliN a.al, .int .i64 (a.n : Int), sliN a.ms, egsN a.es]), (51, .cells 0 [.nilsl, .int .i64 0, .nilsl, .nilsl]), (52, .cells 0 [sliN a.al, .int .i64 f.length, .sl 77 0 0 M1.length 1, .sl 76 0 0 (cPre a f (i + 1)).length 3]), (76, .cells 0 ((cPre a f (i + 1)).flatMap edC)), (77, .cells 0 (ints (nz M1)))]) (fun _ => True) ?_ (Nat.zero_le _) ?_ ?_
        · rw [hpart0, hmn, List.length_append, nz_append, ints_append]
          exact ⟨[(50, .blk 50 0), (51, .blk 51 0), (52, .blk 52 0), (76, .blk 76 0), (77, .blk 77 1)], rfl, au0, au8, au7⟩
        · rintro k hk
          by_cases hkl : k < a.al.length
          · obtain ⟨ev, hev⟩ := get_ex hkl
            have hevm := List.mem_of_getElem? hev
            have hst := cRow_take (a := a) (f := f) (i := i) (s := s) hev
            have hpl : (cPart a f i s k).length ≤ 2000 := by
              unfold cPart
              rw [List.length_append]
              have h1 := List.length_filterMap_le (fun ev => (stepA a.es s ev).map fun to => (i, ev, idx f to)) (a.al.take k)
              rw [List.length_take] at h1
              omega
            have hpe := ed_len (cPart a f i s k)
            have hps : cPart a f i s (k + 1) = cPart a f i s k ++ match stepA a.es s ev with | some to => [(i, ev, idx f to)] | none => [] := by
              unfold cPart; rw [hst, List.append_assoc]
            generalize cPart a f i s k = R at *
            simp (maxSteps := 1000000) (disch := first | omega | exact PairsOK.mk rfl | (simp only [lenW] <;> omega)) only [hkl, hlt, head_nz hs, head_nz hev, Int.reduceGT, ne_eq, List.length_replicate, wD, Nat.reduceAdd, Nat.reduceEqDiff, Nat.reduceBEq, ↓reduceIte, reduceCtorEq, SX.exit.injEq, if_true, if_false, Int.reduceAdd, Int.reduceSub, Int.reduceMul, Int.reduceLT, Int.reduceLE, Int.reduceEq, Int.reduceNe, Int.reduceNeg, Int.reduceToNat, Nat.reduceMul, Nat.reduceLT, Nat.reduceSub, Nat.reduceLeDiff]
            refine cp (step60 a s ev h.el) ?_
            cases hsa : stepA a.es s ev with
            | none =>
              have h1 : stepI a.es s ev = -1 := by unfold stepI; rw [hsa]
              rw [hsa, List.append_nil] at hps
              rw [h1]
              simp (maxSteps := 1000000) (disch := first | omega | exact PairsOK.mk rfl | (simp only [lenW] <;> omega)) only [Int.reduceGT, ne_eq, List.length_replicate, wD, Nat.reduceAdd, Nat.reduceEqDiff, Nat.reduceBEq, ↓reduceIte, reduceCtorEq, SX.exit.injEq, if_true, if_false, Int.reduceAdd, Int.reduceSub, Int.reduceMul, Int.reduceLT, Int.reduceLE, Int.reduceEq, Int.reduceNe, Int.reduceNeg, Int.reduceToNat, Nat.reduceMul, Nat.reduceLT, Nat.reduceSub, Nat.reduceLeDiff]
              refine ⟨k + 1, by omega, by omega, ?_⟩
              rw [hps]
              exact ⟨[(50, .blk 50 0), (51, .blk 51 0), (52, .blk 52 0), (76, .blk 76 0), (77, .blk 77 0)], rfl, au0, au8, au7⟩
            | some to =>
              have h1 : stepI a.es s ev = to := by unfold stepI; rw [hsa]
              rw [hsa] at hps
              have hidx := index61 (nz f) to (by simp; omega)
              rw [sli_nz, index_nz (f3 s hsf ev hevm to hsa)] at hidx
              rw [h1]
              simp (maxSteps := 1000000) (disch := first | omega | exact PairsOK.mk rfl | (simp only [lenW] <;> omega)) only [hkl, head_nz hev, Int.reduceGT, ne_eq, List.length_replicate, wD, Nat.reduceAdd, Nat.reduceEqDiff, Nat.reduceBEq, ↓reduceIte, reduceCtorEq, SX.exit.injEq, if_true, if_false, Int.reduceAdd, Int.reduceSub, Int.reduceMul, Int.reduceLT, Int.reduceLE, Int.reduceEq, Int.reduceNe, Int.reduceNeg, Int.reduceToNat, Nat.reduceMul, Nat.reduceLT, Nat.reduceSub, Nat.reduceLeDiff]
              refine cp hidx ?_
              simp (maxSteps := 1000000) (disch := first | omega | exact PairsOK.mk rfl | (simp only [lenW] <;> omega)) only [hpe, Int.reduceGT, ne_eq, List.length_replicate, wD, Nat.reduceAdd, Nat.reduceEqDiff, Nat.reduceBEq, ↓reduceIte, reduceCtorEq, SX.exit.injEq, if_true, if_false, Int.reduceAdd, Int.reduceSub, Int.reduceMul, Int.reduceLT, Int.reduceLE, Int.reduceEq, Int.reduceNe, Int.reduceNeg, Int.reduceToNat, Nat.reduceMul, Nat.reduceLT, Nat.reduceSub, Nat.reduceLeDiff]
              refine ⟨k + 1, by omega, by omega, ?_⟩
              rw [hps, List.flatMap_append, List.length_append]
              exact ⟨[(50, .blk 50 0), (51, .blk 51 0), (52, .blk 52 0), (76, .blk 76 1), (77, .blk 77 0)], rfl, au0, au8, au7⟩
          · have e : k = a.al.length := by omega
            subst e
            simp (maxSteps := 1000000) (disch := first | omega | exact PairsOK.mk rfl | (simp only [lenW] <;> omega)) only [hkl, Int.reduceGT, ne_eq, List.length_replicate, wD, Nat.reduceAdd, Nat.reduceEqDiff, Nat.reduceBEq, ↓reduceIte, reduceCtorEq, SX.exit.injEq, if_true, if_false, Int.reduceAdd, Int.reduceSub, Int.reduceMul, Int.reduceLT, Int.reduceLE, Int.reduceEq, Int.reduceNe, Int.reduceNeg, Int.reduceToNat, Nat.reduceMul, Nat.reduceLT, Nat.reduceSub, Nat.reduceLeDiff]
            refine ⟨(), ?_⟩
            rw [hpartn]
            exact ⟨[(50, .blk 50 0), (51, .blk 51 0), (52, .blk 52 0), (76, .blk 76 0), (77, .blk 77 0)], rfl, au0, au8, au7⟩
        rintro _ _
        simp (maxSteps := 1000000) (disch := first | omega | exact PairsOK.mk rfl | (simp only [lenW] <;> omega)) only [Int.reduceGT, ne_eq, List.length_replicate, wD, Nat.reduceAdd, Nat.reduceEqDiff, Nat.reduceBEq, ↓reduceIte, reduceCtorEq, SX.exit.injEq, if_true, if_false, Int.reduceAdd, Int.reduceSub, Int.reduceMul, Int.reduceLT, Int.reduceLE, Int.reduceEq, Int.reduceNe, Int.reduceNeg, Int.reduceToNat, Nat.reduceMul, Nat.reduceLT, Nat.reduceSub, Nat.reduceLeDiff]
        refine ⟨i + 1, by omega, by omega, ?_⟩
        rw [hM1]
        exact ⟨[(50, .blk 50 0), (51, .blk 51 0), (52, .blk 52 0), (76, .blk 76 0), (77, .blk 77 0)], rfl, au0, au8, au7⟩
      · rw [if_neg hmv, List.append_nil] at hmn
        rw [Bool.not_eq_true] at hmv
        rw [hmv] at hh
        simp (maxSteps := 1000000) (disch := first | omega | exact PairsOK.mk rfl | (simp only [lenW] <;> omega)) only [hlt, head_nz hs, Int.reduceGT, ne_eq, List.length_replicate, wD, Nat.reduceAdd, Nat.reduceEqDiff, Nat.reduceBEq, ↓reduceIte, reduceCtorEq, SX.exit.injEq, if_true, if_false, Int.reduceAdd, Int.reduceSub, Int.reduceMul, Int.reduceLT, Int.reduceLE, Int.reduceEq, Int.reduceNe, Int.reduceNeg, Int.reduceToNat, Nat.reduceMul, Nat.reduceLT, Nat.reduceSub, Nat.reduceLeDiff]
        refine ch (HSpec.lend (FrzL.same _) hh rfl) ?_
        simp (maxSteps := 1000000) (disch := first | omega | exact PairsOK.mk rfl | (simp only [lenW] <;> omega)) only [Int.reduceGT, ne_eq, List.length_replicate, wD, Nat.reduceAdd, Nat.reduceEqDiff, Nat.reduceBEq, ↓reduceIte, reduceCtorEq, SX.exit.injEq, if_true, if_false, Int.reduceAdd, Int.reduceSub, Int.reduceMul, Int.reduceLT, Int.reduceLE, Int.reduceEq, Int.reduceNe, Int.reduceNeg, Int.reduceToNat, Nat.reduceMul, Nat.reduceLT, Nat.reduceSub, Nat.reduceLeDiff]
        refine wS_loopX 300 (fun k : Nat => [(1, .ptr 50 0 0), (2, .ptr 51 0 0), (3, sliN f), (4, .ptr 52 0 0), (5, .int .i64 i), (6, .int .i64 k)])
          (fun k => [(50, .cells 0 [sliN a.al, .int .i64 (a.n : Int), sliN a.ms, egsN a.es]), (51, .cells 0 [.nilsl, .int .i64 0, .nilsl, .nilsl]), (52, .cells 0 [sliN a.al, .int .i64 f.length, .sl 77 0 0 M1.length 1, .sl 76 0 0 (cPart a f i s k).length 3]), (76, .cells 0 ((cPart a f i s k).flatMap edC)), (77, .cells 0 (ints (nz M1)))])
          (fun k => k ≤ a.al.length) (fun k => a.al.length - k) 0 2 400
          (fun _ : Unit => [(1, .ptr 50 0 0), (2, .ptr 51 0 0), (3, sliN f), (4, .ptr 52 0 0), (5, .int .i64 i)])
          (fun _ => [(50, .cells 0 [sliN a.al, .int .i64 (a.n : Int), sliN a.ms, egsN a.es]), (51, .cells 0 [.nilsl, .int .i64 0, .nilsl, .nilsl]), (52, .cells 0 [sliN a.al, .int .i64 f.length, .sl 77 0 0 M1.length 1, .sl 76 0 0 (cPre a f (i + 1)).length 3]), (76, .cells 0 ((cPre a f (i + 1)).flatMap edC)), (77, .cells 0 (ints (nz M1)))]) (fun _ => True) ?_ (Nat.zero_le _) ?_ ?_
        · rw [hpart0, hmn]
          exact ⟨[(50, .blk 50 0), (51, .blk 51 0), (52, .blk 52 0), (76, .blk 76 0), (77, .blk 77 0)], rfl, au0, au8, au7⟩
        · rintro k hk
          by_cases hkl : k < a.al.length
          · obtain ⟨ev, hev⟩ := get_ex hkl
            have hevm := List.mem_of_getElem? hev
            have hst := cRow_take (a := a) (f := f) (i := i) (s := s) hev
            have hpl : (cPart a f i s k).length ≤ 2000 := by
              unfold cPart
              rw [List.length_append]
              have h1 := List.length_filterMap_le (fun ev => (stepA a.es s ev).map fun to => (i, ev, idx f to)) (a.al.take k)
              rw [List.length_take] at h1
              omega
            have hpe := ed_len (cPart a f i s k)
            have hps : cPart a f i s (k + 1) = cPart a f i s k ++ match stepA a.es s ev with | some to => [(i, ev, idx f to)] | none => [] := by
              unfold cPart; rw [hst, List.append_assoc]
            generalize cPart a f i s k = R at *
            simp (maxSteps := 1000000) (disch := first | omega | exact PairsOK.mk rfl | (simp only [lenW] <;> omega)) only [hkl, hlt, head_nz hs, head_nz hev, Int.reduceGT, ne_eq, List.length_replicate, wD, Nat.reduceAdd, Nat.reduceEqDiff, Nat.reduceBEq, ↓reduceIte, reduceCtorEq, SX.exit.injEq, if_true, if_false, Int.reduceAdd, Int.reduceSub, Int.reduceMul, Int.reduceLT, Int.reduceLE, Int.reduceEq, Int.reduceNe, Int.reduceNeg, Int.reduceToNat, Nat.reduceMul, Nat.reduceLT, Nat.reduceSub, Nat.reduceLeDiff]
            refine cp (step60 a s ev h.el) ?_
            cases hsa : stepA a.es s ev with
            | none =>
              have h1 : stepI a.es s ev = -1 := by unfold stepI; rw [hsa]
              rw [hsa, List.append_nil] at hps
              rw [h1]
              simp (maxSteps := 1000000) (disch := first | omega | exact PairsOK.mk rfl | (simp only [lenW] <;> omega)) only [Int.reduceGT, ne_eq, List.length_replicate, wD, Nat.reduceAdd, Nat.reduceEqDiff, Nat.reduceBEq, ↓reduceIte, reduceCtorEq, SX.exit.injEq, if_true, if_false, Int.reduceAdd, Int.reduceSub, Int.reduceMul, Int.reduceLT, Int.reduceLE, Int.reduceEq, Int.reduceNe, Int.reduceNeg, Int.reduceToNat, Nat.reduceMul, Nat.reduceLT, Nat.reduceSub, Nat.reduceLeDiff]
              refine ⟨k + 1, by omega, by omega, ?_⟩
              rw [hps]
              exact ⟨[(50, .blk 50 0), (51, .blk 51 0), (52, .blk 52 0), (76, .blk 76 0), (77, .blk 77 0)], rfl, au0, au8, au7⟩
            | some to =>
              have h1 : stepI a.es s ev = to := by unfold stepI; rw [hsa]
              rw [hsa] at hps
              have hidx := index61 (nz f) to (by simp; omega)
              rw [sli_nz, index_nz (f3 s hsf ev hevm to hsa)] at hidx
              rw [h1]
              simp (maxSteps := 1000000) (disch := first | omega | exact PairsOK.mk rfl | (simp only [lenW] <;> omega)) only [hkl, head_nz hev, Int.reduceGT, ne_eq, List.length_replicate, wD, Nat.reduceAdd, Nat.reduceEqDiff, Nat.reduceBEq, ↓reduceIte, reduceCtorEq, SX.exit.injEq, if_true, if_false, Int.reduceAdd, Int.reduceSub, Int.reduceMul, Int.reduceLT, Int.reduceLE, Int.reduceEq, Int.reduceNe, Int.reduceNeg, Int.reduceToNat, Nat.reduceMul, Nat.reduceLT, Nat.reduceSub, Nat.reduceLeDiff]
              refine cp hidx ?_
              simp (maxSteps := 1000000) (disch := first | omega | exact PairsOK.mk rfl | (simp only [lenW] <;> omega)) only [hpe, Int.reduceGT, ne_eq, List.length_replicate, wD, Nat.reduceAdd, Nat.reduceEqDiff, Nat.reduceBEq, ↓reduceIte, reduceCtorEq, SX.exit.injEq, if_true, if_false, Int.reduceAdd, Int.reduceSub, Int.reduceMul, Int.reduceLT, Int.reduceLE, Int.reduceEq, Int.reduceNe, Int.reduceNeg, Int.reduceToNat, Nat.reduceMul, Nat.reduceLT, Nat.reduceSub, Nat.reduceLeDiff]
              refine ⟨k + 1, by omega, by omega, ?_⟩
              rw [hps, List.flatMap_append, List.length_append]
              exact ⟨[(50, .blk 50 0), (51, .blk 51 0), (52, .blk 52 0), (76, .blk 76 1), (77, .blk 77 0)], rfl, au0, au8, au7⟩
          · have e : k = a.al.length := by omega
            subst e
            simp (maxSteps := 1000000) (disch := first | omega | exact PairsOK.mk rfl | (simp only [lenW] <;> omega)) only [hkl, Int.reduceGT, ne_eq, List.length_replicate, wD, Nat.reduceAdd, Nat.reduceEqDiff, Nat.reduceBEq, ↓reduceIte, reduceCtorEq, SX.exit.injEq, if_true, if_false, Int.reduceAdd, Int.reduceSub, Int.reduceMul, Int.reduceLT, Int.reduceLE, Int.reduceEq, Int.reduceNe, Int.reduceNeg, Int.reduceToNat, Nat.reduceMul, Nat.reduceLT, Nat.reduceSub, Nat.reduceLeDiff]
            refine ⟨(), ?_⟩
            rw [hpartn]
            exact ⟨[(50, .blk 50 0), (51, .blk 51 0), (52, .blk 52 0), (76, .blk 76 0), (77, .blk 77 0)], rfl, au0, au8, au7⟩
        rintro _ _
        simp (maxSteps := 1000000) (disch := first | omega | exact PairsOK.mk rfl | (simp only [lenW] <;> omega)) only [Int.reduceGT, ne_eq, List.length_replicate, wD, Nat.reduceAdd, Nat.reduceEqDiff, Nat.reduceBEq, ↓reduceIte, reduceCtorEq, SX.exit.injEq, if_true, if_false, Int.reduceAdd, Int.reduceSub, Int.reduceMul, Int.reduceLT, Int.reduceLE, Int.reduceEq, Int.reduceNe, Int.reduceNeg, Int.reduceToNat, Nat.reduceMul, Nat.reduceLT, Nat.reduceSub, Nat.reduceLeDiff]
        refine ⟨i + 1, by omega, by omega, ?_⟩
        rw [hM1]
        exact ⟨[(50, .blk 50 0), (51, .blk 51 0), (52, .blk 52 0), (76, .blk 76 0), (77, .blk 77 0)], rfl, au0, au8, au7⟩
    · have e : i = f.length := by omega
      subst e
      simp (maxSteps := 1000000) (disch := first | omega | exact PairsOK.mk rfl | (simp only [lenW] <;> omega)) only [hlt, Int.reduceGT, ne_eq, List.length_replicate, wD, Nat.reduceAdd, Nat.reduceEqDiff, Nat.reduceBEq, ↓reduceIte, reduceCtorEq, SX.exit.injEq, if_true, if_false, Int.reduceAdd, Int.reduceSub, Int.reduceMul, Int.reduceLT, Int.reduceLE, Int.reduceEq, Int.reduceNe, Int.reduceNeg, Int.reduceToNat, Nat.reduceMul, Nat.reduceLT, Nat.reduceSub, Nat.reduceLeDiff]
      refine ⟨(), ?_⟩
      exact ⟨[(51, .blk 51 0), (52, .blk 52 0), (76, .blk 76 0), (77, .blk 77 0)], rfl, au0, au8, au7⟩
  rintro _ _
  simp (maxSteps := 1000000) (disch := first | omega | exact PairsOK.mk rfl | (simp only [lenW] <;> omega)) only [Int.reduceGT, ne_eq, List.length_replicate, wD, Nat.reduceAdd, Nat.reduceEqDiff, Nat.reduceBEq, ↓reduceIte, reduceCtorEq, SX.exit.injEq, if_true, if_false, Int.reduceAdd, Int.reduceSub, Int.reduceMul, Int.reduceLT, Int.reduceLE, Int.reduceEq, Int.reduceNe, Int.reduceNeg, Int.reduceToNat, Nat.reduceMul, Nat.reduceLT, Nat.reduceSub, Nat.reduceLeDiff]
  refine ⟨.inr trivial, _, rfl, ?_⟩
  exact Rn.agg (RnL.cons (Rn.same (noRef_sliN _)) (RnL.cons (Rn.same rfl) (RnL.cons (Rn.fz0 (g := 0) rfl (by simp [ints]) (RnL.same (noRefs_ints _))) (RnL.cons (Rn.fz0 (g := 0) rfl (ed_len _) (RnL.same (noRefs_ed _))) RnL.nil))))
end Go.AM.SE
namespace Go.AM.SE
open Go.Proofs Go.AM.SD
set_option maxRecDepth 100000
set_option linter.unusedSimpArgs false
set_option linter.unusedVariables false
def u8s (l : List Nat) : List AV := l.map fun x : Nat => .int .u8 (x : Int)
theorem noRefs_u8 (l : List Nat) : noRefs (u8s l) = true := noRefs_mapS (fun _ => rfl) l
theorem get_u8 {l : List Nat} {i x : Nat} (h : l[i]? = some x) : (u8s l)[i]? = some (.int .u8 (x : Int)) := by simp [u8s, h]
def gEd (al : List Nat) (n : Nat) (T : List Nat) (i k : Nat) : Option Ed := if T.getD (i * 5 + k) 0 % (n + 2) < n then some (i, al.getD k 0, T.getD (i * 5 + k) 0 % (n + 2)) else none
def gRow (al : List Nat) (n : Nat) (T : List Nat) (i k : Nat) : List Ed := (List.range k).filterMap (gEd al n T i)
def gPre (al : List Nat) (n : Nat) (T : List Nat) (i : Nat) : List Ed := (List.range i).flatMap fun i => gRow al n T i al.length
def gPart (al : List Nat) (n : Nat) (T : List Nat) (i k : Nat) : List Ed := gPre al n T i ++ gRow al n T i k
def gRaw (al : List Nat) (st mk : Nat) (T : List Nat) : Aut := if 250 ≤ st then ⟨al, 0, [], []⟩ else ⟨al, 1 + st % 5, SD.part (1 + st % 5) mk, gPre al (1 + st % 5) T (1 + st % 5)⟩
theorem gRow_mem {al : List Nat} {n : Nat} {T : List Nat} {i k : Nat} {e : Ed} (h : e ∈ gRow al n T i k) : e.1 = i ∧ e.2.2 < n := by
  unfold gRow at h
  obtain ⟨j, _, hj⟩ := List.mem_filterMap.1 h
  unfold gEd at hj
  split at hj
  · rename_i h1; cases hj; exact ⟨rfl, h1⟩
  · cases hj
theorem gRow_succ {al : List Nat} {n : Nat} {T : List Nat} {i k : Nat} : gRow al n T i (k + 1) = gRow al n T i k ++ match gEd al n T i k with | some e => [e] | none => [] := by
  unfold gRow
  rw [List.range_succ, List.filterMap_append]
  congr 1
  cases e : gEd al n T i k <;> simp [e]
theorem gRow_len {al : List Nat} {n : Nat} {T : List Nat} {i k : Nat} : (gRow al n T i k).length ≤ k := by
  unfold gRow; exact Nat.le_trans (List.length_filterMap_le _ _) (by simp)
theorem gPre_len {al : List Nat} {n : Nat} {T : List Nat} (hal : al.length ≤ 5) : ∀ i, (gPre al n T i).length ≤ i * 5
  | 0 => by simp [gPre]
  | i + 1 => by
    have h1 := gPre_len (n := n) (T := T) hal i
    have h2 := @gRow_len al n T i al.length
    unfold gPre at h1 ⊢
    rw [List.range_succ, List.flatMap_append, List.length_append, Nat.succ_mul, List.flatMap_cons, List.flatMap_nil, List.append_nil]
    omega
theorem gPre_succ {al : List Nat} {n : Nat} {T : List Nat} {i : Nat} : gPre al n T (i + 1) = gPart al n T i al.length := by
  unfold gPart gPre
  rw [List.range_succ, List.flatMap_append, List.flatMap_cons, List.flatMap_nil, List.append_nil]
theorem gRaw_raw {al : List Nat} {st mk : Nat} {T : List Nat} (hal : al.length ≤ 5) : Raw (gRaw al st mk T) := by
  unfold gRaw
  split
  · exact ⟨by simp, by simp, by simp, by dsimp only; omega, by simp⟩
  · have h5 : 1 + st % 5 ≤ 5 := by omega
    refine ⟨fun e he => ?_, h5, ?_, by dsimp only; omega, ?_⟩
    · unfold gPre at he
      obtain ⟨i, hi, he⟩ := List.mem_flatMap.1 he
      have := List.mem_range.1 hi
      obtain ⟨h1, h2⟩ := gRow_mem he
      exact ⟨by rw [h1]; exact this, h2⟩
    · have := gPre_len (n := 1 + st % 5) (T := T) hal (1 + st % 5)
      dsimp only; omega
    · have := @part_len (1 + st % 5) mk
      dsimp only; omega
def mkA (al : List Nat) (st mk : Nat) (T : List Nat) : Aut := canon (gRaw al st mk T)
theorem mkA_wf {al : List Nat} {st mk : Nat} {T : List Nat} (hs : al.Pairwise (· < ·)) (h5 : ∀ x ∈ al, x < 5) : WfA (mkA al st mk T) := by
  have hal : al.length ≤ 5 := sorted_len hs h5
  have hr := gRaw_raw (st := st) (mk := mk) (T := T) hal
  have ha : (gRaw al st mk T).al = al := by unfold gRaw; split <;> rfl
  exact canon_wf (by rw [ha]; exact hs) (by rw [ha]; exact h5) hr.n5 hr.esn
abbrev grV (st mk : Nat) (T : List Nat) : AV := .agg (.int .u8 (st : Int) :: .int .u8 (mk : Int) :: u8s T)
theorem _root_.Go.AM.au9 {p : Prop} (h : p := by repeat' (first | exact RB.nil | (refine RnL.same ?_; first | rfl | (simp only [noRef, noRefs, noRefs_append, Bool.and_self, Bool.and_true, Bool.true_and, noRefs_ints, noRefs_u8, noRefs_eg, noRefs_ed, noRefs_rm, noRefs_ls, noRefs_bk, noRefs_bls, noRef_sli, noRef_sliN, noRef_egs, noRef_egsN, noRefs_keysI, noRefs_back, noRefs_rowE]; done)) | exact RnM.keyM rfl | exact RnL.nil | exact (True.intro : RnM _ _ _ [] []) | refine RnL.cons ?_ ?_ | (refine Rn.same ?_; first | rfl | (simp only [noRef, noRefs, noRefs_append, Bool.and_self, Bool.and_true, Bool.true_and, noRefs_ints, noRefs_u8, noRefs_eg, noRefs_ed, noRefs_rm, noRefs_ls, noRefs_bk, noRefs_bls, noRef_sli, noRef_sliN, noRef_egs, noRef_egsN, noRefs_keysI, noRefs_back, noRefs_rowE]; done)) | exact Rn.x1 rfl rfl | exact Rn.x2 rfl rfl | exact Rn.x3 rfl rfl | exact Rn.x4 rfl rfl | exact Rn.x5 rfl | exact Rn.x6 rfl | exact Rn.x7 rfl | refine RB.newnil rfl rfl ?_ | refine RB.cells rfl rfl rfl ?_ ?_ | refine RB.map rfl rfl rfl ?_ ?_ | refine RB.cellsB rfl rfl ?_ ?_ | refine RB.mapB rfl rfl ?_ ?_)) : p := h
theorem _root_.Go.AM.au10 {p : Prop} (h : p := by repeat (first | exact RT.nil | (refine RT.cons ?_ ?_; · (first | exact Rn.any | exact Rn.x1 rfl rfl | exact Rn.x2 rfl rfl | exact Rn.x3 rfl rfl | exact Rn.x4 rfl rfl | exact Rn.x5 rfl | exact Rn.x6 rfl | exact Rn.x7 rfl | (refine Rn.slot ?_ ?_; (first | rfl | (rw [Int.natCast_add]; rfl)); (first | rfl | (simp only [noRef, noRefs, noRefs_append, Bool.and_self, Bool.and_true, Bool.true_and, noRefs_ints, noRefs_u8, noRefs_eg, noRefs_ed, noRefs_rm, noRefs_ls, noRefs_bk, noRefs_bls, noRef_sli, noRef_sliN, noRef_egs, noRef_egsN, noRefs_keysI, noRefs_back, noRefs_rowE]; done))) | (refine Rn.fn ?_ ?_ <;> (repeat' (first | exact RnL.nil | refine RnL.cons ?_ ?_ | exact Rn.same rfl | exact Rn.x6 rfl | exact Rn.x2 rfl rfl | exact Rn.x5 rfl | exact Rn.x1 rfl rfl))))))) : p := h
set_option maxHeartbeats 32000000 in
theorem Make32 (al : List Nat) (st mk : Nat) (T : List Nat) (hs : al.Pairwise (· < ·)) (h5 : ∀ x ∈ al, x < 5) (hst : st < 256) (hmk : mk < 256) (hT : T.length = 25) (hT8 : ∀ x ∈ T, x < 256) :
    PSpec Try.prog 32 [sliN al, grV st mk T] (aV (mkA al st mk T)) := by
  have hal : al.length ≤ 5 := sorted_len hs h5
  have hlu : (u8s T).length = 25 := by simp [u8s, hT]
  have hcan := canon46 (gRaw al st mk T) (gRaw_raw hal)
  refine PSpec.of_rn 40 ok32 rfl (by (try simp only [noRefs, noRefs_u8, noRefs_keysI, noRefs_back, noRefs_ints, noRefs_eg, noRefs_ed, noRefs_rm, noRefs_ls, noRefs_bls, noRef, Bool.and_self, Bool.and_true]) <;> rfl) (noRef_aV _) ?_
  unfold mkA
  by_cases h0 : 250 ≤ st
  · have h0' : (250 : Int) ≤ (st : Int) := by omega
    have hr : gRaw al st mk T = ⟨al, 0, [], []⟩ := if_pos h0
    have hc : canon (gRaw al st mk T) = ⟨al, 0, [], []⟩ := by rw [hr]; rfl
    rw [hc]
    simp (maxSteps := 1000000) (disch := first | omega | exact PairsOK.mk rfl | (simp only [lenW] <;> omega)) only [s32, h0', Int.reduceGT, ne_eq, List.length_replicate, wD, Nat.reduceAdd, Nat.reduceEqDiff, Nat.reduceBEq, ↓reduceIte, reduceCtorEq, SX.exit.injEq, if_true, if_false, Int.reduceAdd, Int.reduceSub, Int.reduceMul, Int.reduceLT, Int.reduceLE, Int.reduceEq, Int.reduceNe, Int.reduceNeg, Int.reduceToNat, Nat.reduceMul, Nat.reduceLT, Nat.reduceSub, Nat.reduceLeDiff]
    refine cp (empty45 al (by omega)) ?_
    simp (maxSteps := 1000000) (disch := first | omega | exact PairsOK.mk rfl | (simp only [lenW] <;> omega)) only [Int.reduceGT, ne_eq, List.length_replicate, wD, Nat.reduceAdd, Nat.reduceEqDiff, Nat.reduceBEq, ↓reduceIte, reduceCtorEq, SX.exit.injEq, if_true, if_false, Int.reduceAdd, Int.reduceSub, Int.reduceMul, Int.reduceLT, Int.reduceLE, Int.reduceEq, Int.reduceNe, Int.reduceNeg, Int.reduceToNat, Nat.reduceMul, Nat.reduceLT, Nat.reduceSub, Nat.reduceLeDiff]
    refine ⟨.inr trivial, _, rfl, ?_⟩
    exact Rn.agg (RnL.cons (Rn.same (noRef_sliN _)) (RnL.cons (Rn.same rfl) (RnL.cons Rn.nilK (RnL.cons Rn.nilK RnL.nil))))
  have h0' : ¬ (250 : Int) ≤ (st : Int) := by omega
  have hr : gRaw al st mk T = ⟨al, 1 + st % 5, SD.part (1 + st % 5) mk, gPre al (1 + st % 5) T (1 + st % 5)⟩ := if_neg h0
  rw [hr] at hcan ⊢
  have hn5 : 1 + st % 5 ≤ 5 := by omega
  obtain ⟨n, hN⟩ : ∃ n, n = 1 + st % 5 := ⟨_, rfl⟩
  rw [← hN] at hr hcan hn5 ⊢
  have hnn : (1 : Int) + ((st % 5 : Nat) : Int) = (n : Int) := by omega
  simp (maxSteps := 1000000) (disch := first | omega | exact PairsOK.mk rfl | (simp only [lenW] <;> omega)) only [s32, h0', Int.reduceGT, ne_eq, List.length_replicate, wD, Nat.reduceAdd, Nat.reduceEqDiff, Nat.reduceBEq, ↓reduceIte, reduceCtorEq, SX.exit.injEq, if_true, if_false, Int.reduceAdd, Int.reduceSub, Int.reduceMul, Int.reduceLT, Int.reduceLE, Int.reduceEq, Int.reduceNe, Int.reduceNeg, Int.reduceToNat, Nat.reduceMul, Nat.reduceLT, Nat.reduceSub, Nat.reduceLeDiff]
  refine cp (empty45 al (by omega)) ?_
  have htm : (st : Int).tmod 5 = ((st % 5 : Nat) : Int) := by
    rw [Int.tmod_eq_emod_of_nonneg (Int.natCast_nonneg _)]; norm_cast
  simp (maxSteps := 1000000) (disch := first | omega | exact PairsOK.mk rfl | (simp only [lenW] <;> omega)) only [htm, hnn, Int.reduceGT, ne_eq, List.length_replicate, wD, Nat.reduceAdd, Nat.reduceEqDiff, Nat.reduceBEq, ↓reduceIte, reduceCtorEq, SX.exit.injEq, if_true, if_false, Int.reduceAdd, Int.reduceSub, Int.reduceMul, Int.reduceLT, Int.reduceLE, Int.reduceEq, Int.reduceNe, Int.reduceNeg, Int.reduceToNat, Nat.reduceMul, Nat.reduceLT, Nat.reduceSub, Nat.reduceLeDiff]
  refine wS_loopX 100 (fun i : Nat => [(0, sliN al), (3, .ptr 50 0 0), (4, .ptr 51 0 0), (5, .ptr 52 0 0), (6, .int .i64 i)])
    (fun i => [(50, .cells 0 (.int .u8 (st : Int) :: .int .u8 (mk : Int) :: u8s T)), (51, .cells 0 [.nilsl, .int .i64 0, .nilsl, .nilsl]), (52, .cells 0 [sliN al, .int .i64 (n : Int), .sl 77 0 0 (SD.part i mk).length 1, .sl 76 0 0 (gPre al n T i).length 3]), (76, .cells 0 ((gPre al n T i).flatMap edC)), (77, .cells 0 (ints (nz (SD.part i mk))))])
    (fun i => i ≤ n) (fun i => n - i) 0 0 160
    (fun _ : Unit => [(4, .ptr 51 0 0), (5, .ptr 52 0 0)])
    (fun _ => [(51, .cells 0 [.nilsl, .int .i64 0, .nilsl, .nilsl]), (52, .cells 0 [sliN al, .int .i64 (n : Int), sliN (SD.part n mk), egsN (gPre al n T n)])]) (fun _ => True) ?_ (Nat.zero_le _) ?_ ?_
  · exact ⟨[(50, .blk 40 0), (51, .blk 41 0), (52, .blk 47 0), (76, .nil), (77, .nil)], rfl, au0, au9, au10⟩
  · rintro i hi
    by_cases hlt : i < n
    · have hpt := part_take (n := n) (b := mk) (i := i)
      have hpl := @part_len i mk
      have hgl := gPre_len (n := n) (T := T) hal i
      have hg0 : gPart al n T i 0 = gPre al n T i := by simp [gPart, gRow]
      have hgs := gPre_succ (al := al) (n := n) (T := T) (i := i)
      have hed0 := ed_len (gPre al n T i)
      generalize hM1 : SD.part (i + 1) mk = M1 at *
      generalize hM : SD.part i mk = M at *
      by_cases hmv : mk.testBit i = true
      · rw [if_pos hmv] at hpt
        have hb := bit_iff.2 hmv
        simp (maxSteps := 1000000) (disch := first | omega | exact PairsOK.mk rfl | (simp only [lenW] <;> omega)) only [hlt, aBin_shrN (k := .u8) (show i ≤ 8 by omega), aBin_and8, hb, Int.reduceGT, ne_eq, List.length_replicate, wD, Nat.reduceAdd, Nat.reduceEqDiff, Nat.reduceBEq, ↓reduceIte, reduceCtorEq, SX.exit.injEq, if_true, if_false, Int.reduceAdd, Int.reduceSub, Int.reduceMul, Int.reduceLT, Int.reduceLE, Int.reduceEq, Int.reduceNe, Int.reduceNeg, Int.reduceToNat, Nat.reduceMul, Nat.reduceLT, Nat.reduceSub, Nat.reduceLeDiff]
        refine wS_loopX 300 (fun k : Nat => [(0, sliN al), (3, .ptr 50 0 0), (4, .ptr 51 0 0), (5, .ptr 52 0 0), (6, .int .i64 i), (7, .int .i64 k)])
          (fun k => [(50, .cells 0 (.int .u8 (st : Int) :: .int .u8 (mk : Int) :: u8s T)), (51, .cells 0 [.nilsl, .int .i64 0, .nilsl, .nilsl]), (52, .cells 0 [sliN al, .int .i64 (n : Int), .sl 77 0 0 M1.length 1, .sl 76 0 0 (gPart al n T i k).length 3]), (76, .cells 0 ((gPart al n T i k).flatMap edC)), (77, .cells 0 (ints (nz M1)))])
          (fun k => k ≤ al.length) (fun k => al.length - k) 0 2 400
          (fun _ : Unit => [(0, sliN al), (3, .ptr 50 0 0), (4, .ptr 51 0 0), (5, .ptr 52 0 0), (6, .int .i64 i)])
          (fun _ => [(50, .cells 0 (.int .u8 (st : Int) :: .int .u8 (mk : Int) :: u8s T)), (51, .cells 0 [.nilsl, .int .i64 0, .nilsl, .nilsl]), (52, .cells 0 [sliN al, .int .i64 (n : Int), .sl 77 0 0 M1.length 1, .sl 76 0 0 (gPre al n T (i + 1)).length 3]), (76, .cells 0 ((gPre al n T (i + 1)).flatMap edC)), (77, .cells 0 (ints (nz M1)))]) (fun _ => True) ?_ (Nat.zero_le _) ?_ ?_
        · rw [hg0, hpt, List.length_append, nz_append, ints_append]
          exact ⟨[(50, .blk 50 0), (51, .blk 51 0), (52, .blk 52 0), (76, .blk 76 0), (77, .blk 77 1)], rfl, au0, au9, au10⟩
        · rintro k hk
          by_cases hkl : k < al.length
          · obtain ⟨ev, hev⟩ := get_ex hkl
            have hevD : al.getD k 0 = ev := by rw [List.getD_eq_getElem?_getD, hev]; rfl
            obtain ⟨x, hx⟩ := get_ex (l := T) (i := i * 5 + k) (by omega)
            have hxD : T.getD (i * 5 + k) 0 = x := by rw [List.getD_eq_getElem?_getD, hx]; rfl
            have hx8 := hT8 x (List.mem_of_getElem? hx)
            have hk5 : (k : Int) < 5 := by omega
            have hi5 : (i : Int) < 5 := by omega
            have hgx : (AV.int .u8 (st : Int) :: AV.int .u8 (mk : Int) :: u8s T)[2 + i * 5 + k]? = some (.int .u8 (x : Int)) := by
              rw [show 2 + i * 5 + k = (i * 5 + k) + 2 by omega]
              simpa using get_u8 hx
            have hrm : (x : Int).tmod ((n : Int) + 2) = ((x % (n + 2) : Nat) : Int) := by
              rw [Int.tmod_eq_emod_of_nonneg (Int.natCast_nonneg _)]; norm_cast
            have hn0 : ¬ (n : Int) + 2 = 0 := by omega
            have hxm : x % (n + 2) ≤ 10 := by have := Nat.mod_lt x (show 0 < n + 2 by omega); omega
            have hst := gRow_succ (al := al) (n := n) (T := T) (i := i) (k := k)
            have hrl := @gRow_len al n T i k
            have hps : gPart al n T i (k + 1) = gPart al n T i k ++ match gEd al n T i k with | some e => [e] | none => [] := by
              unfold gPart; rw [hst, List.append_assoc]
            have hpl2 : (gPart al n T i k).length ≤ 100 := by unfold gPart; rw [List.length_append]; omega
            have hpe := ed_len (gPart al n T i k)
            unfold gEd at hps
            rw [hxD, hevD] at hps
            generalize gPart al n T i k = R at *
            by_cases ht : x % (n + 2) < n
            · rw [if_pos ht] at hps
              simp (maxSteps := 1000000) (disch := first | omega | exact PairsOK.mk rfl | (simp only [lenW] <;> omega)) only [hkl, hk5, hi5, hgx, hn0, hrm, ht, head_nz hev, hpe, Int.reduceGT, ne_eq, List.length_replicate, wD, Nat.reduceAdd, Nat.reduceEqDiff, Nat.reduceBEq, ↓reduceIte, reduceCtorEq, SX.exit.injEq, if_true, if_false, Int.reduceAdd, Int.reduceSub, Int.reduceMul, Int.reduceLT, Int.reduceLE, Int.reduceEq, Int.reduceNe, Int.reduceNeg, Int.reduceToNat, Nat.reduceMul, Nat.reduceLT, Nat.reduceSub, Nat.reduceLeDiff]
              refine ⟨k + 1, by omega, by omega, ?_⟩
              rw [hps, List.flatMap_append, List.length_append]
              exact ⟨[(50, .blk 50 0), (51, .blk 51 0), (52, .blk 52 0), (76, .blk 76 1), (77, .blk 77 0)], rfl, au0, au9, au10⟩
            · rw [if_neg ht, List.append_nil] at hps
              simp (maxSteps := 1000000) (disch := first | omega | exact PairsOK.mk rfl | (simp only [lenW] <;> omega)) only [hkl, hk5, hi5, hgx, hn0, hrm, ht, Int.reduceGT, ne_eq, List.length_replicate, wD, Nat.reduceAdd, Nat.reduceEqDiff, Nat.reduceBEq, ↓reduceIte, reduceCtorEq, SX.exit.injEq, if_true, if_false, Int.reduceAdd, Int.reduceSub, Int.reduceMul, Int.reduceLT, Int.reduceLE, Int.reduceEq, Int.reduceNe, Int.reduceNeg, Int.reduceToNat, Nat.reduceMul, Nat.reduceLT, Nat.reduceSub, Nat.reduceLeDiff]
              refine ⟨k + 1, by omega, by omega, ?_⟩
              rw [hps]
              exact ⟨[(50, .blk 50 0), (51, .blk 51 0), (52, .blk 52 0), (76, .blk 76 0), (77, .blk 77 0)], rfl, au0, au9, au10⟩
          · have e : k = al.length := by omega
            subst e
            simp (maxSteps := 1000000) (disch := first | omega | exact PairsOK.mk rfl | (simp only [lenW] <;> omega)) only [hkl, Int.reduceGT, ne_eq, List.length_replicate, wD, Nat.reduceAdd, Nat.reduceEqDiff, Nat.reduceBEq, ↓reduceIte, reduceCtorEq, SX.exit.injEq, if_true, if_false, Int.reduceAdd, Int.reduceSub, Int.reduceMul, Int.reduceLT, Int.reduceLE, Int.reduceEq, Int.reduceNe, Int.reduceNeg, Int.reduceToNat, Nat.reduceMul, Nat.reduceLT, Nat.reduceSub, Nat.reduceLeDiff]
            refine ⟨(), ?_⟩
            rw [hgs]
            exact ⟨[(50, .blk 50 0), (51, .blk 51 0), (52, .blk 52 0), (76, .blk 76 0), (77, .blk 77 0)], rfl, au0, au9, au10⟩
        rintro _ _
        simp (maxSteps := 1000000) (disch := first | omega | exact PairsOK.mk rfl | (simp only [lenW] <;> omega)) only [Int.reduceGT, ne_eq, List.length_replicate, wD, Nat.reduceAdd, Nat.reduceEqDiff, Nat.reduceBEq, ↓reduceIte, reduceCtorEq, SX.exit.injEq, if_true, if_false, Int.reduceAdd, Int.reduceSub, Int.reduceMul, Int.reduceLT, Int.reduceLE, Int.reduceEq, Int.reduceNe, Int.reduceNeg, Int.reduceToNat, Nat.reduceMul, Nat.reduceLT, Nat.reduceSub, Nat.reduceLeDiff]
        refine ⟨i + 1, by omega, by omega, ?_⟩
        rw [hM1]
        exact ⟨[(50, .blk 50 0), (51, .blk 51 0), (52, .blk 52 0), (76, .blk 76 0), (77, .blk 77 0)], rfl, au0, au9, au10⟩
      · rw [if_neg hmv, List.append_nil] at hpt
        have hb : ¬ ((mk / 2 ^ i % 2 : Nat) : Int) = 1 := fun e => hmv (bit_iff.1 e)
        simp (maxSteps := 1000000) (disch := first | omega | exact PairsOK.mk rfl | (simp only [lenW] <;> omega)) only [hlt, aBin_shrN (k := .u8) (show i ≤ 8 by omega), aBin_and8, hb, Int.reduceGT, ne_eq, List.length_replicate, wD, Nat.reduceAdd, Nat.reduceEqDiff, Nat.reduceBEq, ↓reduceIte, reduceCtorEq, SX.exit.injEq, if_true, if_false, Int.reduceAdd, Int.reduceSub, Int.reduceMul, Int.reduceLT, Int.reduceLE, Int.reduceEq, Int.reduceNe, Int.reduceNeg, Int.reduceToNat, Nat.reduceMul, Nat.reduceLT, Nat.reduceSub, Nat.reduceLeDiff]
        refine wS_loopX 300 (fun k : Nat => [(0, sliN al), (3, .ptr 50 0 0), (4, .ptr 51 0 0), (5, .ptr 52 0 0), (6, .int .i64 i), (7, .int .i64 k)])
          (fun k => [(50, .cells 0 (.int .u8 (st : Int) :: .int .u8 (mk : Int) :: u8s T)), (51, .cells 0 [.nilsl, .int .i64 0, .nilsl, .nilsl]), (52, .cells 0 [sliN al, .int .i64 (n : Int), .sl 77 0 0 M1.length 1, .sl 76 0 0 (gPart al n T i k).length 3]), (76, .cells 0 ((gPart al n T i k).flatMap edC)), (77, .cells 0 (ints (nz M1)))])
          (fun k => k ≤ al.length) (fun k => al.length - k) 0 2 400
          (fun _ : Unit => [(0, sliN al), (3, .ptr 50 0 0), (4, .ptr 51 0 0), (5, .ptr 52 0 0), (6, .int .i64 i)])
          (fun _ => [(50, .cells 0 (.int .u8 (st : Int) :: .int .u8 (mk : Int) :: u8s T)), (51, .cells 0 [.nilsl, .int .i64 0, .nilsl, .nilsl]), (52, .cells 0 [sliN al, .int .i64 (n : Int), .sl 77 0 0 M1.length 1, .sl 76 0 0 (gPre al n T (i + 1)).length 3]), (76, .cells 0 ((gPre al n T (i + 1)).flatMap edC)), (77, .cells 0 (ints (nz M1)))]) (fun _ => True) ?_ (Nat.zero_le _) ?_ ?_
        · rw [hg0, hpt]
          exact ⟨[(50, .blk 50 0), (51, .blk 51 0), (52, .blk 52 0), (76, .blk 76 0), (77, .blk 77 0)], rfl, au0, au9, au10⟩
        · rintro k hk
          by_cases hkl : k < al.length
          · obtain ⟨ev, hev⟩ := get_ex hkl
            have hevD : al.getD k 0 = ev := by rw [List.getD_eq_getElem?_getD, hev]; rfl
            obtain ⟨x, hx⟩ := get_ex (l := T) (i := i * 5 + k) (by omega)
            have hxD : T.getD (i * 5 + k) 0 = x := by rw [List.getD_eq_getElem?_getD, hx]; rfl
            have hx8 := hT8 x (List.mem_of_getElem? hx)
            have hk5 : (k : Int) < 5 := by omega
            have hi5 : (i : Int) < 5 := by omega
            have hgx : (AV.int .u8 (st : Int) :: AV.int .u8 (mk : Int) :: u8s T)[2 + i * 5 + k]? = some (.int .u8 (x : Int)) := by
              rw [show 2 + i * 5 + k = (i * 5 + k) + 2 by omega]
              simpa using get_u8 hx
            have hrm : (x : Int).tmod ((n : Int) + 2) = ((x % (n + 2) : Nat) : Int) := by
              rw [Int.tmod_eq_emod_of_nonneg (Int.natCast_nonneg _)]; norm_cast
            have hn0 : ¬ (n : Int) + 2 = 0 := by omega
            have hxm : x % (n + 2) ≤ 10 := by have := Nat.mod_lt x (show 0 < n + 2 by omega); omega
            have hst := gRow_succ (al := al) (n := n) (T := T) (i := i) (k := k)
            have hrl := @gRow_len al n T i k
            have hps : gPart al n T i (k + 1) = gPart al n T i k ++ match gEd al n T i k with | some e => [e] | none => [] := by
              unfold gPart; rw [hst, List.append_assoc]
            have hpl2 : (gPart al n T i k).length ≤ 100 := by unfold gPart; rw [List.length_append]; omega
            have hpe := ed_len (gPart al n T i k)
            unfold gEd at hps
            rw [hxD, hevD] at hps
            generalize gPart al n T i k = R at *
            by_cases ht : x % (n + 2) < n
            · rw [if_pos ht] at hps
              simp (maxSteps := 1000000) (disch := first | omega | exact PairsOK.mk rfl | (simp only [lenW] <;> omega)) only [hkl, hk5, hi5, hgx, hn0, hrm, ht, head_nz hev, hpe, Int.reduceGT, ne_eq, List.length_replicate, wD, Nat.reduceAdd, Nat.reduceEqDiff, Nat.reduceBEq, ↓reduceIte, reduceCtorEq, SX.exit.injEq, if_true, if_false, Int.reduceAdd, Int.reduceSub, Int.reduceMul, Int.reduceLT, Int.reduceLE, Int.reduceEq, Int.reduceNe, Int.reduceNeg, Int.reduceToNat, Nat.reduceMul, Nat.reduceLT, Nat.reduceSub, Nat.reduceLeDiff]
              refine ⟨k + 1, by omega, by omega, ?_⟩
              rw [hps, List.flatMap_append, List.length_append]
              exact ⟨[(50, .blk 50 0), (51, .blk 51 0), (52, .blk 52 0), (76, .blk 76 1), (77, .blk 77 0)], rfl, au0, au9, au10⟩
            · rw [if_neg ht, List.append_nil] at hps
              simp (maxSteps := 1000000) (disch := first | omega | exact PairsOK.mk rfl | (simp only [lenW] <;> omega)) only [hkl, hk5, hi5, hgx, hn0, hrm, ht, Int.reduceGT, ne_eq, List.length_replicate, wD, Nat.reduceAdd, Nat.reduceEqDiff, Nat.reduceBEq, ↓reduceIte, reduceCtorEq, SX.exit.injEq, if_true, if_false, Int.reduceAdd, Int.reduceSub, Int.reduceMul, Int.reduceLT, Int.reduceLE, Int.reduceEq, Int.reduceNe, Int.reduceNeg, Int.reduceToNat, Nat.reduceMul, Nat.reduceLT, Nat.reduceSub, Nat.reduceLeDiff]
              refine ⟨k + 1, by omega, by omega, ?_⟩
              rw [hps]
              exact ⟨[(50, .blk 50 0), (51, .blk 51 0), (52, .blk 52 0), (76, .blk 76 0), (77, .blk 77 0)], rfl, au0, au9, au10⟩
          · have e : k = al.length := by omega
            subst e
            simp (maxSteps := 1000000) (disch := first | omega | exact PairsOK.mk rfl | (simp only [lenW] <;> omega)) only [hkl, Int.reduceGT, ne_eq, List.length_replicate, wD, Nat.reduceAdd, Nat.reduceEqDiff, Nat.reduceBEq, ↓reduceIte, reduceCtorEq, SX.exit.injEq, if_true, if_false, Int.reduceAdd, Int.reduceSub, Int.reduceMul, Int.reduceLT, Int.reduceLE, Int.reduceEq, Int.reduceNe, Int.reduceNeg, Int.reduceToNat, Nat.reduceMul, Nat.reduceLT, Nat.reduceSub, Nat.reduceLeDiff]
            refine ⟨(), ?_⟩
            rw [hgs]
            exact ⟨[(50, .blk 50 0), (51, .blk 51 0), (52, .blk 52 0), (76, .blk 76 0), (77, .blk 77 0)], rfl, au0, au9, au10⟩
        rintro _ _
        simp (maxSteps := 1000000) (disch := first | omega | exact PairsOK.mk rfl | (simp only [lenW] <;> omega)) only [Int.reduceGT, ne_eq, List.length_replicate, wD, Nat.reduceAdd, Nat.reduceEqDiff, Nat.reduceBEq, ↓reduceIte, reduceCtorEq, SX.exit.injEq, if_true, if_false, Int.reduceAdd, Int.reduceSub, Int.reduceMul, Int.reduceLT, Int.reduceLE, Int.reduceEq, Int.reduceNe, Int.reduceNeg, Int.reduceToNat, Nat.reduceMul, Nat.reduceLT, Nat.reduceSub, Nat.reduceLeDiff]
        refine ⟨i + 1, by omega, by omega, ?_⟩
        rw [hM1]
        exact ⟨[(50, .blk 50 0), (51, .blk 51 0), (52, .blk 52 0), (76, .blk 76 0), (77, .blk 77 0)], rfl, au0, au9, au10⟩
    · have e : i = n := by omega
      subst e
      simp (maxSteps := 1000000) (disch := first | omega | exact PairsOK.mk rfl | (simp only [lenW] <;> omega)) only [hlt, Int.reduceGT, ne_eq, List.length_replicate, wD, Nat.reduceAdd, Nat.reduceEqDiff, Nat.reduceBEq, ↓reduceIte, reduceCtorEq, SX.exit.injEq, if_true, if_false, Int.reduceAdd, Int.reduceSub, Int.reduceMul, Int.reduceLT, Int.reduceLE, Int.reduceEq, Int.reduceNe, Int.reduceNeg, Int.reduceToNat, Nat.reduceMul, Nat.reduceLT, Nat.reduceSub, Nat.reduceLeDiff]
      refine ⟨(), [(51, .blk 51 0), (52, .blk 52 0)], rfl, RO.zero, ?_, au10⟩
      refine RB.cells rfl rfl rfl (RnL.same rfl) (RB.cells rfl rfl rfl (RnL.cons (Rn.same (noRef_sliN _)) (RnL.cons (Rn.same rfl) (RnL.cons (Rn.fzm rfl rfl rfl rfl (by simp [ints]) (RnL.same (noRefs_ints _))) (RnL.cons (Rn.fzm rfl rfl rfl rfl (ed_len _) (RnL.same (noRefs_ed _))) RnL.nil)))) RB.nil)
  rintro _ _
  simp (maxSteps := 1000000) (disch := first | omega | exact PairsOK.mk rfl | (simp only [lenW] <;> omega)) only [Int.reduceGT, ne_eq, List.length_replicate, wD, Nat.reduceAdd, Nat.reduceEqDiff, Nat.reduceBEq, ↓reduceIte, reduceCtorEq, SX.exit.injEq, if_true, if_false, Int.reduceAdd, Int.reduceSub, Int.reduceMul, Int.reduceLT, Int.reduceLE, Int.reduceEq, Int.reduceNe, Int.reduceNeg, Int.reduceToNat, Nat.reduceMul, Nat.reduceLT, Nat.reduceSub, Nat.reduceLeDiff]
  refine cp hcan ?_
  generalize canon ⟨al, n, SD.part n mk, gPre al n T n⟩ = C at *
  simp (maxSteps := 1000000) (disch := first | omega | exact PairsOK.mk rfl | (simp only [lenW] <;> omega)) only [Int.reduceGT, ne_eq, List.length_replicate, wD, Nat.reduceAdd, Nat.reduceEqDiff, Nat.reduceBEq, ↓reduceIte, reduceCtorEq, SX.exit.injEq, if_true, if_false, Int.reduceAdd, Int.reduceSub, Int.reduceMul, Int.reduceLT, Int.reduceLE, Int.reduceEq, Int.reduceNe, Int.reduceNeg, Int.reduceToNat, Nat.reduceMul, Nat.reduceLT, Nat.reduceSub, Nat.reduceLeDiff]
  exact ⟨.inr trivial, _, rfl, Rn.same (noRef_aV _)⟩
end Go.AM.SE
namespace Go.AM.SE
open Go.Proofs Go.AM.SD
set_option maxRecDepth 100000
set_option linter.unusedSimpArgs false
set_option linter.unusedVariables false
structure Tsk where
  set : Nat
  st : Nat
  mr : Nat
  T : List Nat
  fb : Nat
  un : Nat
structure TOk (t : Tsk) : Prop where
  set : t.set < 256
  st : t.st < 256
  mr : t.mr < 256
  T : t.T.length = 25
  T8 : ∀ x ∈ t.T, x < 256
  fb : t.fb < 4294967296
  un : t.un < 256
abbrev tskV (t : Tsk) : AV := .agg (.int .u8 (t.set : Int) :: .int .u8 (t.st : Int) :: .int .u8 (t.mr : Int) :: (u8s t.T ++ [.int .u32 (t.fb : Int), .int .u8 (t.un : Int)]))
def tA (t : Tsk) : Aut := mkA (SD.part 5 t.set) t.st t.mr t.T
def tF (t : Tsk) : List Nat := SD.part (tA t).n t.fb
def tU (t : Tsk) : List Nat := SD.part 5 t.un
theorem part_lt {n b : Nat} : ∀ x ∈ SD.part n b, x < n := fun x hx => (mem_part.1 hx).1
theorem tA_wf (t : Tsk) : WfA (tA t) := mkA_wf (part_sorted _ _) part_lt
theorem tA_el (t : Tsk) : (tA t).es.length ≤ 1000000 := by
  have h := tA_wf t
  have hr := gRaw_raw (al := SD.part 5 t.set) (st := t.st) (mk := t.mr) (T := t.T) (@part_len 5 t.set)
  have h1 := cPre_len (gRaw (SD.part 5 t.set) t.st t.mr t.T) (found (gRaw (SD.part 5 t.set) t.st t.mr t.T)) (found (gRaw (SD.part 5 t.set) t.st t.mr t.T)).length
  have h2 : (tA t).es.length = (cPre (gRaw (SD.part 5 t.set) t.st t.mr t.T) (found (gRaw (SD.part 5 t.set) t.st t.mr t.T)) (found (gRaw (SD.part 5 t.set) t.st t.mr t.T)).length).length := rfl
  have h3 : (found (gRaw (SD.part 5 t.set) t.st t.mr t.T)).length ≤ 5 := h.n5
  rw [h2]
  exact Nat.le_trans h1 (Nat.le_trans (Nat.mul_le_mul h3 hr.al) (by decide))
theorem tQ (t : Tsk) : QOk (tA t) (tF t) (tU t) := ⟨part_sorted _ _, part_lt, part_sorted _ _, fun x hx => by have := part_lt x hx; omega⟩
theorem noRef_tsk (t : Tsk) : noRef (tskV t) = true := by
  simp only [noRef, noRefs, noRefs_append, noRefs_u8]; rfl
theorem u8_drop {l : List Nat} {r : List AV} {k : Nat} (h : l.length = k) : (u8s l ++ r).take k = u8s l := by
  have : (u8s l).length = k := by simp [u8s, h]
  rw [List.take_append_of_le_length (by omega), ← this, List.take_length]
set_option maxHeartbeats 16000000 in
theorem open10 (t : Tsk) (h : TOk t) : PSpec Try.prog 10 [tskV t] (.tup [aV (tA t), sliN (tF t), sliN (tU t)]) := by
  have hlu : (u8s t.T).length = 25 := by simp [u8s, h.T]
  have hM := Make32 (SD.part 5 t.set) t.st t.mr t.T (part_sorted _ _) part_lt h.st h.mr h.T h.T8
  have hE := events16 t.set h.set
  have hE2 := events16 t.un h.un
  have hn5 := (tA_wf t).n5
  have hP := part12 (tA t).n t.fb (by omega) h.fb
  have ht := u8_drop (l := t.T) (r := [.int .u32 (t.fb : Int), .int .u8 (t.un : Int)]) h.T
  have g1 : (u8s t.T ++ [AV.int .u32 (t.fb : Int), .int .u8 (t.un : Int)])[25]? = some (.int .u32 (t.fb : Int)) := by rw [List.getElem?_append_right (by omega), hlu]; rfl
  have g2 : (u8s t.T ++ [AV.int .u32 (t.fb : Int), .int .u8 (t.un : Int)])[26]? = some (.int .u8 (t.un : Int)) := by rw [List.getElem?_append_right (by omega), hlu]; rfl
  refine PSpec.of_rn 40 ok10 rfl (by rw [noRefs, noRef_tsk]; rfl) (by simp only [noRef, noRefs, noRefs_ints, noRefs_ed]; rfl) ?_
  simp (maxSteps := 1000000) (disch := first | omega | exact PairsOK.mk rfl | (simp only [lenW] <;> omega)) only [s10, Int.reduceGT, ne_eq, List.length_replicate, wD, Nat.reduceAdd, Nat.reduceEqDiff, Nat.reduceBEq, ↓reduceIte, reduceCtorEq, SX.exit.injEq, if_true, if_false, Int.reduceAdd, Int.reduceSub, Int.reduceMul, Int.reduceLT, Int.reduceLE, Int.reduceEq, Int.reduceNe, Int.reduceNeg, Int.reduceToNat, Nat.reduceMul, Nat.reduceLT, Nat.reduceSub, Nat.reduceLeDiff]
  refine wS_regionH [] rfl (pairs_cons (a := []) (b := [50]) rfl rfl (fun x hx => by cases hx) (pairs_cons (a := []) (b := [50]) rfl rfl (fun x hx => by cases hx) pairs_nil)) ?_
  simp (maxSteps := 1000000) (disch := first | omega | exact PairsOK.mk rfl | (simp only [lenW] <;> omega)) only [Int.reduceGT, ne_eq, List.length_replicate, wD, Nat.reduceAdd, Nat.reduceEqDiff, Nat.reduceBEq, ↓reduceIte, reduceCtorEq, SX.exit.injEq, if_true, if_false, Int.reduceAdd, Int.reduceSub, Int.reduceMul, Int.reduceLT, Int.reduceLE, Int.reduceEq, Int.reduceNe, Int.reduceNeg, Int.reduceToNat, Nat.reduceMul, Nat.reduceLT, Nat.reduceSub, Nat.reduceLeDiff]
  refine cp hE ?_
  simp (maxSteps := 1000000) (disch := first | omega | exact PairsOK.mk rfl | (simp only [lenW] <;> omega)) only [hlu, ht, Int.reduceGT, ne_eq, List.length_replicate, wD, Nat.reduceAdd, Nat.reduceEqDiff, Nat.reduceBEq, ↓reduceIte, reduceCtorEq, SX.exit.injEq, if_true, if_false, Int.reduceAdd, Int.reduceSub, Int.reduceMul, Int.reduceLT, Int.reduceLE, Int.reduceEq, Int.reduceNe, Int.reduceNeg, Int.reduceToNat, Nat.reduceMul, Nat.reduceLT, Nat.reduceSub, Nat.reduceLeDiff]
  refine cp hM ?_
  have hA : mkA (SD.part 5 t.set) t.st t.mr t.T = tA t := rfl
  rw [hA]
  have hF : SD.part (tA t).n t.fb = tF t := rfl
  rw [hF] at hP
  have hU : SD.part 5 t.un = tU t := rfl
  rw [hU] at hE2
  generalize tA t = A at *
  generalize tF t = F at *
  generalize tU t = U at *
  simp (maxSteps := 1000000) (disch := first | omega | exact PairsOK.mk rfl | (simp only [lenW] <;> omega)) only [hlu, g1, g2, Int.reduceGT, ne_eq, List.length_replicate, wD, Nat.reduceAdd, Nat.reduceEqDiff, Nat.reduceBEq, ↓reduceIte, reduceCtorEq, SX.exit.injEq, if_true, if_false, Int.reduceAdd, Int.reduceSub, Int.reduceMul, Int.reduceLT, Int.reduceLE, Int.reduceEq, Int.reduceNe, Int.reduceNeg, Int.reduceToNat, Nat.reduceMul, Nat.reduceLT, Nat.reduceSub, Nat.reduceLeDiff]
  refine ⟨trivial, ?_⟩
  refine cp hP ?_
  simp (maxSteps := 1000000) (disch := first | omega | exact PairsOK.mk rfl | (simp only [lenW] <;> omega)) only [hlu, g1, g2, Int.reduceGT, ne_eq, List.length_replicate, wD, Nat.reduceAdd, Nat.reduceEqDiff, Nat.reduceBEq, ↓reduceIte, reduceCtorEq, SX.exit.injEq, if_true, if_false, Int.reduceAdd, Int.reduceSub, Int.reduceMul, Int.reduceLT, Int.reduceLE, Int.reduceEq, Int.reduceNe, Int.reduceNeg, Int.reduceToNat, Nat.reduceMul, Nat.reduceLT, Nat.reduceSub, Nat.reduceLeDiff]
  refine cp hE2 ?_
  simp (maxSteps := 1000000) (disch := first | omega | exact PairsOK.mk rfl | (simp only [lenW] <;> omega)) only [Int.reduceGT, ne_eq, List.length_replicate, wD, Nat.reduceAdd, Nat.reduceEqDiff, Nat.reduceBEq, ↓reduceIte, reduceCtorEq, SX.exit.injEq, if_true, if_false, Int.reduceAdd, Int.reduceSub, Int.reduceMul, Int.reduceLT, Int.reduceLE, Int.reduceEq, Int.reduceNe, Int.reduceNeg, Int.reduceToNat, Nat.reduceMul, Nat.reduceLT, Nat.reduceSub, Nat.reduceLeDiff]
  refine ⟨.inr trivial, _, rfl, ?_⟩
  exact Rn.same (by simp only [noRef, noRefs, noRefs_ints, noRefs_ed]; rfl)
end Go.AM.SE
namespace Go.AM.SE
open Go.Proofs Go.AM.SD
set_option maxRecDepth 100000
set_option linter.unusedSimpArgs false
set_option linter.unusedVariables false
end Go.AM.SE
namespace Go.AM.SE
open Go.Proofs Go.AM.SD
set_option maxRecDepth 100000
set_option linter.unusedSimpArgs false
set_option linter.unusedVariables false
end Go.AM.SE
namespace Go.AM.SE
open Go.Proofs Go.AM.SD
set_option maxRecDepth 100000
set_option linter.unusedSimpArgs false
set_option linter.unusedVariables false
abbrev tyTo : Ty := .arr 5 (.arr 5 (.int .u8))
abbrev tyGr : Ty := .st (.pair (.int .u8) (.pair (.int .u8) (.pair tyTo .unit)))
abbrev tyTask : Ty := .st (.pair (.int .u8) (.pair tyGr (.pair (.int .u32) (.pair (.int .u8) .unit))))
theorem u8_wf {n : Int} (h : (Lit.int .u8 n).wf = true) : 0 ≤ n ∧ n < 256 := by
  simp [Lit.wf, IntKind.min, IntKind.max, IntKind.signed, IntKind.bits] at h
  omega
theorem u32_wf {n : Int} (h : (Lit.int .u32 n).wf = true) : 0 ≤ n ∧ n < 4294967296 := by
  simp [Lit.wf, IntKind.min, IntKind.max, IntKind.signed, IntKind.bits] at h
  omega
theorem u8s_in {l : List Int} (h : ∀ x ∈ l, (Lit.int .u8 x).wf = true) : l.flatMap (Ty.cells (.int .u8)) = u8s (l.map Int.toNat) := by
  induction l with
  | nil => rfl
  | cons x l ih =>
    have h1 := u8_wf (h x (by simp))
    rw [List.flatMap_cons, ih fun y hy => h y (by simp [hy])]
    simp only [Ty.cells, u8s, List.map_cons, List.singleton_append]
    rw [Int.toNat_of_nonneg h1.1]
abbrev ty5 : Ty := .arr 5 (.int .u8)
theorem to_in {w : tyTo.D} (h : tyTo.wf w) : ∃ l : List Nat, l.length = 25 ∧ (∀ x ∈ l, x < 256) ∧ tyTo.cells w = u8s l := by
  obtain ⟨h1, h2⟩ := h
  have key : ∀ l : List (List Int), (∀ x ∈ l, ty5.wf x) → ∃ r : List Nat, r.length = l.length * 5 ∧ (∀ x ∈ r, x < 256) ∧ l.flatMap ty5.cells = u8s r := by
    intro l
    induction l with
    | nil => intro _; exact ⟨[], rfl, (fun x hx => by cases hx), rfl⟩
    | cons a l ih =>
      intro hl
      obtain ⟨r, g1, g2, g3⟩ := ih fun y hy => hl y (by simp [hy])
      obtain ⟨a1, a2⟩ := hl a (by simp)
      refine ⟨(show List Int from a).map Int.toNat ++ r, ?_, ?_, ?_⟩
      · rw [List.length_append, List.length_map, a1, g1, List.length_cons, Nat.succ_mul]; omega
      · intro x hx
        rcases List.mem_append.1 hx with hx | hx
        · obtain ⟨y, hy, rfl⟩ := List.mem_map.1 hx
          have := u8_wf (a2 y hy)
          omega
        · exact g2 x hx
      · rw [List.flatMap_cons, g3]
        have : ty5.cells a = u8s ((show List Int from a).map Int.toNat) := u8s_in a2
        rw [this]
        simp [u8s]
  obtain ⟨r, g1, g2, g3⟩ := key w h2
  exact ⟨r, by rw [g1, h1], g2, g3⟩
theorem tsk_in {d : tyTask.D} (h : tyTask.wf d) : ∃ t : Tsk, TOk t ∧ tyTask.val d = tskV t := by
  obtain ⟨a, ⟨b, c, w, u1⟩, f, g, u2⟩ := d
  obtain ⟨h1, ⟨h2, h3, h4, _⟩, h5, h6, _⟩ := h
  dsimp only at h1 h2 h3 h4 h5 h6
  obtain ⟨T, t1, t2, t3⟩ := to_in h4
  have e1 := u8_wf h1
  have e2 := u8_wf h2
  have e3 := u8_wf h3
  have e5 := u32_wf h5
  have e6 := u8_wf h6
  refine ⟨⟨a.toNat, b.toNat, c.toNat, T, f.toNat, g.toNat⟩, ⟨by dsimp only; omega, by dsimp only; omega, by dsimp only; omega, t1, t2, by dsimp only; omega, by dsimp only; omega⟩, ?_⟩
  show AV.agg _ = _
  congr 1
  simp only [Ty.cells] at t3 ⊢
  rw [t3, Int.toNat_of_nonneg e1.1, Int.toNat_of_nonneg e2.1, Int.toNat_of_nonneg e3.1, Int.toNat_of_nonneg e5.1, Int.toNat_of_nonneg e6.1]
  simp only [List.singleton_append, List.append_nil, List.cons_append, List.nil_append]
end Go.AM.SE
namespace Go.AM.SE
open Go.Proofs Go.AM.SD
end Go.AM.SE
namespace Go.AM.SE
open Go.Proofs Go.AM.SD
set_option maxRecDepth 100000
set_option linter.unusedSimpArgs false
set_option linter.unusedVariables false
end Go.AM.SE
namespace Go.AM.SE
open Go.Proofs Go.AM.SD
set_option maxRecDepth 100000
set_option linter.unusedSimpArgs false
set_option linter.unusedVariables false
end Go.AM.SE
namespace Go.AM.SE
open Go.Proofs Go.AM.SD
set_option maxRecDepth 100000
set_option linter.unusedSimpArgs false
set_option linter.unusedVariables false
end Go.AM.SE
