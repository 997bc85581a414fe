/- Contracts for nets: Bounds and Excludes. Conditions: none of ours. -/
import Derived.Test.YteaeobmbfhaklaaAmNm
namespace Go.AM.SN
open Go.Proofs
set_option maxRecDepth 100000
set_option linter.unusedSimpArgs false
set_option linter.unusedVariables false
-- NA: noRef_net, noRef_sli, noRef_lsts, noRef_arcs, noRef_tns
-- NR: noRefs_ints, noRefs_lsts, noRefs_pad, noRefs_tnC, noRefs_arcC, noRefs_rowF

/-! ### rows that are written in place -/
def rowF (n : Nat) (f : Nat → Int) : List AV := ints ((List.range n).map f)
theorem rowF_len (n : Nat) (f : Nat → Int) : (rowF n f).length = n := by simp [rowF, ints]
theorem noRefs_rowF (n : Nat) (f : Nat → Int) : noRefs (rowF n f) = true := noRefs_ints _
theorem rowF_get {n i : Nat} (f : Nat → Int) (h : i < n) : (rowF n f)[i]? = some (.int .i64 (f i)) := by simp [rowF, ints, List.getElem?_range h]
theorem rowF_set {n i : Nat} (f : Nat → Int) (v : Int) : (rowF n f).set i (.int .i64 v) = rowF n (fun j => if j = i then v else f j) := by
  refine List.ext_getElem? fun j => ?_
  simp only [rowF, ints, List.getElem?_set, List.length_map, List.length_range, List.getElem?_map]
  by_cases hj : i = j
  · subst hj
    by_cases hi : i < n
    · simp [hi, List.getElem?_range hi]
    · simp [hi]
  · rw [if_neg hj]
    have : ¬ j = i := fun e => hj e.symm
    by_cases hi : j < n
    · simp [List.getElem?_range hi, this]
    · simp [List.getElem?_eq_none (show (List.range n).length ≤ j by simp; omega)]
theorem rowF_congr {n : Nat} {f g : Nat → Int} (h : ∀ i, i < n → f i = g i) : rowF n f = rowF n g := by
  unfold rowF
  congr 1
  exact List.map_congr_left fun i hi => h i (by simpa using hi)
theorem rowF_zero (n : Nat) : (List.replicate n [AV.int .i64 0]).flatten = rowF n (fun _ => 0) := by
  induction n with
  | zero => rfl
  | succ n ih => rw [List.replicate_succ, List.flatten_cons, ih, rowF, rowF, List.range_succ_eq_map]; simp [ints]

/-! ### what the lists are, if there is no error -/
theorem chkR_all {x : Nt} : ∀ {l : List (List Int)}, chkR x l = 0 → ∀ w ∈ l, wErr w x.ini.length = 0
  | [], _, w, hw => by cases hw
  | a :: l, h, w, hw => by
    simp only [chkR] at h
    split at h
    · rename_i h0
      rcases List.mem_cons.1 hw with rfl | hw
      · unfold chk1 at h0
        split at h0
        · assumption
        · rename_i hn; exact absurd h0 hn
      · exact chkR_all h w hw
    · rename_i h0; exact absurd h h0
theorem rowSum_nonneg : ∀ {a b : List Int}, (∀ x ∈ a, 0 ≤ x) → (∀ x ∈ b, 0 ≤ x) → 0 ≤ rowSum a b
  | [], b, _, _ => by cases b <;> simp [rowSum]
  | x :: a, [], _, _ => by simp [rowSum]
  | x :: a, y :: b, ha, hb => by
    have h1 := rowSum_nonneg (a := a) (b := b) (fun z hz => ha z (by simp [hz])) (fun z hz => hb z (by simp [hz]))
    have h2 := Int.mul_nonneg (ha x (by simp)) (hb y (by simp))
    simp only [rowSum]; omega

def bStep (ini : List Int) (p : Nat) (out : Int) (w : List Int) : Int :=
  if w.getD p 0 = 0 then out else (if out < 0 ∨ (rowSum w ini).tdiv (w.getD p 0) < out then (rowSum w ini).tdiv (w.getD p 0) else out)
def bndR (ini : List Int) (l : List (List Int)) (p : Nat) : Int := l.foldl (bStep ini p) (-1)
theorem bnd_take {ini : List Int} {l : List (List Int)} {p i : Nat} {w : List Int} (h : l[i]? = some w) : bndR ini (l.take (i + 1)) p = bStep ini p (bndR ini (l.take i) p) w := by
  unfold bndR
  rw [List.take_add_one, List.foldl_append, h]; rfl
def bndL (x : Nt) (l : List (List Int)) : List Int := (List.range x.ini.length).map (bndR x.ini l)

set_option maxHeartbeats 8000000 in
theorem bounds (x : Nt) (ho : NetOk x) (l : List (List Int)) (hl : l.length ≤ 1000) (hll : ∀ w ∈ l, w.length ≤ 1000) :
    PSpec Try.prog 23 [netV x, lsts l] (.tup [if chkR x l = 0 then sli (bndL x l) else .nilsl, .int .i64 (chkR x l)]) := by
  refine PSpec.of_rn 64 ok23 rfl (by (try simp only [noRefs, noRef_net, noRef_sli, noRef_lsts, noRef_arcs, noRef_tns]) <;> rfl) (by split <;> simp only [noRef, noRefs, noRefs_ints] <;> rfl) ?_
  have hp := ho.places
  simp (config := { maxSteps := 1000000 }) (disch := first | omega | (simp only [List.length_map, List.length_append, List.length_cons, List.length_nil, ints_len] <;> omega)) only [s23, wordsN, Int.reduceGT, wordsR, ne_eq, words, Nat.reduceAdd, Nat.reduceEqDiff, Nat.reduceBEq, ↓reduceIte, reduceCtorEq, SX.exit.injEq, if_true, if_false, Int.reduceAdd, Int.reduceSub, Int.reduceMul, Int.reduceLT, Int.reduceLE, Int.reduceEq, Int.reduceNe, Int.reduceNeg, Int.reduceToNat, Nat.reduceMul, Nat.reduceLT, Nat.reduceSub, Nat.reduceLeDiff]
  refine cp (chk x ho l hl hll) ?_
  by_cases h0 : chkR x l = 0
  · have hall := chkR_all h0
    have hc : (8 : Int) * (x.ini.length : Int) ≤ 1099511627776 := by omega
    have hc5 : (x.ini.length : Int) ≤ 1099511627776 := by omega
    simp (config := { maxSteps := 1000000 }) (disch := first | omega | (simp only [List.length_map, List.length_append, List.length_cons, List.length_nil, ints_len] <;> omega)) only [h0, hc, hc5, rowF_zero, wordsN, Int.reduceGT, wordsR, ne_eq, words, Nat.reduceAdd, Nat.reduceEqDiff, Nat.reduceBEq, ↓reduceIte, reduceCtorEq, SX.exit.injEq, if_true, if_false, Int.reduceAdd, Int.reduceSub, Int.reduceMul, Int.reduceLT, Int.reduceLE, Int.reduceEq, Int.reduceNe, Int.reduceNeg, Int.reduceToNat, Nat.reduceMul, Nat.reduceLT, Nat.reduceSub, Nat.reduceLeDiff]
    refine wS_loopR 100 (fun p : Nat => [(1, lsts l), (2, .ptr 64 0 0), (7, .sl 76 0 0 x.ini.length 1), (23, .int .i64 x.ini.length), (24, .int .i64 p)])
      (fun p => [(64, .cells 0 [sli x.ini, tns x.tr]), (76, .cells 0 (rowF x.ini.length fun q => if q < p then bndR x.ini l q else 0))]) (fun p => p ≤ x.ini.length) (fun p => x.ini.length - p) 0 ?_ (Nat.zero_le _) ?_
    · refine ⟨[(64, .blk 64 0), (76, .blk 76 0)], rfl, ?_, (by repeat (first | exact RT.nil | (refine RT.cons ?_ ?_; · (first | exact Rn.any | exact Rn.sl (Nat.zero_le _) rfl | exact Rn.ptr (Nat.zero_le _) rfl | exact Rn.map (Nat.zero_le _) rfl | exact Rn.slnil (Nat.zero_le _) rfl | (refine Rn.slot ?_ ?_; (first | rfl | (rw [Int.natCast_add]; rfl)); (first | rfl | (simp only [noRef, noRefs, noRefs_append, Bool.and_self, Bool.and_true, Bool.true_and, noRefs_ints, noRefs_lsts, noRefs_pad, noRefs_tnC, noRefs_arcC, noRefs_rowF]; done)))))))⟩
      refine RB.cells rfl rfl ?_ (RB.cells rfl rfl (RnL.eq (rowF_congr fun i _ => by simp) (noRefs_rowF _ _)) RB.nil)
      repeat' (first | exact RB.nil | (refine RnL.same ?_; first | rfl | (simp only [noRef, noRefs, noRefs_append, Bool.and_self, Bool.and_true, Bool.true_and, noRefs_ints, noRefs_lsts, noRefs_pad, noRefs_tnC, noRefs_arcC, noRefs_rowF]; done)) | exact RnL.nil | refine RnL.cons ?_ ?_ | (refine Rn.same ?_; first | rfl | (simp only [noRef, noRefs, noRefs_append, Bool.and_self, Bool.and_true, Bool.true_and, noRefs_ints, noRefs_lsts, noRefs_pad, noRefs_tnC, noRefs_arcC, noRefs_rowF]; done)) | exact Rn.sl (Nat.zero_le _) rfl | exact Rn.ptr (Nat.zero_le _) rfl | exact Rn.map (Nat.zero_le _) rfl | exact Rn.slnil (Nat.zero_le _) rfl | refine RB.newnil rfl ?_ | refine RB.cells rfl rfl ?_ ?_ | refine RB.map rfl rfl ?_ ?_)
    intro p hpl
    by_cases hlt : p < x.ini.length
    · have hf0 := fun q => rowF_len x.ini.length (fun j => if j = p then q else if j < p then bndR x.ini l j else 0)
      have hf1 := rowF_len x.ini.length (fun j => if j < p then bndR x.ini l j else 0)
      have hle : p + 1 ≤ x.ini.length := hlt
      simp (config := { maxSteps := 1000000 }) (disch := first | omega | (simp only [List.length_map, List.length_append, List.length_cons, List.length_nil, ints_len] <;> omega)) only [hlt, rowF_set, rowF_len, hle, wordsN, Int.reduceGT, wordsR, ne_eq, words, Nat.reduceAdd, Nat.reduceEqDiff, Nat.reduceBEq, ↓reduceIte, reduceCtorEq, SX.exit.injEq, if_true, if_false, Int.reduceAdd, Int.reduceSub, Int.reduceMul, Int.reduceLT, Int.reduceLE, Int.reduceEq, Int.reduceNe, Int.reduceNeg, Int.reduceToNat, Nat.reduceMul, Nat.reduceLT, Nat.reduceSub, Nat.reduceLeDiff]
      refine wS_loopR 200 (fun i : Nat => [(1, lsts l), (2, .ptr 64 0 0), (7, .sl 76 0 0 x.ini.length 1), (23, .int .i64 x.ini.length), (24, .int .i64 p), (8, .int .i64 p), (30, lsts l), (31, .int .i64 l.length), (32, .int .i64 i)])
        (fun i => [(64, .cells 0 [sli x.ini, tns x.tr]), (76, .cells 0 (rowF x.ini.length fun q => if q = p then bndR x.ini (l.take i) p else if q < p then bndR x.ini l q else 0))]) (fun i => i ≤ l.length) (fun i => l.length - i) 0 ⟨[(64, .blk 64 0), (76, .blk 76 0)], rfl, (by repeat' (first | exact RB.nil | (refine RnL.same ?_; first | rfl | (simp only [noRef, noRefs, noRefs_append, Bool.and_self, Bool.and_true, Bool.true_and, noRefs_ints, noRefs_lsts, noRefs_pad, noRefs_tnC, noRefs_arcC, noRefs_rowF]; done)) | exact RnL.nil | refine RnL.cons ?_ ?_ | (refine Rn.same ?_; first | rfl | (simp only [noRef, noRefs, noRefs_append, Bool.and_self, Bool.and_true, Bool.true_and, noRefs_ints, noRefs_lsts, noRefs_pad, noRefs_tnC, noRefs_arcC, noRefs_rowF]; done)) | exact Rn.sl (Nat.zero_le _) rfl | exact Rn.ptr (Nat.zero_le _) rfl | exact Rn.map (Nat.zero_le _) rfl | exact Rn.slnil (Nat.zero_le _) rfl | refine RB.newnil rfl ?_ | refine RB.cells rfl rfl ?_ ?_ | refine RB.map rfl rfl ?_ ?_)), (by repeat (first | exact RT.nil | (refine RT.cons ?_ ?_; · (first | exact Rn.any | exact Rn.sl (Nat.zero_le _) rfl | exact Rn.ptr (Nat.zero_le _) rfl | exact Rn.map (Nat.zero_le _) rfl | exact Rn.slnil (Nat.zero_le _) rfl | (refine Rn.slot ?_ ?_; (first | rfl | (rw [Int.natCast_add]; rfl)); (first | rfl | (simp only [noRef, noRefs, noRefs_append, Bool.and_self, Bool.and_true, Bool.true_and, noRefs_ints, noRefs_lsts, noRefs_pad, noRefs_tnC, noRefs_arcC, noRefs_rowF]; done)))))))⟩ (Nat.zero_le _) ?_
      intro i hi
      by_cases hil : i < l.length
      · obtain ⟨w, hw⟩ := get_ex hil
        obtain ⟨hwl, hwo⟩ := wErr_ok (hall w (List.mem_of_getElem? hw))
        obtain ⟨c, hcc⟩ := get_ex (l := w) (i := p) (by omega)
        have hcD : w.getD p 0 = c := by rw [List.getD_eq_getElem?_getD, hcc]; rfl
        have hco := hwo c (List.mem_of_getElem? hcc)
        have hplw : p < w.length := by omega
        have hg := rowF_get (n := x.ini.length) (fun q => if q = p then bndR x.ini (l.take i) p else if q < p then bndR x.ini l q else 0) hlt
        simp only [if_true] at hg
        have hst := bnd_take (ini := x.ini) (p := p) hw
        have hlen2 := rowF_len x.ini.length (fun q => if q = p then bndR x.ini (l.take i) p else if q < p then bndR x.ini l q else 0)
        unfold bStep at hst
        rw [hcD] at hst
        have fin : ∀ (T : Tmps) (h : Heap), lk T 1 = lsts l → lk T 2 = .ptr 64 0 0 → lk T 7 = .sl 76 0 0 x.ini.length 1 → lk T 23 = .int .i64 x.ini.length → lk T 24 = .int .i64 p → lk T 8 = .int .i64 p → lk T 30 = lsts l → lk T 31 = .int .i64 l.length → lk T 32 = .int .i64 (i + 1 : Nat) →
            h.get 64 = some (.cells 0 [sli x.ini, tns x.tr]) → (∃ f, h.get 76 = some (.cells 0 (rowF x.ini.length f)) ∧ ∀ q, q < x.ini.length → (if q = p then bndR x.ini (l.take (i + 1)) p else if q < p then bndR x.ini l q else 0) = f q) →
            ∃ i', l.length - i' < l.length - i ∧ i' ≤ l.length ∧ Rec 0 [(1, lsts l), (2, .ptr 64 0 0), (7, .sl 76 0 0 x.ini.length 1), (23, .int .i64 x.ini.length), (24, .int .i64 p), (8, .int .i64 p), (30, lsts l), (31, .int .i64 l.length), (32, .int .i64 (i' : Nat))]
              [(64, .cells 0 [sli x.ini, tns x.tr]), (76, .cells 0 (rowF x.ini.length fun q => if q = p then bndR x.ini (l.take i') p else if q < p then bndR x.ini l q else 0))] T h := by
          rintro T h t1 t2 t7 t23 t24 t8 t30 t31 t32 g64 ⟨f, g76, hf⟩
          refine ⟨i + 1, by omega, by omega, [(64, .blk 64 0), (76, .blk 76 0)], rfl, RB.cells rfl g64 ?_ (RB.cells rfl g76 (RnL.eq (rowF_congr hf) (noRefs_rowF _ _)) RB.nil), ?_⟩
          · repeat' (first | exact RB.nil | (refine RnL.same ?_; first | rfl | (simp only [noRef, noRefs, noRefs_append, Bool.and_self, Bool.and_true, Bool.true_and, noRefs_ints, noRefs_lsts, noRefs_pad, noRefs_tnC, noRefs_arcC, noRefs_rowF]; done)) | exact RnL.nil | refine RnL.cons ?_ ?_ | (refine Rn.same ?_; first | rfl | (simp only [noRef, noRefs, noRefs_append, Bool.and_self, Bool.and_true, Bool.true_and, noRefs_ints, noRefs_lsts, noRefs_pad, noRefs_tnC, noRefs_arcC, noRefs_rowF]; done)) | exact Rn.sl (Nat.zero_le _) rfl | exact Rn.ptr (Nat.zero_le _) rfl | exact Rn.map (Nat.zero_le _) rfl | exact Rn.slnil (Nat.zero_le _) rfl | refine RB.newnil rfl ?_ | refine RB.cells rfl rfl ?_ ?_ | refine RB.map rfl rfl ?_ ?_)
          · refine RT.cons' t1 ?_ (RT.cons' t2 ?_ (RT.cons' t7 ?_ (RT.cons' t23 ?_ (RT.cons' t24 ?_ (RT.cons' t8 ?_ (RT.cons' t30 ?_ (RT.cons' t31 ?_ (RT.cons' t32 ?_ RT.nil)))))))) <;> repeat' (first | exact RB.nil | (refine RnL.same ?_; first | rfl | (simp only [noRef, noRefs, noRefs_append, Bool.and_self, Bool.and_true, Bool.true_and, noRefs_ints, noRefs_lsts, noRefs_pad, noRefs_tnC, noRefs_arcC, noRefs_rowF]; done)) | exact RnL.nil | refine RnL.cons ?_ ?_ | (refine Rn.same ?_; first | rfl | (simp only [noRef, noRefs, noRefs_append, Bool.and_self, Bool.and_true, Bool.true_and, noRefs_ints, noRefs_lsts, noRefs_pad, noRefs_tnC, noRefs_arcC, noRefs_rowF]; done)) | exact Rn.sl (Nat.zero_le _) rfl | exact Rn.ptr (Nat.zero_le _) rfl | exact Rn.map (Nat.zero_le _) rfl | exact Rn.slnil (Nat.zero_le _) rfl | refine RB.newnil rfl ?_ | refine RB.cells rfl rfl ?_ ?_ | refine RB.map rfl rfl ?_ ?_)
        by_cases hc0 : c = 0
        · rw [if_pos hc0] at hst
          simp (config := { maxSteps := 1000000 }) (disch := first | omega | (simp only [List.length_map, List.length_append, List.length_cons, List.length_nil, ints_len] <;> omega)) only [hil, hlt, hplw, head_lsts hw, head_ints hcc, hc0, wordsN, Int.reduceGT, wordsR, ne_eq, words, Nat.reduceAdd, Nat.reduceEqDiff, Nat.reduceBEq, ↓reduceIte, reduceCtorEq, SX.exit.injEq, if_true, if_false, Int.reduceAdd, Int.reduceSub, Int.reduceMul, Int.reduceLT, Int.reduceLE, Int.reduceEq, Int.reduceNe, Int.reduceNeg, Int.reduceToNat, Nat.reduceMul, Nat.reduceLT, Nat.reduceSub, Nat.reduceLeDiff]
          refine fin _ _ rfl rfl rfl rfl rfl rfl rfl rfl rfl rfl ⟨_, rfl, fun q _ => ?_⟩
          rw [hst]
        · rw [if_neg hc0] at hst
          have hini : ∀ y ∈ x.ini, sm y := fun y hy => by have := ho.tokens y hy; unfold okT at this; unfold sm; omega
          have hws : ∀ y ∈ w, sm y := fun y hy => by have := hwo y hy; unfold okT at this; unfold sm; omega
          have hrb := rowSum_bound hws hini
          have hrn := rowSum_nonneg (a := w) (b := x.ini) (fun y hy => (hwo y hy).1) (fun y hy => (ho.tokens y hy).1)
          have hq1 := Int.tdiv_nonneg hrn hco.1
          have hq2 := Int.tdiv_le_self c hrn
          generalize hqq : (rowSum w x.ini).tdiv c = Q at hst hq1 hq2
          by_cases ho1 : bndR x.ini (l.take i) p < 0
          · rw [if_pos (.inl ho1)] at hst
            simp (config := { maxSteps := 1000000 }) (disch := first | omega | (simp only [List.length_map, List.length_append, List.length_cons, List.length_nil, ints_len] <;> omega)) only [hil, hlt, hplw, head_lsts hw, head_ints hcc, hc0, hg, wordsN, Int.reduceGT, wordsR, ne_eq, words, Nat.reduceAdd, Nat.reduceEqDiff, Nat.reduceBEq, ↓reduceIte, reduceCtorEq, SX.exit.injEq, if_true, if_false, Int.reduceAdd, Int.reduceSub, Int.reduceMul, Int.reduceLT, Int.reduceLE, Int.reduceEq, Int.reduceNe, Int.reduceNeg, Int.reduceToNat, Nat.reduceMul, Nat.reduceLT, Nat.reduceSub, Nat.reduceLeDiff]
            refine cp (valueP w x.ini (by omega) (by omega) hws hini) ?_
            simp (config := { maxSteps := 1000000 }) (disch := first | omega | (simp only [List.length_map, List.length_append, List.length_cons, List.length_nil, ints_len] <;> omega)) only [hil, hlt, hplw, head_lsts hw, head_ints hcc, hc0, hg, hqq, ho1, rowF_set, rowF_len, hle, wordsN, Int.reduceGT, wordsR, ne_eq, words, Nat.reduceAdd, Nat.reduceEqDiff, Nat.reduceBEq, ↓reduceIte, reduceCtorEq, SX.exit.injEq, if_true, if_false, Int.reduceAdd, Int.reduceSub, Int.reduceMul, Int.reduceLT, Int.reduceLE, Int.reduceEq, Int.reduceNe, Int.reduceNeg, Int.reduceToNat, Nat.reduceMul, Nat.reduceLT, Nat.reduceSub, Nat.reduceLeDiff]
            refine fin _ _ rfl rfl rfl rfl rfl rfl rfl rfl rfl rfl ⟨_, rfl, fun q _ => ?_⟩
            rw [hst]; by_cases e : q = p <;> simp [e]
          · by_cases ho2 : Q < bndR x.ini (l.take i) p
            · rw [if_pos (.inr ho2)] at hst
              simp (config := { maxSteps := 1000000 }) (disch := first | omega | (simp only [List.length_map, List.length_append, List.length_cons, List.length_nil, ints_len] <;> omega)) only [hil, hlt, hplw, head_lsts hw, head_ints hcc, hc0, hg, wordsN, Int.reduceGT, wordsR, ne_eq, words, Nat.reduceAdd, Nat.reduceEqDiff, Nat.reduceBEq, ↓reduceIte, reduceCtorEq, SX.exit.injEq, if_true, if_false, Int.reduceAdd, Int.reduceSub, Int.reduceMul, Int.reduceLT, Int.reduceLE, Int.reduceEq, Int.reduceNe, Int.reduceNeg, Int.reduceToNat, Nat.reduceMul, Nat.reduceLT, Nat.reduceSub, Nat.reduceLeDiff]
              refine cp (valueP w x.ini (by omega) (by omega) hws hini) ?_
              simp (config := { maxSteps := 1000000 }) (disch := first | omega | (simp only [List.length_map, List.length_append, List.length_cons, List.length_nil, ints_len] <;> omega)) only [hil, hlt, hplw, head_lsts hw, head_ints hcc, hc0, hg, hqq, ho1, ho2, rowF_set, rowF_len, hle, wordsN, Int.reduceGT, wordsR, ne_eq, words, Nat.reduceAdd, Nat.reduceEqDiff, Nat.reduceBEq, ↓reduceIte, reduceCtorEq, SX.exit.injEq, if_true, if_false, Int.reduceAdd, Int.reduceSub, Int.reduceMul, Int.reduceLT, Int.reduceLE, Int.reduceEq, Int.reduceNe, Int.reduceNeg, Int.reduceToNat, Nat.reduceMul, Nat.reduceLT, Nat.reduceSub, Nat.reduceLeDiff]
              refine fin _ _ rfl rfl rfl rfl rfl rfl rfl rfl rfl rfl ⟨_, rfl, fun q _ => ?_⟩
              rw [hst]; by_cases e : q = p <;> simp [e]
            · rw [if_neg (fun hh => hh.elim ho1 ho2)] at hst
              simp (config := { maxSteps := 1000000 }) (disch := first | omega | (simp only [List.length_map, List.length_append, List.length_cons, List.length_nil, ints_len] <;> omega)) only [hil, hlt, hplw, head_lsts hw, head_ints hcc, hc0, hg, wordsN, Int.reduceGT, wordsR, ne_eq, words, Nat.reduceAdd, Nat.reduceEqDiff, Nat.reduceBEq, ↓reduceIte, reduceCtorEq, SX.exit.injEq, if_true, if_false, Int.reduceAdd, Int.reduceSub, Int.reduceMul, Int.reduceLT, Int.reduceLE, Int.reduceEq, Int.reduceNe, Int.reduceNeg, Int.reduceToNat, Nat.reduceMul, Nat.reduceLT, Nat.reduceSub, Nat.reduceLeDiff]
              refine cp (valueP w x.ini (by omega) (by omega) hws hini) ?_
              simp (config := { maxSteps := 1000000 }) (disch := first | omega | (simp only [List.length_map, List.length_append, List.length_cons, List.length_nil, ints_len] <;> omega)) only [hil, hlt, hplw, head_lsts hw, head_ints hcc, hc0, hg, hqq, ho1, ho2, rowF_set, rowF_len, hle, wordsN, Int.reduceGT, wordsR, ne_eq, words, Nat.reduceAdd, Nat.reduceEqDiff, Nat.reduceBEq, ↓reduceIte, reduceCtorEq, SX.exit.injEq, if_true, if_false, Int.reduceAdd, Int.reduceSub, Int.reduceMul, Int.reduceLT, Int.reduceLE, Int.reduceEq, Int.reduceNe, Int.reduceNeg, Int.reduceToNat, Nat.reduceMul, Nat.reduceLT, Nat.reduceSub, Nat.reduceLeDiff]
              refine fin _ _ rfl rfl rfl rfl rfl rfl rfl rfl rfl rfl ⟨_, rfl, fun q _ => ?_⟩
              rw [hst]
      · have e : i = l.length := by omega
        simp (config := { maxSteps := 1000000 }) (disch := first | omega | (simp only [List.length_map, List.length_append, List.length_cons, List.length_nil, ints_len] <;> omega)) only [hil, wordsN, Int.reduceGT, wordsR, ne_eq, words, Nat.reduceAdd, Nat.reduceEqDiff, Nat.reduceBEq, ↓reduceIte, reduceCtorEq, SX.exit.injEq, if_true, if_false, Int.reduceAdd, Int.reduceSub, Int.reduceMul, Int.reduceLT, Int.reduceLE, Int.reduceEq, Int.reduceNe, Int.reduceNeg, Int.reduceToNat, Nat.reduceMul, Nat.reduceLT, Nat.reduceSub, Nat.reduceLeDiff]
        refine ⟨p + 1, by omega, by omega, ?_⟩
        refine ⟨[(64, .blk 64 0), (76, .blk 76 0)], rfl, ?_, (by repeat (first | exact RT.nil | (refine RT.cons ?_ ?_; · (first | exact Rn.any | exact Rn.sl (Nat.zero_le _) rfl | exact Rn.ptr (Nat.zero_le _) rfl | exact Rn.map (Nat.zero_le _) rfl | exact Rn.slnil (Nat.zero_le _) rfl | (refine Rn.slot ?_ ?_; (first | rfl | (rw [Int.natCast_add]; rfl)); (first | rfl | (simp only [noRef, noRefs, noRefs_append, Bool.and_self, Bool.and_true, Bool.true_and, noRefs_ints, noRefs_lsts, noRefs_pad, noRefs_tnC, noRefs_arcC, noRefs_rowF]; done)))))))⟩
        refine RB.cells rfl rfl ?_ (RB.cells rfl rfl (RnL.eq (rowF_congr fun q hq => ?_) (noRefs_rowF _ _)) RB.nil)
        · repeat' (first | exact RB.nil | (refine RnL.same ?_; first | rfl | (simp only [noRef, noRefs, noRefs_append, Bool.and_self, Bool.and_true, Bool.true_and, noRefs_ints, noRefs_lsts, noRefs_pad, noRefs_tnC, noRefs_arcC, noRefs_rowF]; done)) | exact RnL.nil | refine RnL.cons ?_ ?_ | (refine Rn.same ?_; first | rfl | (simp only [noRef, noRefs, noRefs_append, Bool.and_self, Bool.and_true, Bool.true_and, noRefs_ints, noRefs_lsts, noRefs_pad, noRefs_tnC, noRefs_arcC, noRefs_rowF]; done)) | exact Rn.sl (Nat.zero_le _) rfl | exact Rn.ptr (Nat.zero_le _) rfl | exact Rn.map (Nat.zero_le _) rfl | exact Rn.slnil (Nat.zero_le _) rfl | refine RB.newnil rfl ?_ | refine RB.cells rfl rfl ?_ ?_ | refine RB.map rfl rfl ?_ ?_)
        · rw [e, List.take_length]
          by_cases c1 : q = p
          · subst c1; simp
          · by_cases c2 : q < p
            · have : q < p + 1 := by omega
              simp [c1, c2, this]
            · have : ¬ q < p + 1 := by omega
              simp [c1, c2, this]
    · have e : p = x.ini.length := by omega
      simp (config := { maxSteps := 1000000 }) (disch := first | omega | (simp only [List.length_map, List.length_append, List.length_cons, List.length_nil, ints_len] <;> omega)) only [hlt, wordsN, Int.reduceGT, wordsR, ne_eq, words, Nat.reduceAdd, Nat.reduceEqDiff, Nat.reduceBEq, ↓reduceIte, reduceCtorEq, SX.exit.injEq, if_true, if_false, Int.reduceAdd, Int.reduceSub, Int.reduceMul, Int.reduceLT, Int.reduceLE, Int.reduceEq, Int.reduceNe, Int.reduceNeg, Int.reduceToNat, Nat.reduceMul, Nat.reduceLT, Nat.reduceSub, Nat.reduceLeDiff]
      refine ⟨.inr trivial, _, rfl, Rn.tup (RnL.cons ?_ (RnL.cons (Rn.same rfl) RnL.nil))⟩
      have hbl : x.ini.length = (bndL x l).length := by simp [bndL]
      refine (show ∀ k, k = (bndL x l).length → Rn 0 π0 _ (sli (bndL x l)) (.sl 76 0 0 k 1) from ?_) _ hbl
      rintro k rfl
      refine Rn.fz0 rfl (by rw [rowF_len, ← hbl]; omega) (RnL.eq ?_ (noRefs_ints _))
      unfold bndL
      exact rowF_congr fun q hq => by rw [if_pos (by omega)]
  · simp (config := { maxSteps := 1000000 }) (disch := first | omega | (simp only [List.length_map, List.length_append, List.length_cons, List.length_nil, ints_len] <;> omega)) only [h0, wordsN, Int.reduceGT, wordsR, ne_eq, words, Nat.reduceAdd, Nat.reduceEqDiff, Nat.reduceBEq, ↓reduceIte, reduceCtorEq, SX.exit.injEq, if_true, if_false, Int.reduceAdd, Int.reduceSub, Int.reduceMul, Int.reduceLT, Int.reduceLE, Int.reduceEq, Int.reduceNe, Int.reduceNeg, Int.reduceToNat, Nat.reduceMul, Nat.reduceLT, Nat.reduceSub, Nat.reduceLeDiff]
    exact ⟨.inr trivial, _, rfl, Rn.same rfl⟩

/-! ### Excludes -/
def exP (x : Nt) (m w : List Int) : Bool := !decide (rowSum w m = rowSum w x.ini)
def exV (x : Nt) (l : List (List Int)) (m : List Int) : AV :=
  if chkR x l = 0 then (if wErr m x.ini.length = 0 then (if l.any (exP x m) = true then .tup [.int .i64 (firstAt (exP x m) l), .bool true, .int .i64 0] else .tup [.int .i64 0, .bool false, .int .i64 0]) else .tup [.int .i64 0, .bool false, .int .i64 (wErr m x.ini.length)])
  else .tup [.int .i64 0, .bool false, .int .i64 (chkR x l)]
theorem noRef_exV (x : Nt) (l : List (List Int)) (m : List Int) : noRef (exV x l m) = true := by
  unfold exV; split <;> (try split) <;> (try split) <;> rfl

set_option maxHeartbeats 8000000 in
theorem excludes (x : Nt) (ho : NetOk x) (l : List (List Int)) (m : List Int) (hl : l.length ≤ 1000) (hll : ∀ w ∈ l, w.length ≤ 1000) (hm : m.length ≤ 1000) :
    PSpec Try.prog 24 [netV x, lsts l, sli m] (exV x l m) := by
  refine PSpec.of_rn 64 ok24 rfl (by (try simp only [noRefs, noRef_net, noRef_sli, noRef_lsts, noRef_arcs, noRef_tns]) <;> rfl) (noRef_exV x l m) ?_
  have hp := ho.places
  unfold exV
  simp (config := { maxSteps := 1000000 }) (disch := first | omega | (simp only [List.length_map, List.length_append, List.length_cons, List.length_nil, ints_len] <;> omega)) only [s24, wordsN, Int.reduceGT, wordsR, ne_eq, words, Nat.reduceAdd, Nat.reduceEqDiff, Nat.reduceBEq, ↓reduceIte, reduceCtorEq, SX.exit.injEq, if_true, if_false, Int.reduceAdd, Int.reduceSub, Int.reduceMul, Int.reduceLT, Int.reduceLE, Int.reduceEq, Int.reduceNe, Int.reduceNeg, Int.reduceToNat, Nat.reduceMul, Nat.reduceLT, Nat.reduceSub, Nat.reduceLeDiff]
  refine cp (chk x ho l hl hll) ?_
  by_cases h0 : chkR x l = 0
  · have hall := chkR_all h0
    simp (config := { maxSteps := 1000000 }) (disch := first | omega | (simp only [List.length_map, List.length_append, List.length_cons, List.length_nil, ints_len] <;> omega)) only [h0, wordsN, Int.reduceGT, wordsR, ne_eq, words, Nat.reduceAdd, Nat.reduceEqDiff, Nat.reduceBEq, ↓reduceIte, reduceCtorEq, SX.exit.injEq, if_true, if_false, Int.reduceAdd, Int.reduceSub, Int.reduceMul, Int.reduceLT, Int.reduceLE, Int.reduceEq, Int.reduceNe, Int.reduceNeg, Int.reduceToNat, Nat.reduceMul, Nat.reduceLT, Nat.reduceSub, Nat.reduceLeDiff]
    refine cp (weighG m x.ini.length (by omega) (by omega)) ?_
    by_cases h1 : wErr m x.ini.length = 0
    · obtain ⟨hml, hmo⟩ := wErr_ok h1
      simp (config := { maxSteps := 1000000 }) (disch := first | omega | (simp only [List.length_map, List.length_append, List.length_cons, List.length_nil, ints_len] <;> omega)) only [h1, wordsN, Int.reduceGT, wordsR, ne_eq, words, Nat.reduceAdd, Nat.reduceEqDiff, Nat.reduceBEq, ↓reduceIte, reduceCtorEq, SX.exit.injEq, if_true, if_false, Int.reduceAdd, Int.reduceSub, Int.reduceMul, Int.reduceLT, Int.reduceLE, Int.reduceEq, Int.reduceNe, Int.reduceNeg, Int.reduceToNat, Nat.reduceMul, Nat.reduceLT, Nat.reduceSub, Nat.reduceLeDiff]
      refine wS_loopR 100 (fun i : Nat => [(2, sli m), (3, .ptr 64 0 0), (27, lsts l), (28, .int .i64 l.length), (29, .int .i64 i)])
        (fun _ => [(64, .cells 0 [sli x.ini, tns x.tr])]) (fun i => i ≤ l.length ∧ ∀ j y, j < i → l[j]? = some y → exP x m y = false) (fun i => l.length - i) 0 ⟨[(64, .blk 64 0)], rfl, (by repeat' (first | exact RB.nil | (refine RnL.same ?_; first | rfl | (simp only [noRef, noRefs, noRefs_append, Bool.and_self, Bool.and_true, Bool.true_and, noRefs_ints, noRefs_lsts, noRefs_pad, noRefs_tnC, noRefs_arcC, noRefs_rowF]; done)) | exact RnL.nil | refine RnL.cons ?_ ?_ | (refine Rn.same ?_; first | rfl | (simp only [noRef, noRefs, noRefs_append, Bool.and_self, Bool.and_true, Bool.true_and, noRefs_ints, noRefs_lsts, noRefs_pad, noRefs_tnC, noRefs_arcC, noRefs_rowF]; done)) | exact Rn.sl (Nat.zero_le _) rfl | exact Rn.ptr (Nat.zero_le _) rfl | exact Rn.map (Nat.zero_le _) rfl | exact Rn.slnil (Nat.zero_le _) rfl | refine RB.newnil rfl ?_ | refine RB.cells rfl rfl ?_ ?_ | refine RB.map rfl rfl ?_ ?_)), (by repeat (first | exact RT.nil | (refine RT.cons ?_ ?_; · (first | exact Rn.any | exact Rn.sl (Nat.zero_le _) rfl | exact Rn.ptr (Nat.zero_le _) rfl | exact Rn.map (Nat.zero_le _) rfl | exact Rn.slnil (Nat.zero_le _) rfl | (refine Rn.slot ?_ ?_; (first | rfl | (rw [Int.natCast_add]; rfl)); (first | rfl | (simp only [noRef, noRefs, noRefs_append, Bool.and_self, Bool.and_true, Bool.true_and, noRefs_ints, noRefs_lsts, noRefs_pad, noRefs_tnC, noRefs_arcC, noRefs_rowF]; done)))))))⟩ ⟨Nat.zero_le _, fun j y hj => absurd hj (Nat.not_lt_zero _)⟩ ?_
      rintro i ⟨hi, hb⟩
      by_cases hil : i < l.length
      · obtain ⟨w, hw⟩ := get_ex hil
        obtain ⟨hwl, hwo⟩ := wErr_ok (hall w (List.mem_of_getElem? hw))
        have hini : ∀ y ∈ x.ini, sm y := fun y hy => by have := ho.tokens y hy; unfold okT at this; unfold sm; omega
        have hws : ∀ y ∈ w, sm y := fun y hy => by have := hwo y hy; unfold okT at this; unfold sm; omega
        have hms : ∀ y ∈ m, sm y := fun y hy => by have := hmo y hy; unfold okT at this; unfold sm; omega
        simp (config := { maxSteps := 1000000 }) (disch := first | omega | (simp only [List.length_map, List.length_append, List.length_cons, List.length_nil, ints_len] <;> omega)) only [hil, head_lsts hw, wordsN, Int.reduceGT, wordsR, ne_eq, words, Nat.reduceAdd, Nat.reduceEqDiff, Nat.reduceBEq, ↓reduceIte, reduceCtorEq, SX.exit.injEq, if_true, if_false, Int.reduceAdd, Int.reduceSub, Int.reduceMul, Int.reduceLT, Int.reduceLE, Int.reduceEq, Int.reduceNe, Int.reduceNeg, Int.reduceToNat, Nat.reduceMul, Nat.reduceLT, Nat.reduceSub, Nat.reduceLeDiff]
        refine cp (valueP w m (by omega) (by omega) hws hms) ?_
        simp (config := { maxSteps := 1000000 }) (disch := first | omega | (simp only [List.length_map, List.length_append, List.length_cons, List.length_nil, ints_len] <;> omega)) only [wordsN, Int.reduceGT, wordsR, ne_eq, words, Nat.reduceAdd, Nat.reduceEqDiff, Nat.reduceBEq, ↓reduceIte, reduceCtorEq, SX.exit.injEq, if_true, if_false, Int.reduceAdd, Int.reduceSub, Int.reduceMul, Int.reduceLT, Int.reduceLE, Int.reduceEq, Int.reduceNe, Int.reduceNeg, Int.reduceToNat, Nat.reduceMul, Nat.reduceLT, Nat.reduceSub, Nat.reduceLeDiff]
        refine cp (valueP w x.ini (by omega) (by omega) hws hini) ?_
        by_cases hv : rowSum w m = rowSum w x.ini
        · simp (config := { maxSteps := 1000000 }) (disch := first | omega | (simp only [List.length_map, List.length_append, List.length_cons, List.length_nil, ints_len] <;> omega)) only [hv, wordsN, Int.reduceGT, wordsR, ne_eq, words, Nat.reduceAdd, Nat.reduceEqDiff, Nat.reduceBEq, ↓reduceIte, reduceCtorEq, SX.exit.injEq, if_true, if_false, Int.reduceAdd, Int.reduceSub, Int.reduceMul, Int.reduceLT, Int.reduceLE, Int.reduceEq, Int.reduceNe, Int.reduceNeg, Int.reduceToNat, Nat.reduceMul, Nat.reduceLT, Nat.reduceSub, Nat.reduceLeDiff]
          refine ⟨i + 1, by omega, ⟨by omega, fun j y hj hy => ?_⟩, ⟨[(64, .blk 64 0)], rfl, (by repeat' (first | exact RB.nil | (refine RnL.same ?_; first | rfl | (simp only [noRef, noRefs, noRefs_append, Bool.and_self, Bool.and_true, Bool.true_and, noRefs_ints, noRefs_lsts, noRefs_pad, noRefs_tnC, noRefs_arcC, noRefs_rowF]; done)) | exact RnL.nil | refine RnL.cons ?_ ?_ | (refine Rn.same ?_; first | rfl | (simp only [noRef, noRefs, noRefs_append, Bool.and_self, Bool.and_true, Bool.true_and, noRefs_ints, noRefs_lsts, noRefs_pad, noRefs_tnC, noRefs_arcC, noRefs_rowF]; done)) | exact Rn.sl (Nat.zero_le _) rfl | exact Rn.ptr (Nat.zero_le _) rfl | exact Rn.map (Nat.zero_le _) rfl | exact Rn.slnil (Nat.zero_le _) rfl | refine RB.newnil rfl ?_ | refine RB.cells rfl rfl ?_ ?_ | refine RB.map rfl rfl ?_ ?_)), (by repeat (first | exact RT.nil | (refine RT.cons ?_ ?_; · (first | exact Rn.any | exact Rn.sl (Nat.zero_le _) rfl | exact Rn.ptr (Nat.zero_le _) rfl | exact Rn.map (Nat.zero_le _) rfl | exact Rn.slnil (Nat.zero_le _) rfl | (refine Rn.slot ?_ ?_; (first | rfl | (rw [Int.natCast_add]; rfl)); (first | rfl | (simp only [noRef, noRefs, noRefs_append, Bool.and_self, Bool.and_true, Bool.true_and, noRefs_ints, noRefs_lsts, noRefs_pad, noRefs_tnC, noRefs_arcC, noRefs_rowF]; done)))))))⟩⟩
          by_cases e : j = i
          · subst e; rw [hw] at hy; cases hy; simp [exP, hv]
          · exact hb j y (by omega) hy
        · simp (config := { maxSteps := 1000000 }) (disch := first | omega | (simp only [List.length_map, List.length_append, List.length_cons, List.length_nil, ints_len] <;> omega)) only [hv, wordsN, Int.reduceGT, wordsR, ne_eq, words, Nat.reduceAdd, Nat.reduceEqDiff, Nat.reduceBEq, ↓reduceIte, reduceCtorEq, SX.exit.injEq, if_true, if_false, Int.reduceAdd, Int.reduceSub, Int.reduceMul, Int.reduceLT, Int.reduceLE, Int.reduceEq, Int.reduceNe, Int.reduceNeg, Int.reduceToNat, Nat.reduceMul, Nat.reduceLT, Nat.reduceSub, Nat.reduceLeDiff]
          have hpw : exP x m w = true := by simp [exP, hv]
          refine ⟨.inr trivial, _, rfl, ?_⟩
          rw [if_pos (any_of hw hpw), firstAt_found hw hpw hb]
          exact Rn.same rfl
      · simp (config := { maxSteps := 1000000 }) (disch := first | omega | (simp only [List.length_map, List.length_append, List.length_cons, List.length_nil, ints_len] <;> omega)) only [hil, wordsN, Int.reduceGT, wordsR, ne_eq, words, Nat.reduceAdd, Nat.reduceEqDiff, Nat.reduceBEq, ↓reduceIte, reduceCtorEq, SX.exit.injEq, if_true, if_false, Int.reduceAdd, Int.reduceSub, Int.reduceMul, Int.reduceLT, Int.reduceLE, Int.reduceEq, Int.reduceNe, Int.reduceNeg, Int.reduceToNat, Nat.reduceMul, Nat.reduceLT, Nat.reduceSub, Nat.reduceLeDiff]
        refine ⟨.inr trivial, _, rfl, ?_⟩
        rw [any_no fun j y hj hy => hb j y (by omega) hy]
        exact Rn.same rfl
    · simp (config := { maxSteps := 1000000 }) (disch := first | omega | (simp only [List.length_map, List.length_append, List.length_cons, List.length_nil, ints_len] <;> omega)) only [h1, wordsN, Int.reduceGT, wordsR, ne_eq, words, Nat.reduceAdd, Nat.reduceEqDiff, Nat.reduceBEq, ↓reduceIte, reduceCtorEq, SX.exit.injEq, if_true, if_false, Int.reduceAdd, Int.reduceSub, Int.reduceMul, Int.reduceLT, Int.reduceLE, Int.reduceEq, Int.reduceNe, Int.reduceNeg, Int.reduceToNat, Nat.reduceMul, Nat.reduceLT, Nat.reduceSub, Nat.reduceLeDiff]
      exact ⟨.inr trivial, _, rfl, Rn.same rfl⟩
  · simp (config := { maxSteps := 1000000 }) (disch := first | omega | (simp only [List.length_map, List.length_append, List.length_cons, List.length_nil, ints_len] <;> omega)) only [h0, wordsN, Int.reduceGT, wordsR, ne_eq, words, Nat.reduceAdd, Nat.reduceEqDiff, Nat.reduceBEq, ↓reduceIte, reduceCtorEq, SX.exit.injEq, if_true, if_false, Int.reduceAdd, Int.reduceSub, Int.reduceMul, Int.reduceLT, Int.reduceLE, Int.reduceEq, Int.reduceNe, Int.reduceNeg, Int.reduceToNat, Nat.reduceMul, Nat.reduceLT, Nat.reduceSub, Nat.reduceLeDiff]
    exact ⟨.inr trivial, _, rfl, Rn.same rfl⟩
end Go.AM.SN
