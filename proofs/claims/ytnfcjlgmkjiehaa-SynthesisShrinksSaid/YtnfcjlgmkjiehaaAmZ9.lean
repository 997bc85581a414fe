/- A part of the proof of SynthesisShrinksSaid: lemmas on the way (AmEo, AmEp, AmEq). Conditions: none of ours. -/
import Derived.Test.YtnfcjlgmkjiehaaAmZ8
set_option linter.unusedSectionVars false
namespace Go.AM.SE
open Go.Proofs Go.AM.SD
set_option maxRecDepth 100000
set_option linter.unusedSimpArgs false
set_option linter.unusedVariables false
def u8s (l : List Nat) : List AV := l.map fun x : Nat => .int .u8 (x : Int)
theorem noRefs_u8 (l : List Nat) : noRefs (u8s l) = true := noRefs_mapS (fun _ => rfl) l
theorem get_u8 {l : List Nat} {i x : Nat} (h : l[i]? = some x) : (u8s l)[i]? = some (.int .u8 (x : Int)) := by simp [u8s, h]
def gEd (al : List Nat) (n : Nat) (T : List Nat) (i k : Nat) : Option Ed := if T.getD (i * 5 + k) 0 % (n + 2) < n then some (i, al.getD k 0, T.getD (i * 5 + k) 0 % (n + 2)) else none
def gRow (al : List Nat) (n : Nat) (T : List Nat) (i k : Nat) : List Ed := (List.range k).filterMap (gEd al n T i)
def gPre (al : List Nat) (n : Nat) (T : List Nat) (i : Nat) : List Ed := (List.range i).flatMap fun i => gRow al n T i al.length
def gPart (al : List Nat) (n : Nat) (T : List Nat) (i k : Nat) : List Ed := gPre al n T i ++ gRow al n T i k
def gRaw (al : List Nat) (st mk : Nat) (T : List Nat) : Aut := if 250 ≤ st then ⟨al, 0, [], []⟩ else ⟨al, 1 + st % 5, SD.part (1 + st % 5) mk, gPre al (1 + st % 5) T (1 + st % 5)⟩
theorem gRow_mem {al : List Nat} {n : Nat} {T : List Nat} {i k : Nat} {e : Ed} (h : e ∈ gRow al n T i k) : e.1 = i ∧ e.2.2 < n := by
  unfold gRow at h
  obtain ⟨j, _, hj⟩ := List.mem_filterMap.1 h
  unfold gEd at hj
  split at hj
  · rename_i h1; cases hj; exact ⟨rfl, h1⟩
  · cases hj
theorem gRow_succ {al : List Nat} {n : Nat} {T : List Nat} {i k : Nat} : gRow al n T i (k + 1) = gRow al n T i k ++ match gEd al n T i k with | some e => [e] | none => [] := by
  unfold gRow
  rw [List.range_succ, List.filterMap_append]
  congr 1
  cases e : gEd al n T i k <;> simp [e]
theorem gRow_len {al : List Nat} {n : Nat} {T : List Nat} {i k : Nat} : (gRow al n T i k).length ≤ k := by
  unfold gRow; exact Nat.le_trans (List.length_filterMap_le _ _) (by simp)
theorem gPre_len {al : List Nat} {n : Nat} {T : List Nat} (hal : al.length ≤ 5) : ∀ i, (gPre al n T i).length ≤ i * 5
  | 0 => by simp [gPre]
  | i + 1 => by
    have h1 := gPre_len (n := n) (T := T) hal i
    have h2 := @gRow_len al n T i al.length
    unfold gPre at h1 ⊢
    rw [List.range_succ, List.flatMap_append, List.length_append, Nat.succ_mul, List.flatMap_cons, List.flatMap_nil, List.append_nil]
    omega
theorem gPre_succ {al : List Nat} {n : Nat} {T : List Nat} {i : Nat} : gPre al n T (i + 1) = gPart al n T i al.length := by
  unfold gPart gPre
  rw [List.range_succ, List.flatMap_append, List.flatMap_cons, List.flatMap_nil, List.append_nil]
theorem gRaw_raw {al : List Nat} {st mk : Nat} {T : List Nat} (hal : al.length ≤ 5) : Raw (gRaw al st mk T) := by
  unfold gRaw
  split
  · exact ⟨by simp, by simp, by simp, by dsimp only; omega, by simp⟩
  · have h5 : 1 + st % 5 ≤ 5 := by omega
    refine ⟨fun e he => ?_, h5, ?_, by dsimp only; omega, ?_⟩
    · unfold gPre at he
      obtain ⟨i, hi, he⟩ := List.mem_flatMap.1 he
      have := List.mem_range.1 hi
      obtain ⟨h1, h2⟩ := gRow_mem he
      exact ⟨by rw [h1]; exact this, h2⟩
    · have := gPre_len (n := 1 + st % 5) (T := T) hal (1 + st % 5)
      dsimp only; omega
    · have := @part_len (1 + st % 5) mk
      dsimp only; omega
def mkA (al : List Nat) (st mk : Nat) (T : List Nat) : Aut := canon (gRaw al st mk T)
theorem mkA_wf {al : List Nat} {st mk : Nat} {T : List Nat} (hs : al.Pairwise (· < ·)) (h5 : ∀ x ∈ al, x < 5) : WfA (mkA al st mk T) := by
  have hal : al.length ≤ 5 := sorted_len hs h5
  have hr := gRaw_raw (st := st) (mk := mk) (T := T) hal
  have ha : (gRaw al st mk T).al = al := by unfold gRaw; split <;> rfl
  exact canon_wf (by rw [ha]; exact hs) (by rw [ha]; exact h5) hr.n5 hr.esn
abbrev grV (st mk : Nat) (T : List Nat) : AV := .agg (.int .u8 (st : Int) :: .int .u8 (mk : Int) :: u8s T)
theorem _root_.Go.AM.au9 {p : Prop} (h : p := by repeat' (first | exact RB.nil | (refine RnL.same ?_; first | rfl | (simp only [noRef, noRefs, noRefs_append, Bool.and_self, Bool.and_true, Bool.true_and, noRefs_ints, noRefs_u8, noRefs_eg, noRefs_ed, noRefs_rm, noRefs_ls, noRefs_bk, noRefs_bls, noRef_sli, noRef_sliN, noRef_egs, noRef_egsN, noRefs_keysI, noRefs_back, noRefs_rowE]; done)) | exact RnM.keyM rfl | exact RnL.nil | exact (True.intro : RnM _ _ _ [] []) | refine RnL.cons ?_ ?_ | (refine Rn.same ?_; first | rfl | (simp only [noRef, noRefs, noRefs_append, Bool.and_self, Bool.and_true, Bool.true_and, noRefs_ints, noRefs_u8, noRefs_eg, noRefs_ed, noRefs_rm, noRefs_ls, noRefs_bk, noRefs_bls, noRef_sli, noRef_sliN, noRef_egs, noRef_egsN, noRefs_keysI, noRefs_back, noRefs_rowE]; done)) | exact Rn.x1 rfl rfl | exact Rn.x2 rfl rfl | exact Rn.x3 rfl rfl | exact Rn.x4 rfl rfl | exact Rn.x5 rfl | exact Rn.x6 rfl | exact Rn.x7 rfl | refine RB.newnil rfl rfl ?_ | refine RB.cells rfl rfl rfl ?_ ?_ | refine RB.map rfl rfl rfl ?_ ?_ | refine RB.cellsB rfl rfl ?_ ?_ | refine RB.mapB rfl rfl ?_ ?_)) : p := h
theorem _root_.Go.AM.au10 {p : Prop} (h : p := by repeat (first | exact RT.nil | (refine RT.cons ?_ ?_; · (first | exact Rn.any | exact Rn.x1 rfl rfl | exact Rn.x2 rfl rfl | exact Rn.x3 rfl rfl | exact Rn.x4 rfl rfl | exact Rn.x5 rfl | exact Rn.x6 rfl | exact Rn.x7 rfl | (refine Rn.slot ?_ ?_; (first | rfl | (rw [Int.natCast_add]; rfl)); (first | rfl | (simp only [noRef, noRefs, noRefs_append, Bool.and_self, Bool.and_true, Bool.true_and, noRefs_ints, noRefs_u8, noRefs_eg, noRefs_ed, noRefs_rm, noRefs_ls, noRefs_bk, noRefs_bls, noRef_sli, noRef_sliN, noRef_egs, noRef_egsN, noRefs_keysI, noRefs_back, noRefs_rowE]; done))) | (refine Rn.fn ?_ ?_ <;> (repeat' (first | exact RnL.nil | refine RnL.cons ?_ ?_ | exact Rn.same rfl | exact Rn.x6 rfl | exact Rn.x2 rfl rfl | exact Rn.x5 rfl | exact Rn.x1 rfl rfl))))))) : p := h
set_option maxHeartbeats 32000000 in
theorem Make32 (al : List Nat) (st mk : Nat) (T : List Nat) (hs : al.Pairwise (· < ·)) (h5 : ∀ x ∈ al, x < 5) (hst : st < 256) (hmk : mk < 256) (hT : T.length = 25) (hT8 : ∀ x ∈ T, x < 256) :
    PSpec Try.prog 32 [sliN al, grV st mk T] (aV (mkA al st mk T)) := by
  have hal : al.length ≤ 5 := sorted_len hs h5
  have hlu : (u8s T).length = 25 := by simp [u8s, hT]
  have hcan := canon46 (gRaw al st mk T) (gRaw_raw hal)
  refine PSpec.of_rn 40 ok32 rfl (by (try simp only [noRefs, noRefs_u8, noRefs_keysI, noRefs_back, noRefs_ints, noRefs_eg, noRefs_ed, noRefs_rm, noRefs_ls, noRefs_bls, noRef, Bool.and_self, Bool.and_true]) <;> rfl) (noRef_aV _) ?_
  unfold mkA
  by_cases h0 : 250 ≤ st
  · have h0' : (250 : Int) ≤ (st : Int) := by omega
    have hr : gRaw al st mk T = ⟨al, 0, [], []⟩ := if_pos h0
    have hc : canon (gRaw al st mk T) = ⟨al, 0, [], []⟩ := by rw [hr]; rfl
    rw [hc]
    simp (maxSteps := 1000000) (disch := first | omega | exact PairsOK.mk rfl | (simp only [lenW] <;> omega)) only [s32, h0', wordsN, Int.reduceGT, wordsR, ne_eq, wS_regionP, aAppend_slF, aAppend_slN, aSlice_fslH, setL_cons, setL_nil, aMakeMap_new, wordsM, aNil_ptr, aNil_fptr, Int.one_mul, bls_len, ints_len, cells_bl, one_bl, box_bl, List.length_replicate, words, Nat.reduceAdd, Nat.reduceEqDiff, Nat.reduceBEq, ↓reduceIte, reduceCtorEq, SX.exit.injEq, if_true, if_false, Int.reduceAdd, Int.reduceSub, Int.reduceMul, Int.reduceLT, Int.reduceLE, Int.reduceEq, Int.reduceNe, Int.reduceNeg, Int.reduceToNat, Nat.reduceMul, Nat.reduceLT, Nat.reduceSub, Nat.reduceLeDiff]
    refine cp (empty45 al (by omega)) ?_
    simp (maxSteps := 1000000) (disch := first | omega | exact PairsOK.mk rfl | (simp only [lenW] <;> omega)) only [wordsN, Int.reduceGT, wordsR, ne_eq, wS_regionP, aAppend_slF, aAppend_slN, aSlice_fslH, setL_cons, setL_nil, aMakeMap_new, wordsM, aNil_ptr, aNil_fptr, Int.one_mul, bls_len, ints_len, cells_bl, one_bl, box_bl, List.length_replicate, words, Nat.reduceAdd, Nat.reduceEqDiff, Nat.reduceBEq, ↓reduceIte, reduceCtorEq, SX.exit.injEq, if_true, if_false, Int.reduceAdd, Int.reduceSub, Int.reduceMul, Int.reduceLT, Int.reduceLE, Int.reduceEq, Int.reduceNe, Int.reduceNeg, Int.reduceToNat, Nat.reduceMul, Nat.reduceLT, Nat.reduceSub, Nat.reduceLeDiff]
    refine ⟨.inr trivial, _, rfl, ?_⟩
    exact Rn.agg (RnL.cons (Rn.same (noRef_sliN _)) (RnL.cons (Rn.same rfl) (RnL.cons Rn.nilK (RnL.cons Rn.nilK RnL.nil))))
  have h0' : ¬ (250 : Int) ≤ (st : Int) := by omega
  have hr : gRaw al st mk T = ⟨al, 1 + st % 5, SD.part (1 + st % 5) mk, gPre al (1 + st % 5) T (1 + st % 5)⟩ := if_neg h0
  rw [hr] at hcan ⊢
  have hn5 : 1 + st % 5 ≤ 5 := by omega
  obtain ⟨n, hN⟩ : ∃ n, n = 1 + st % 5 := ⟨_, rfl⟩
  rw [← hN] at hr hcan hn5 ⊢
  have hnn : (1 : Int) + ((st % 5 : Nat) : Int) = (n : Int) := by omega
  simp (maxSteps := 1000000) (disch := first | omega | exact PairsOK.mk rfl | (simp only [lenW] <;> omega)) only [s32, h0', wordsN, Int.reduceGT, wordsR, ne_eq, wS_regionP, aAppend_slF, aAppend_slN, aSlice_fslH, setL_cons, setL_nil, aMakeMap_new, wordsM, aNil_ptr, aNil_fptr, Int.one_mul, bls_len, ints_len, cells_bl, one_bl, box_bl, List.length_replicate, words, Nat.reduceAdd, Nat.reduceEqDiff, Nat.reduceBEq, ↓reduceIte, reduceCtorEq, SX.exit.injEq, if_true, if_false, Int.reduceAdd, Int.reduceSub, Int.reduceMul, Int.reduceLT, Int.reduceLE, Int.reduceEq, Int.reduceNe, Int.reduceNeg, Int.reduceToNat, Nat.reduceMul, Nat.reduceLT, Nat.reduceSub, Nat.reduceLeDiff]
  refine cp (empty45 al (by omega)) ?_
  have htm : (st : Int).tmod 5 = ((st % 5 : Nat) : Int) := by
    rw [Int.tmod_eq_emod_of_nonneg (Int.natCast_nonneg _)]; norm_cast
  simp (maxSteps := 1000000) (disch := first | omega | exact PairsOK.mk rfl | (simp only [lenW] <;> omega)) only [htm, hnn, wordsN, Int.reduceGT, wordsR, ne_eq, wS_regionP, aAppend_slF, aAppend_slN, aSlice_fslH, setL_cons, setL_nil, aMakeMap_new, wordsM, aNil_ptr, aNil_fptr, Int.one_mul, bls_len, ints_len, cells_bl, one_bl, box_bl, List.length_replicate, words, Nat.reduceAdd, Nat.reduceEqDiff, Nat.reduceBEq, ↓reduceIte, reduceCtorEq, SX.exit.injEq, if_true, if_false, Int.reduceAdd, Int.reduceSub, Int.reduceMul, Int.reduceLT, Int.reduceLE, Int.reduceEq, Int.reduceNe, Int.reduceNeg, Int.reduceToNat, Nat.reduceMul, Nat.reduceLT, Nat.reduceSub, Nat.reduceLeDiff]
  refine wS_loopX 100 (fun i : Nat => [(0, sliN al), (3, .ptr 50 0 0), (4, .ptr 51 0 0), (5, .ptr 52 0 0), (6, .int .i64 i)])
    (fun i => [(50, .cells 0 (.int .u8 (st : Int) :: .int .u8 (mk : Int) :: u8s T)), (51, .cells 0 [.nilsl, .int .i64 0, .nilsl, .nilsl]), (52, .cells 0 [sliN al, .int .i64 (n : Int), .sl 77 0 0 (SD.part i mk).length 1, .sl 76 0 0 (gPre al n T i).length 3]), (76, .cells 0 ((gPre al n T i).flatMap edC)), (77, .cells 0 (ints (nz (SD.part i mk))))])
    (fun i => i ≤ n) (fun i => n - i) 0 0 160
    (fun _ : Unit => [(4, .ptr 51 0 0), (5, .ptr 52 0 0)])
    (fun _ => [(51, .cells 0 [.nilsl, .int .i64 0, .nilsl, .nilsl]), (52, .cells 0 [sliN al, .int .i64 (n : Int), sliN (SD.part n mk), egsN (gPre al n T n)])]) (fun _ => True) ?_ (Nat.zero_le _) ?_ ?_
  · exact ⟨[(50, .blk 40 0), (51, .blk 41 0), (52, .blk 47 0), (76, .nil), (77, .nil)], rfl, au0, au9, au10⟩
  · rintro i hi
    by_cases hlt : i < n
    · have hpt := part_take (n := n) (b := mk) (i := i)
      have hpl := @part_len i mk
      have hgl := gPre_len (n := n) (T := T) hal i
      have hg0 : gPart al n T i 0 = gPre al n T i := by simp [gPart, gRow]
      have hgs := gPre_succ (al := al) (n := n) (T := T) (i := i)
      have hed0 := ed_len (gPre al n T i)
      generalize hM1 : SD.part (i + 1) mk = M1 at *
      generalize hM : SD.part i mk = M at *
      by_cases hmv : mk.testBit i = true
      · rw [if_pos hmv] at hpt
        have hb := bit_iff.2 hmv
        simp (maxSteps := 1000000) (disch := first | omega | exact PairsOK.mk rfl | (simp only [lenW] <;> omega)) only [hlt, aBin_shrN (k := .u8) (show i ≤ 8 by omega), aBin_and8, hb, wordsN, Int.reduceGT, wordsR, ne_eq, wS_regionP, aAppend_slF, aAppend_slN, aSlice_fslH, setL_cons, setL_nil, aMakeMap_new, wordsM, aNil_ptr, aNil_fptr, Int.one_mul, bls_len, ints_len, cells_bl, one_bl, box_bl, List.length_replicate, words, Nat.reduceAdd, Nat.reduceEqDiff, Nat.reduceBEq, ↓reduceIte, reduceCtorEq, SX.exit.injEq, if_true, if_false, Int.reduceAdd, Int.reduceSub, Int.reduceMul, Int.reduceLT, Int.reduceLE, Int.reduceEq, Int.reduceNe, Int.reduceNeg, Int.reduceToNat, Nat.reduceMul, Nat.reduceLT, Nat.reduceSub, Nat.reduceLeDiff]
        refine wS_loopX 300 (fun k : Nat => [(0, sliN al), (3, .ptr 50 0 0), (4, .ptr 51 0 0), (5, .ptr 52 0 0), (6, .int .i64 i), (7, .int .i64 k)])
          (fun k => [(50, .cells 0 (.int .u8 (st : Int) :: .int .u8 (mk : Int) :: u8s T)), (51, .cells 0 [.nilsl, .int .i64 0, .nilsl, .nilsl]), (52, .cells 0 [sliN al, .int .i64 (n : Int), .sl 77 0 0 M1.length 1, .sl 76 0 0 (gPart al n T i k).length 3]), (76, .cells 0 ((gPart al n T i k).flatMap edC)), (77, .cells 0 (ints (nz M1)))])
          (fun k => k ≤ al.length) (fun k => al.length - k) 0 2 400
          (fun _ : Unit => [(0, sliN al), (3, .ptr 50 0 0), (4, .ptr 51 0 0), (5, .ptr 52 0 0), (6, .int .i64 i)])
          (fun _ => [(50, .cells 0 (.int .u8 (st : Int) :: .int .u8 (mk : Int) :: u8s T)), (51, .cells 0 [.nilsl, .int .i64 0, .nilsl, .nilsl]), (52, .cells 0 [sliN al, .int .i64 (n : Int), .sl 77 0 0 M1.length 1, .sl 76 0 0 (gPre al n T (i + 1)).length 3]), (76, .cells 0 ((gPre al n T (i + 1)).flatMap edC)), (77, .cells 0 (ints (nz M1)))]) (fun _ => True) ?_ (Nat.zero_le _) ?_ ?_
        · rw [hg0, hpt, List.length_append, nz_append, ints_append]
          exact ⟨[(50, .blk 50 0), (51, .blk 51 0), (52, .blk 52 0), (76, .blk 76 0), (77, .blk 77 1)], rfl, au0, au9, au10⟩
        · rintro k hk
          by_cases hkl : k < al.length
          · obtain ⟨ev, hev⟩ := get_ex hkl
            have hevD : al.getD k 0 = ev := by rw [List.getD_eq_getElem?_getD, hev]; rfl
            obtain ⟨x, hx⟩ := get_ex (l := T) (i := i * 5 + k) (by omega)
            have hxD : T.getD (i * 5 + k) 0 = x := by rw [List.getD_eq_getElem?_getD, hx]; rfl
            have hx8 := hT8 x (List.mem_of_getElem? hx)
            have hk5 : (k : Int) < 5 := by omega
            have hi5 : (i : Int) < 5 := by omega
            have hgx : (AV.int .u8 (st : Int) :: AV.int .u8 (mk : Int) :: u8s T)[2 + i * 5 + k]? = some (.int .u8 (x : Int)) := by
              rw [show 2 + i * 5 + k = (i * 5 + k) + 2 by omega]
              simpa using get_u8 hx
            have hrm : (x : Int).tmod ((n : Int) + 2) = ((x % (n + 2) : Nat) : Int) := by
              rw [Int.tmod_eq_emod_of_nonneg (Int.natCast_nonneg _)]; norm_cast
            have hn0 : ¬ (n : Int) + 2 = 0 := by omega
            have hxm : x % (n + 2) ≤ 10 := by have := Nat.mod_lt x (show 0 < n + 2 by omega); omega
            have hst := gRow_succ (al := al) (n := n) (T := T) (i := i) (k := k)
            have hrl := @gRow_len al n T i k
            have hps : gPart al n T i (k + 1) = gPart al n T i k ++ match gEd al n T i k with | some e => [e] | none => [] := by
              unfold gPart; rw [hst, List.append_assoc]
            have hpl2 : (gPart al n T i k).length ≤ 100 := by unfold gPart; rw [List.length_append]; omega
            have hpe := ed_len (gPart al n T i k)
            unfold gEd at hps
            rw [hxD, hevD] at hps
            generalize gPart al n T i k = R at *
            by_cases ht : x % (n + 2) < n
            · rw [if_pos ht] at hps
              simp (maxSteps := 1000000) (disch := first | omega | exact PairsOK.mk rfl | (simp only [lenW] <;> omega)) only [hkl, hk5, hi5, hgx, hn0, hrm, ht, head_nz hev, hpe, wordsN, Int.reduceGT, wordsR, ne_eq, wS_regionP, aAppend_slF, aAppend_slN, aSlice_fslH, setL_cons, setL_nil, aMakeMap_new, wordsM, aNil_ptr, aNil_fptr, Int.one_mul, bls_len, ints_len, cells_bl, one_bl, box_bl, List.length_replicate, words, Nat.reduceAdd, Nat.reduceEqDiff, Nat.reduceBEq, ↓reduceIte, reduceCtorEq, SX.exit.injEq, if_true, if_false, Int.reduceAdd, Int.reduceSub, Int.reduceMul, Int.reduceLT, Int.reduceLE, Int.reduceEq, Int.reduceNe, Int.reduceNeg, Int.reduceToNat, Nat.reduceMul, Nat.reduceLT, Nat.reduceSub, Nat.reduceLeDiff]
              refine ⟨k + 1, by omega, by omega, ?_⟩
              rw [hps, List.flatMap_append, List.length_append]
              exact ⟨[(50, .blk 50 0), (51, .blk 51 0), (52, .blk 52 0), (76, .blk 76 1), (77, .blk 77 0)], rfl, au0, au9, au10⟩
            · rw [if_neg ht, List.append_nil] at hps
              simp (maxSteps := 1000000) (disch := first | omega | exact PairsOK.mk rfl | (simp only [lenW] <;> omega)) only [hkl, hk5, hi5, hgx, hn0, hrm, ht, wordsN, Int.reduceGT, wordsR, ne_eq, wS_regionP, aAppend_slF, aAppend_slN, aSlice_fslH, setL_cons, setL_nil, aMakeMap_new, wordsM, aNil_ptr, aNil_fptr, Int.one_mul, bls_len, ints_len, cells_bl, one_bl, box_bl, List.length_replicate, words, Nat.reduceAdd, Nat.reduceEqDiff, Nat.reduceBEq, ↓reduceIte, reduceCtorEq, SX.exit.injEq, if_true, if_false, Int.reduceAdd, Int.reduceSub, Int.reduceMul, Int.reduceLT, Int.reduceLE, Int.reduceEq, Int.reduceNe, Int.reduceNeg, Int.reduceToNat, Nat.reduceMul, Nat.reduceLT, Nat.reduceSub, Nat.reduceLeDiff]
              refine ⟨k + 1, by omega, by omega, ?_⟩
              rw [hps]
              exact ⟨[(50, .blk 50 0), (51, .blk 51 0), (52, .blk 52 0), (76, .blk 76 0), (77, .blk 77 0)], rfl, au0, au9, au10⟩
          · have e : k = al.length := by omega
            subst e
            simp (maxSteps := 1000000) (disch := first | omega | exact PairsOK.mk rfl | (simp only [lenW] <;> omega)) only [hkl, wordsN, Int.reduceGT, wordsR, ne_eq, wS_regionP, aAppend_slF, aAppend_slN, aSlice_fslH, setL_cons, setL_nil, aMakeMap_new, wordsM, aNil_ptr, aNil_fptr, Int.one_mul, bls_len, ints_len, cells_bl, one_bl, box_bl, List.length_replicate, words, Nat.reduceAdd, Nat.reduceEqDiff, Nat.reduceBEq, ↓reduceIte, reduceCtorEq, SX.exit.injEq, if_true, if_false, Int.reduceAdd, Int.reduceSub, Int.reduceMul, Int.reduceLT, Int.reduceLE, Int.reduceEq, Int.reduceNe, Int.reduceNeg, Int.reduceToNat, Nat.reduceMul, Nat.reduceLT, Nat.reduceSub, Nat.reduceLeDiff]
            refine ⟨(), ?_⟩
            rw [hgs]
            exact ⟨[(50, .blk 50 0), (51, .blk 51 0), (52, .blk 52 0), (76, .blk 76 0), (77, .blk 77 0)], rfl, au0, au9, au10⟩
        rintro _ _
        simp (maxSteps := 1000000) (disch := first | omega | exact PairsOK.mk rfl | (simp only [lenW] <;> omega)) only [wordsN, Int.reduceGT, wordsR, ne_eq, wS_regionP, aAppend_slF, aAppend_slN, aSlice_fslH, setL_cons, setL_nil, aMakeMap_new, wordsM, aNil_ptr, aNil_fptr, Int.one_mul, bls_len, ints_len, cells_bl, one_bl, box_bl, List.length_replicate, words, Nat.reduceAdd, Nat.reduceEqDiff, Nat.reduceBEq, ↓reduceIte, reduceCtorEq, SX.exit.injEq, if_true, if_false, Int.reduceAdd, Int.reduceSub, Int.reduceMul, Int.reduceLT, Int.reduceLE, Int.reduceEq, Int.reduceNe, Int.reduceNeg, Int.reduceToNat, Nat.reduceMul, Nat.reduceLT, Nat.reduceSub, Nat.reduceLeDiff]
        refine ⟨i + 1, by omega, by omega, ?_⟩
        rw [hM1]
        exact ⟨[(50, .blk 50 0), (51, .blk 51 0), (52, .blk 52 0), (76, .blk 76 0), (77, .blk 77 0)], rfl, au0, au9, au10⟩
      · rw [if_neg hmv, List.append_nil] at hpt
        have hb : ¬ ((mk / 2 ^ i % 2 : Nat) : Int) = 1 := fun e => hmv (bit_iff.1 e)
        simp (maxSteps := 1000000) (disch := first | omega | exact PairsOK.mk rfl | (simp only [lenW] <;> omega)) only [hlt, aBin_shrN (k := .u8) (show i ≤ 8 by omega), aBin_and8, hb, wordsN, Int.reduceGT, wordsR, ne_eq, wS_regionP, aAppend_slF, aAppend_slN, aSlice_fslH, setL_cons, setL_nil, aMakeMap_new, wordsM, aNil_ptr, aNil_fptr, Int.one_mul, bls_len, ints_len, cells_bl, one_bl, box_bl, List.length_replicate, words, Nat.reduceAdd, Nat.reduceEqDiff, Nat.reduceBEq, ↓reduceIte, reduceCtorEq, SX.exit.injEq, if_true, if_false, Int.reduceAdd, Int.reduceSub, Int.reduceMul, Int.reduceLT, Int.reduceLE, Int.reduceEq, Int.reduceNe, Int.reduceNeg, Int.reduceToNat, Nat.reduceMul, Nat.reduceLT, Nat.reduceSub, Nat.reduceLeDiff]
        refine wS_loopX 300 (fun k : Nat => [(0, sliN al), (3, .ptr 50 0 0), (4, .ptr 51 0 0), (5, .ptr 52 0 0), (6, .int .i64 i), (7, .int .i64 k)])
          (fun k => [(50, .cells 0 (.int .u8 (st : Int) :: .int .u8 (mk : Int) :: u8s T)), (51, .cells 0 [.nilsl, .int .i64 0, .nilsl, .nilsl]), (52, .cells 0 [sliN al, .int .i64 (n : Int), .sl 77 0 0 M1.length 1, .sl 76 0 0 (gPart al n T i k).length 3]), (76, .cells 0 ((gPart al n T i k).flatMap edC)), (77, .cells 0 (ints (nz M1)))])
          (fun k => k ≤ al.length) (fun k => al.length - k) 0 2 400
          (fun _ : Unit => [(0, sliN al), (3, .ptr 50 0 0), (4, .ptr 51 0 0), (5, .ptr 52 0 0), (6, .int .i64 i)])
          (fun _ => [(50, .cells 0 (.int .u8 (st : Int) :: .int .u8 (mk : Int) :: u8s T)), (51, .cells 0 [.nilsl, .int .i64 0, .nilsl, .nilsl]), (52, .cells 0 [sliN al, .int .i64 (n : Int), .sl 77 0 0 M1.length 1, .sl 76 0 0 (gPre al n T (i + 1)).length 3]), (76, .cells 0 ((gPre al n T (i + 1)).flatMap edC)), (77, .cells 0 (ints (nz M1)))]) (fun _ => True) ?_ (Nat.zero_le _) ?_ ?_
        · rw [hg0, hpt]
          exact ⟨[(50, .blk 50 0), (51, .blk 51 0), (52, .blk 52 0), (76, .blk 76 0), (77, .blk 77 0)], rfl, au0, au9, au10⟩
        · rintro k hk
          by_cases hkl : k < al.length
          · obtain ⟨ev, hev⟩ := get_ex hkl
            have hevD : al.getD k 0 = ev := by rw [List.getD_eq_getElem?_getD, hev]; rfl
            obtain ⟨x, hx⟩ := get_ex (l := T) (i := i * 5 + k) (by omega)
            have hxD : T.getD (i * 5 + k) 0 = x := by rw [List.getD_eq_getElem?_getD, hx]; rfl
            have hx8 := hT8 x (List.mem_of_getElem? hx)
            have hk5 : (k : Int) < 5 := by omega
            have hi5 : (i : Int) < 5 := by omega
            have hgx : (AV.int .u8 (st : Int) :: AV.int .u8 (mk : Int) :: u8s T)[2 + i * 5 + k]? = some (.int .u8 (x : Int)) := by
              rw [show 2 + i * 5 + k = (i * 5 + k) + 2 by omega]
              simpa using get_u8 hx
            have hrm : (x : Int).tmod ((n : Int) + 2) = ((x % (n + 2) : Nat) : Int) := by
              rw [Int.tmod_eq_emod_of_nonneg (Int.natCast_nonneg _)]; norm_cast
            have hn0 : ¬ (n : Int) + 2 = 0 := by omega
            have hxm : x % (n + 2) ≤ 10 := by have := Nat.mod_lt x (show 0 < n + 2 by omega); omega
            have hst := gRow_succ (al := al) (n := n) (T := T) (i := i) (k := k)
            have hrl := @gRow_len al n T i k
            have hps : gPart al n T i (k + 1) = gPart al n T i k ++ match gEd al n T i k with | some e => [e] | none => [] := by
              unfold gPart; rw [hst, List.append_assoc]
            have hpl2 : (gPart al n T i k).length ≤ 100 := by unfold gPart; rw [List.length_append]; omega
            have hpe := ed_len (gPart al n T i k)
            unfold gEd at hps
            rw [hxD, hevD] at hps
            generalize gPart al n T i k = R at *
            by_cases ht : x % (n + 2) < n
            · rw [if_pos ht] at hps
              simp (maxSteps := 1000000) (disch := first | omega | exact PairsOK.mk rfl | (simp only [lenW] <;> omega)) only [hkl, hk5, hi5, hgx, hn0, hrm, ht, head_nz hev, hpe, wordsN, Int.reduceGT, wordsR, ne_eq, wS_regionP, aAppend_slF, aAppend_slN, aSlice_fslH, setL_cons, setL_nil, aMakeMap_new, wordsM, aNil_ptr, aNil_fptr, Int.one_mul, bls_len, ints_len, cells_bl, one_bl, box_bl, List.length_replicate, words, Nat.reduceAdd, Nat.reduceEqDiff, Nat.reduceBEq, ↓reduceIte, reduceCtorEq, SX.exit.injEq, if_true, if_false, Int.reduceAdd, Int.reduceSub, Int.reduceMul, Int.reduceLT, Int.reduceLE, Int.reduceEq, Int.reduceNe, Int.reduceNeg, Int.reduceToNat, Nat.reduceMul, Nat.reduceLT, Nat.reduceSub, Nat.reduceLeDiff]
              refine ⟨k + 1, by omega, by omega, ?_⟩
              rw [hps, List.flatMap_append, List.length_append]
              exact ⟨[(50, .blk 50 0), (51, .blk 51 0), (52, .blk 52 0), (76, .blk 76 1), (77, .blk 77 0)], rfl, au0, au9, au10⟩
            · rw [if_neg ht, List.append_nil] at hps
              simp (maxSteps := 1000000) (disch := first | omega | exact PairsOK.mk rfl | (simp only [lenW] <;> omega)) only [hkl, hk5, hi5, hgx, hn0, hrm, ht, wordsN, Int.reduceGT, wordsR, ne_eq, wS_regionP, aAppend_slF, aAppend_slN, aSlice_fslH, setL_cons, setL_nil, aMakeMap_new, wordsM, aNil_ptr, aNil_fptr, Int.one_mul, bls_len, ints_len, cells_bl, one_bl, box_bl, List.length_replicate, words, Nat.reduceAdd, Nat.reduceEqDiff, Nat.reduceBEq, ↓reduceIte, reduceCtorEq, SX.exit.injEq, if_true, if_false, Int.reduceAdd, Int.reduceSub, Int.reduceMul, Int.reduceLT, Int.reduceLE, Int.reduceEq, Int.reduceNe, Int.reduceNeg, Int.reduceToNat, Nat.reduceMul, Nat.reduceLT, Nat.reduceSub, Nat.reduceLeDiff]
              refine ⟨k + 1, by omega, by omega, ?_⟩
              rw [hps]
              exact ⟨[(50, .blk 50 0), (51, .blk 51 0), (52, .blk 52 0), (76, .blk 76 0), (77, .blk 77 0)], rfl, au0, au9, au10⟩
          · have e : k = al.length := by omega
            subst e
            simp (maxSteps := 1000000) (disch := first | omega | exact PairsOK.mk rfl | (simp only [lenW] <;> omega)) only [hkl, wordsN, Int.reduceGT, wordsR, ne_eq, wS_regionP, aAppend_slF, aAppend_slN, aSlice_fslH, setL_cons, setL_nil, aMakeMap_new, wordsM, aNil_ptr, aNil_fptr, Int.one_mul, bls_len, ints_len, cells_bl, one_bl, box_bl, List.length_replicate, words, Nat.reduceAdd, Nat.reduceEqDiff, Nat.reduceBEq, ↓reduceIte, reduceCtorEq, SX.exit.injEq, if_true, if_false, Int.reduceAdd, Int.reduceSub, Int.reduceMul, Int.reduceLT, Int.reduceLE, Int.reduceEq, Int.reduceNe, Int.reduceNeg, Int.reduceToNat, Nat.reduceMul, Nat.reduceLT, Nat.reduceSub, Nat.reduceLeDiff]
            refine ⟨(), ?_⟩
            rw [hgs]
            exact ⟨[(50, .blk 50 0), (51, .blk 51 0), (52, .blk 52 0), (76, .blk 76 0), (77, .blk 77 0)], rfl, au0, au9, au10⟩
        rintro _ _
        simp (maxSteps := 1000000) (disch := first | omega | exact PairsOK.mk rfl | (simp only [lenW] <;> omega)) only [wordsN, Int.reduceGT, wordsR, ne_eq, wS_regionP, aAppend_slF, aAppend_slN, aSlice_fslH, setL_cons, setL_nil, aMakeMap_new, wordsM, aNil_ptr, aNil_fptr, Int.one_mul, bls_len, ints_len, cells_bl, one_bl, box_bl, List.length_replicate, words, Nat.reduceAdd, Nat.reduceEqDiff, Nat.reduceBEq, ↓reduceIte, reduceCtorEq, SX.exit.injEq, if_true, if_false, Int.reduceAdd, Int.reduceSub, Int.reduceMul, Int.reduceLT, Int.reduceLE, Int.reduceEq, Int.reduceNe, Int.reduceNeg, Int.reduceToNat, Nat.reduceMul, Nat.reduceLT, Nat.reduceSub, Nat.reduceLeDiff]
        refine ⟨i + 1, by omega, by omega, ?_⟩
        rw [hM1]
        exact ⟨[(50, .blk 50 0), (51, .blk 51 0), (52, .blk 52 0), (76, .blk 76 0), (77, .blk 77 0)], rfl, au0, au9, au10⟩
    · have e : i = n := by omega
      subst e
      simp (maxSteps := 1000000) (disch := first | omega | exact PairsOK.mk rfl | (simp only [lenW] <;> omega)) only [hlt, wordsN, Int.reduceGT, wordsR, ne_eq, wS_regionP, aAppend_slF, aAppend_slN, aSlice_fslH, setL_cons, setL_nil, aMakeMap_new, wordsM, aNil_ptr, aNil_fptr, Int.one_mul, bls_len, ints_len, cells_bl, one_bl, box_bl, List.length_replicate, words, Nat.reduceAdd, Nat.reduceEqDiff, Nat.reduceBEq, ↓reduceIte, reduceCtorEq, SX.exit.injEq, if_true, if_false, Int.reduceAdd, Int.reduceSub, Int.reduceMul, Int.reduceLT, Int.reduceLE, Int.reduceEq, Int.reduceNe, Int.reduceNeg, Int.reduceToNat, Nat.reduceMul, Nat.reduceLT, Nat.reduceSub, Nat.reduceLeDiff]
      refine ⟨(), [(51, .blk 51 0), (52, .blk 52 0)], rfl, RO.zero, ?_, au10⟩
      refine RB.cells rfl rfl rfl (RnL.same rfl) (RB.cells rfl rfl rfl (RnL.cons (Rn.same (noRef_sliN _)) (RnL.cons (Rn.same rfl) (RnL.cons (Rn.fzm rfl rfl rfl rfl (by simp [ints]) (RnL.same (noRefs_ints _))) (RnL.cons (Rn.fzm rfl rfl rfl rfl (ed_len _) (RnL.same (noRefs_ed _))) RnL.nil)))) RB.nil)
  rintro _ _
  simp (maxSteps := 1000000) (disch := first | omega | exact PairsOK.mk rfl | (simp only [lenW] <;> omega)) only [wordsN, Int.reduceGT, wordsR, ne_eq, wS_regionP, aAppend_slF, aAppend_slN, aSlice_fslH, setL_cons, setL_nil, aMakeMap_new, wordsM, aNil_ptr, aNil_fptr, Int.one_mul, bls_len, ints_len, cells_bl, one_bl, box_bl, List.length_replicate, words, Nat.reduceAdd, Nat.reduceEqDiff, Nat.reduceBEq, ↓reduceIte, reduceCtorEq, SX.exit.injEq, if_true, if_false, Int.reduceAdd, Int.reduceSub, Int.reduceMul, Int.reduceLT, Int.reduceLE, Int.reduceEq, Int.reduceNe, Int.reduceNeg, Int.reduceToNat, Nat.reduceMul, Nat.reduceLT, Nat.reduceSub, Nat.reduceLeDiff]
  refine cp hcan ?_
  generalize canon ⟨al, n, SD.part n mk, gPre al n T n⟩ = C at *
  simp (maxSteps := 1000000) (disch := first | omega | exact PairsOK.mk rfl | (simp only [lenW] <;> omega)) only [wordsN, Int.reduceGT, wordsR, ne_eq, wS_regionP, aAppend_slF, aAppend_slN, aSlice_fslH, setL_cons, setL_nil, aMakeMap_new, wordsM, aNil_ptr, aNil_fptr, Int.one_mul, bls_len, ints_len, cells_bl, one_bl, box_bl, List.length_replicate, words, Nat.reduceAdd, Nat.reduceEqDiff, Nat.reduceBEq, ↓reduceIte, reduceCtorEq, SX.exit.injEq, if_true, if_false, Int.reduceAdd, Int.reduceSub, Int.reduceMul, Int.reduceLT, Int.reduceLE, Int.reduceEq, Int.reduceNe, Int.reduceNeg, Int.reduceToNat, Nat.reduceMul, Nat.reduceLT, Nat.reduceSub, Nat.reduceLeDiff]
  exact ⟨.inr trivial, _, rfl, Rn.same (noRef_aV _)⟩
end Go.AM.SE
namespace Go.AM.SE
open Go.Proofs Go.AM.SD
set_option maxRecDepth 100000
set_option linter.unusedSimpArgs false
set_option linter.unusedVariables false
structure Tsk where
  set : Nat
  st : Nat
  mr : Nat
  T : List Nat
  fb : Nat
  un : Nat
structure TOk (t : Tsk) : Prop where
  set : t.set < 256
  st : t.st < 256
  mr : t.mr < 256
  T : t.T.length = 25
  T8 : ∀ x ∈ t.T, x < 256
  fb : t.fb < 4294967296
  un : t.un < 256
abbrev tskV (t : Tsk) : AV := .agg (.int .u8 (t.set : Int) :: .int .u8 (t.st : Int) :: .int .u8 (t.mr : Int) :: (u8s t.T ++ [.int .u32 (t.fb : Int), .int .u8 (t.un : Int)]))
def tA (t : Tsk) : Aut := mkA (SD.part 5 t.set) t.st t.mr t.T
def tF (t : Tsk) : List Nat := SD.part (tA t).n t.fb
def tU (t : Tsk) : List Nat := SD.part 5 t.un
theorem part_lt {n b : Nat} : ∀ x ∈ SD.part n b, x < n := fun x hx => (mem_part.1 hx).1
theorem tA_wf (t : Tsk) : WfA (tA t) := mkA_wf (part_sorted _ _) part_lt
theorem tA_el (t : Tsk) : (tA t).es.length ≤ 1000000 := by
  have h := tA_wf t
  have hr := gRaw_raw (al := SD.part 5 t.set) (st := t.st) (mk := t.mr) (T := t.T) (@part_len 5 t.set)
  have h1 := cPre_len (gRaw (SD.part 5 t.set) t.st t.mr t.T) (found (gRaw (SD.part 5 t.set) t.st t.mr t.T)) (found (gRaw (SD.part 5 t.set) t.st t.mr t.T)).length
  have h2 : (tA t).es.length = (cPre (gRaw (SD.part 5 t.set) t.st t.mr t.T) (found (gRaw (SD.part 5 t.set) t.st t.mr t.T)) (found (gRaw (SD.part 5 t.set) t.st t.mr t.T)).length).length := rfl
  have h3 : (found (gRaw (SD.part 5 t.set) t.st t.mr t.T)).length ≤ 5 := h.n5
  rw [h2]
  exact Nat.le_trans h1 (Nat.le_trans (Nat.mul_le_mul h3 hr.al) (by decide))
theorem tQ (t : Tsk) : QOk (tA t) (tF t) (tU t) := ⟨part_sorted _ _, part_lt, part_sorted _ _, fun x hx => by have := part_lt x hx; omega⟩
theorem noRef_tsk (t : Tsk) : noRef (tskV t) = true := by
  simp only [noRef, noRefs, noRefs_append, noRefs_u8]; rfl
theorem u8_drop {l : List Nat} {r : List AV} {k : Nat} (h : l.length = k) : (u8s l ++ r).take k = u8s l := by
  have : (u8s l).length = k := by simp [u8s, h]
  rw [List.take_append_of_le_length (by omega), ← this, List.take_length]
set_option maxHeartbeats 16000000 in
theorem open10 (t : Tsk) (h : TOk t) : PSpec Try.prog 10 [tskV t] (.tup [aV (tA t), sliN (tF t), sliN (tU t)]) := by
  have hlu : (u8s t.T).length = 25 := by simp [u8s, h.T]
  have hM := Make32 (SD.part 5 t.set) t.st t.mr t.T (part_sorted _ _) part_lt h.st h.mr h.T h.T8
  have hE := events16 t.set h.set
  have hE2 := events16 t.un h.un
  have hn5 := (tA_wf t).n5
  have hP := part12 (tA t).n t.fb (by omega) h.fb
  have ht := u8_drop (l := t.T) (r := [.int .u32 (t.fb : Int), .int .u8 (t.un : Int)]) h.T
  have g1 : (u8s t.T ++ [AV.int .u32 (t.fb : Int), .int .u8 (t.un : Int)])[25]? = some (.int .u32 (t.fb : Int)) := by rw [List.getElem?_append_right (by omega), hlu]; rfl
  have g2 : (u8s t.T ++ [AV.int .u32 (t.fb : Int), .int .u8 (t.un : Int)])[26]? = some (.int .u8 (t.un : Int)) := by rw [List.getElem?_append_right (by omega), hlu]; rfl
  refine PSpec.of_rn 40 ok10 rfl (by rw [noRefs, noRef_tsk]; rfl) (by simp only [noRef, noRefs, noRefs_ints, noRefs_ed]; rfl) ?_
  simp (maxSteps := 1000000) (disch := first | omega | exact PairsOK.mk rfl | (simp only [lenW] <;> omega)) only [s10, wordsN, Int.reduceGT, wordsR, ne_eq, wS_regionP, aAppend_slF, aAppend_slN, aSlice_fslH, setL_cons, setL_nil, aMakeMap_new, wordsM, aNil_ptr, aNil_fptr, Int.one_mul, bls_len, ints_len, cells_bl, one_bl, box_bl, List.length_replicate, words, Nat.reduceAdd, Nat.reduceEqDiff, Nat.reduceBEq, ↓reduceIte, reduceCtorEq, SX.exit.injEq, if_true, if_false, Int.reduceAdd, Int.reduceSub, Int.reduceMul, Int.reduceLT, Int.reduceLE, Int.reduceEq, Int.reduceNe, Int.reduceNeg, Int.reduceToNat, Nat.reduceMul, Nat.reduceLT, Nat.reduceSub, Nat.reduceLeDiff]
  refine wS_regionH [] rfl (pairs_cons (a := []) (b := [50]) rfl rfl (fun x hx => by cases hx) (pairs_cons (a := []) (b := [50]) rfl rfl (fun x hx => by cases hx) pairs_nil)) ?_
  simp (maxSteps := 1000000) (disch := first | omega | exact PairsOK.mk rfl | (simp only [lenW] <;> omega)) only [wordsN, Int.reduceGT, wordsR, ne_eq, wS_regionP, aAppend_slF, aAppend_slN, aSlice_fslH, setL_cons, setL_nil, aMakeMap_new, wordsM, aNil_ptr, aNil_fptr, Int.one_mul, bls_len, ints_len, cells_bl, one_bl, box_bl, List.length_replicate, words, Nat.reduceAdd, Nat.reduceEqDiff, Nat.reduceBEq, ↓reduceIte, reduceCtorEq, SX.exit.injEq, if_true, if_false, Int.reduceAdd, Int.reduceSub, Int.reduceMul, Int.reduceLT, Int.reduceLE, Int.reduceEq, Int.reduceNe, Int.reduceNeg, Int.reduceToNat, Nat.reduceMul, Nat.reduceLT, Nat.reduceSub, Nat.reduceLeDiff]
  refine cp hE ?_
  simp (maxSteps := 1000000) (disch := first | omega | exact PairsOK.mk rfl | (simp only [lenW] <;> omega)) only [hlu, ht, wordsN, Int.reduceGT, wordsR, ne_eq, wS_regionP, aAppend_slF, aAppend_slN, aSlice_fslH, setL_cons, setL_nil, aMakeMap_new, wordsM, aNil_ptr, aNil_fptr, Int.one_mul, bls_len, ints_len, cells_bl, one_bl, box_bl, List.length_replicate, words, Nat.reduceAdd, Nat.reduceEqDiff, Nat.reduceBEq, ↓reduceIte, reduceCtorEq, SX.exit.injEq, if_true, if_false, Int.reduceAdd, Int.reduceSub, Int.reduceMul, Int.reduceLT, Int.reduceLE, Int.reduceEq, Int.reduceNe, Int.reduceNeg, Int.reduceToNat, Nat.reduceMul, Nat.reduceLT, Nat.reduceSub, Nat.reduceLeDiff]
  refine cp hM ?_
  have hA : mkA (SD.part 5 t.set) t.st t.mr t.T = tA t := rfl
  rw [hA]
  have hF : SD.part (tA t).n t.fb = tF t := rfl
  rw [hF] at hP
  have hU : SD.part 5 t.un = tU t := rfl
  rw [hU] at hE2
  generalize tA t = A at *
  generalize tF t = F at *
  generalize tU t = U at *
  simp (maxSteps := 1000000) (disch := first | omega | exact PairsOK.mk rfl | (simp only [lenW] <;> omega)) only [hlu, g1, g2, wordsN, Int.reduceGT, wordsR, ne_eq, wS_regionP, aAppend_slF, aAppend_slN, aSlice_fslH, setL_cons, setL_nil, aMakeMap_new, wordsM, aNil_ptr, aNil_fptr, Int.one_mul, bls_len, ints_len, cells_bl, one_bl, box_bl, List.length_replicate, words, Nat.reduceAdd, Nat.reduceEqDiff, Nat.reduceBEq, ↓reduceIte, reduceCtorEq, SX.exit.injEq, if_true, if_false, Int.reduceAdd, Int.reduceSub, Int.reduceMul, Int.reduceLT, Int.reduceLE, Int.reduceEq, Int.reduceNe, Int.reduceNeg, Int.reduceToNat, Nat.reduceMul, Nat.reduceLT, Nat.reduceSub, Nat.reduceLeDiff]
  refine ⟨trivial, ?_⟩
  refine cp hP ?_
  simp (maxSteps := 1000000) (disch := first | omega | exact PairsOK.mk rfl | (simp only [lenW] <;> omega)) only [hlu, g1, g2, wordsN, Int.reduceGT, wordsR, ne_eq, wS_regionP, aAppend_slF, aAppend_slN, aSlice_fslH, setL_cons, setL_nil, aMakeMap_new, wordsM, aNil_ptr, aNil_fptr, Int.one_mul, bls_len, ints_len, cells_bl, one_bl, box_bl, List.length_replicate, words, Nat.reduceAdd, Nat.reduceEqDiff, Nat.reduceBEq, ↓reduceIte, reduceCtorEq, SX.exit.injEq, if_true, if_false, Int.reduceAdd, Int.reduceSub, Int.reduceMul, Int.reduceLT, Int.reduceLE, Int.reduceEq, Int.reduceNe, Int.reduceNeg, Int.reduceToNat, Nat.reduceMul, Nat.reduceLT, Nat.reduceSub, Nat.reduceLeDiff]
  refine cp hE2 ?_
  simp (maxSteps := 1000000) (disch := first | omega | exact PairsOK.mk rfl | (simp only [lenW] <;> omega)) only [wordsN, Int.reduceGT, wordsR, ne_eq, wS_regionP, aAppend_slF, aAppend_slN, aSlice_fslH, setL_cons, setL_nil, aMakeMap_new, wordsM, aNil_ptr, aNil_fptr, Int.one_mul, bls_len, ints_len, cells_bl, one_bl, box_bl, List.length_replicate, words, Nat.reduceAdd, Nat.reduceEqDiff, Nat.reduceBEq, ↓reduceIte, reduceCtorEq, SX.exit.injEq, if_true, if_false, Int.reduceAdd, Int.reduceSub, Int.reduceMul, Int.reduceLT, Int.reduceLE, Int.reduceEq, Int.reduceNe, Int.reduceNeg, Int.reduceToNat, Nat.reduceMul, Nat.reduceLT, Nat.reduceSub, Nat.reduceLeDiff]
  refine ⟨.inr trivial, _, rfl, ?_⟩
  exact Rn.same (by simp only [noRef, noRefs, noRefs_ints, noRefs_ed]; rfl)
end Go.AM.SE
namespace Go.AM.SE
open Go.Proofs Go.AM.SD
set_option maxRecDepth 100000
set_option linter.unusedSimpArgs false
set_option linter.unusedVariables false
abbrev tyTo : Ty := .arr 5 (.arr 5 (.int .u8))
abbrev tyGr : Ty := .st (.pair (.int .u8) (.pair (.int .u8) (.pair tyTo .unit)))
abbrev tyTask : Ty := .st (.pair (.int .u8) (.pair tyGr (.pair (.int .u32) (.pair (.int .u8) .unit))))
theorem u8_wf {n : Int} (h : (Lit.int .u8 n).wf = true) : 0 ≤ n ∧ n < 256 := by
  simp [Lit.wf, IntKind.min, IntKind.max, IntKind.signed, IntKind.bits] at h
  omega
theorem u32_wf {n : Int} (h : (Lit.int .u32 n).wf = true) : 0 ≤ n ∧ n < 4294967296 := by
  simp [Lit.wf, IntKind.min, IntKind.max, IntKind.signed, IntKind.bits] at h
  omega
theorem u8s_in {l : List Int} (h : ∀ x ∈ l, (Lit.int .u8 x).wf = true) : l.flatMap (Ty.cells (.int .u8)) = u8s (l.map Int.toNat) := by
  induction l with
  | nil => rfl
  | cons x l ih =>
    have h1 := u8_wf (h x (by simp))
    rw [List.flatMap_cons, ih fun y hy => h y (by simp [hy])]
    simp only [Ty.cells, u8s, List.map_cons, List.singleton_append]
    rw [Int.toNat_of_nonneg h1.1]
abbrev ty5 : Ty := .arr 5 (.int .u8)
theorem to_in {w : tyTo.D} (h : tyTo.wf w) : ∃ l : List Nat, l.length = 25 ∧ (∀ x ∈ l, x < 256) ∧ tyTo.cells w = u8s l := by
  obtain ⟨h1, h2⟩ := h
  have key : ∀ l : List (List Int), (∀ x ∈ l, ty5.wf x) → ∃ r : List Nat, r.length = l.length * 5 ∧ (∀ x ∈ r, x < 256) ∧ l.flatMap ty5.cells = u8s r := by
    intro l
    induction l with
    | nil => intro _; exact ⟨[], rfl, (fun x hx => by cases hx), rfl⟩
    | cons a l ih =>
      intro hl
      obtain ⟨r, g1, g2, g3⟩ := ih fun y hy => hl y (by simp [hy])
      obtain ⟨a1, a2⟩ := hl a (by simp)
      refine ⟨(show List Int from a).map Int.toNat ++ r, ?_, ?_, ?_⟩
      · rw [List.length_append, List.length_map, a1, g1, List.length_cons, Nat.succ_mul]; omega
      · intro x hx
        rcases List.mem_append.1 hx with hx | hx
        · obtain ⟨y, hy, rfl⟩ := List.mem_map.1 hx
          have := u8_wf (a2 y hy)
          omega
        · exact g2 x hx
      · rw [List.flatMap_cons, g3]
        have : ty5.cells a = u8s ((show List Int from a).map Int.toNat) := u8s_in a2
        rw [this]
        simp [u8s]
  obtain ⟨r, g1, g2, g3⟩ := key w h2
  exact ⟨r, by rw [g1, h1], g2, g3⟩
theorem tsk_in {d : tyTask.D} (h : tyTask.wf d) : ∃ t : Tsk, TOk t ∧ tyTask.val d = tskV t := by
  obtain ⟨a, ⟨b, c, w, u1⟩, f, g, u2⟩ := d
  obtain ⟨h1, ⟨h2, h3, h4, _⟩, h5, h6, _⟩ := h
  dsimp only at h1 h2 h3 h4 h5 h6
  obtain ⟨T, t1, t2, t3⟩ := to_in h4
  have e1 := u8_wf h1
  have e2 := u8_wf h2
  have e3 := u8_wf h3
  have e5 := u32_wf h5
  have e6 := u8_wf h6
  refine ⟨⟨a.toNat, b.toNat, c.toNat, T, f.toNat, g.toNat⟩, ⟨by dsimp only; omega, by dsimp only; omega, by dsimp only; omega, t1, t2, by dsimp only; omega, by dsimp only; omega⟩, ?_⟩
  show AV.agg _ = _
  congr 1
  simp only [Ty.cells] at t3 ⊢
  rw [t3, Int.toNat_of_nonneg e1.1, Int.toNat_of_nonneg e2.1, Int.toNat_of_nonneg e3.1, Int.toNat_of_nonneg e5.1, Int.toNat_of_nonneg e6.1]
  simp only [List.singleton_append, List.append_nil, List.cons_append, List.nil_append]
theorem orN (n : Nat) {a b : Nat} (ha : a < 2 ^ n) (hb : b < 2 ^ n) : (BitVec.ofInt n (a : Int) ||| BitVec.ofInt n (b : Int)).toNat = a ||| b := by
  rw [BitVec.toNat_or, BitVec.toNat_ofInt, BitVec.toNat_ofInt]
  have h1 : ((a : Int) % ((2 ^ n : Nat) : Int)).toNat = a := by
    have : ((a : Int) % ((2 ^ n : Nat) : Int)) = ((a % 2 ^ n : Nat) : Int) := by norm_cast
    rw [this, Nat.mod_eq_of_lt ha]; rfl
  have h2 : ((b : Int) % ((2 ^ n : Nat) : Int)).toNat = b := by
    have : ((b : Int) % ((2 ^ n : Nat) : Int)) = ((b % 2 ^ n : Nat) : Int) := by norm_cast
    rw [this, Nat.mod_eq_of_lt hb]; rfl
  rw [h1, h2]
theorem aBin_or8 {a b : Nat} (ha : a < 256) (hb : b < 256) : aBin .or (.int .u8 (a : Int)) (.int .u8 (b : Int)) = some (.int .u8 ((a ||| b : Nat) : Int)) := by
  have h : a ||| b < 2 ^ 8 := Nat.or_lt_two_pow ha hb
  simp only [aBin, if_true]
  rw [show IntKind.u8.bits = 8 from rfl, orN 8 ha hb, wr_u8 (by omega) (by omega)]
theorem aBin_or32 {a b : Nat} (ha : a < 4294967296) (hb : b < 4294967296) : aBin .or (.int .u32 (a : Int)) (.int .u32 (b : Int)) = some (.int .u32 ((a ||| b : Nat) : Int)) := by
  have h : a ||| b < 2 ^ 32 := Nat.or_lt_two_pow ha hb
  simp only [aBin, if_true]
  rw [show IntKind.u32.bits = 32 from rfl, orN 32 ha hb, wr_u32 (by omega) (by omega)]
theorem part_or {n a b x : Nat} (h : x ∈ SD.part n a) : x ∈ SD.part n (a ||| b) := by
  obtain ⟨h1, h2⟩ := mem_part.1 h
  exact mem_part.2 ⟨h1, by rw [Nat.testBit_or, h2, Bool.true_or]⟩
set_option maxHeartbeats 32000000 in
theorem law4 (t : Tsk) (ho : TOk t) (f u : Nat) (hf : f < 4294967296) (hu : u < 256) :
    W2 Try.prog ⟨s4.n, 0⟩ s4.body (fun e B => (e = .normal ∨ e = .ret) ∧ resV B.T B.h s4.res = some [.bool true]) ⟨argT 0 [tskV t, .int .u32 f, .int .u8 u], .e⟩ := by
  refine (wpC.toW (n := 40) (Q := fun e T h _ => (e = .normal ∨ e = .ret) ∧ resV T h s4.res = some [.bool true]) (show wS Try.prog ⟨s4.n, 0⟩ s4.body [] 40 _ _ _ from ?_)).mono fun e B ⟨_, h⟩ => h
  have hlu : (u8s t.T).length = 25 := by simp [u8s, ho.T]
  have h30 : (AV.int .u8 (t.set : Int) :: .int .u8 (t.st : Int) :: .int .u8 (t.mr : Int) :: (u8s t.T ++ [.int .u32 (t.fb : Int), .int .u8 (t.un : Int)])).length = 30 := by simp [hlu]
  have ht30 : (AV.int .u8 (t.set : Int) :: .int .u8 (t.st : Int) :: .int .u8 (t.mr : Int) :: (u8s t.T ++ [.int .u32 (t.fb : Int), .int .u8 (t.un : Int)])).take 30 = AV.int .u8 (t.set : Int) :: .int .u8 (t.st : Int) :: .int .u8 (t.mr : Int) :: (u8s t.T ++ [.int .u32 (t.fb : Int), .int .u8 (t.un : Int)]) := List.take_of_length_le (by omega)
  have gfb : (AV.int .u8 (t.set : Int) :: .int .u8 (t.st : Int) :: .int .u8 (t.mr : Int) :: (u8s t.T ++ [.int .u32 (t.fb : Int), .int .u8 (t.un : Int)]))[28]? = some (.int .u32 (t.fb : Int)) := by
    simp only [List.getElem?_cons_succ]
    rw [List.getElem?_append_right (by omega), hlu]; rfl
  have gun : (AV.int .u8 (t.set : Int) :: .int .u8 (t.st : Int) :: .int .u8 (t.mr : Int) :: (u8s t.T ++ [.int .u32 (t.fb : Int), .int .u8 (t.un : Int)]))[29]? = some (.int .u8 (t.un : Int)) := by
    simp only [List.getElem?_cons_succ]
    rw [List.getElem?_append_right (by omega), hlu]; rfl
  have hop := open10 t ho
  have hw := tA_wf t
  have hn5 := hw.n5
  have hpf := part12 (tA t).n (t.fb ||| f) (by omega) (Nat.or_lt_two_pow (n := 32) ho.fb hf)
  have hpu := events16 (t.un ||| u) (Nat.or_lt_two_pow (n := 8) ho.un hu)
  have hq := tQ t
  have hqf : QOk (tA t) (SD.part (tA t).n (t.fb ||| f)) (tU t) := ⟨part_sorted _ _, part_lt, hq.uS, hq.un⟩
  have hqu : QOk (tA t) (tF t) (SD.part 5 (t.un ||| u)) := ⟨hq.fS, hq.fn, part_sorted _ _, fun x hx => by have := part_lt x hx; omega⟩
  have k0 := Kept11 (tA t) (tF t) (tU t) hw hq (tA_el t)
  have k1 := Kept11 (tA t) _ (tU t) hw hqf (tA_el t)
  have k2 := Kept11 (tA t) (tF t) _ hw hqu (tA_el t)
  have l1 : ∀ x ∈ (pRes (tA t) (SD.part (tA t).n (t.fb ||| f)) (tU t) true).kept, x ∈ (pRes (tA t) (tF t) (tU t) true).kept := shrinks hw (fun x hx => part_or hx) (fun x hx => hx)
  have l2 : ∀ x ∈ (pRes (tA t) (tF t) (SD.part 5 (t.un ||| u)) true).kept, x ∈ (pRes (tA t) (tF t) (tU t) true).kept := shrinks hw (fun x hx => hx) (fun x hx => part_or hx)
  have z0 : (pRes (tA t) (tF t) (tU t) true).kept.length ≤ 5 := by show (kept _ _).length ≤ 5; exact Nat.le_trans kept_len hn5
  have z1 : (pRes (tA t) (SD.part (tA t).n (t.fb ||| f)) (tU t) true).kept.length ≤ 5 := by show (kept _ _).length ≤ 5; exact Nat.le_trans kept_len hn5
  have z2 : (pRes (tA t) (tF t) (SD.part 5 (t.un ||| u)) true).kept.length ≤ 5 := by show (kept _ _).length ≤ 5; exact Nat.le_trans kept_len hn5
  generalize (pRes (tA t) (SD.part (tA t).n (t.fb ||| f)) (tU t) true).kept = K1 at *
  generalize (pRes (tA t) (tF t) (SD.part 5 (t.un ||| u)) true).kept = K2 at *
  generalize (pRes (tA t) (tF t) (tU t) true).kept = K0 at *
  simp (maxSteps := 1000000) (disch := first | omega | exact PairsOK.mk rfl | (simp only [lenW] <;> omega)) only [s4, wordsN, Int.reduceGT, wordsR, ne_eq, wS_regionP, aAppend_slF, aAppend_slN, aSlice_fslH, setL_cons, setL_nil, aMakeMap_new, wordsM, aNil_ptr, aNil_fptr, Int.one_mul, bls_len, ints_len, cells_bl, one_bl, box_bl, List.length_replicate, words, Nat.reduceAdd, Nat.reduceEqDiff, Nat.reduceBEq, ↓reduceIte, reduceCtorEq, SX.exit.injEq, if_true, if_false, Int.reduceAdd, Int.reduceSub, Int.reduceMul, Int.reduceLT, Int.reduceLE, Int.reduceEq, Int.reduceNe, Int.reduceNeg, Int.reduceToNat, Nat.reduceMul, Nat.reduceLT, Nat.reduceSub, Nat.reduceLeDiff]
  refine cp known9 ?_
  simp (maxSteps := 1000000) (disch := first | omega | exact PairsOK.mk rfl | (simp only [lenW] <;> omega)) only [h30, ht30, wordsN, Int.reduceGT, wordsR, ne_eq, wS_regionP, aAppend_slF, aAppend_slN, aSlice_fslH, setL_cons, setL_nil, aMakeMap_new, wordsM, aNil_ptr, aNil_fptr, Int.one_mul, bls_len, ints_len, cells_bl, one_bl, box_bl, List.length_replicate, words, Nat.reduceAdd, Nat.reduceEqDiff, Nat.reduceBEq, ↓reduceIte, reduceCtorEq, SX.exit.injEq, if_true, if_false, Int.reduceAdd, Int.reduceSub, Int.reduceMul, Int.reduceLT, Int.reduceLE, Int.reduceEq, Int.reduceNe, Int.reduceNeg, Int.reduceToNat, Nat.reduceMul, Nat.reduceLT, Nat.reduceSub, Nat.reduceLeDiff]
  refine cp hop ?_
  generalize tF t = F at *
  generalize tU t = U at *
  simp (maxSteps := 1000000) (disch := first | omega | exact PairsOK.mk rfl | (simp only [lenW] <;> omega)) only [wordsN, Int.reduceGT, wordsR, ne_eq, wS_regionP, aAppend_slF, aAppend_slN, aSlice_fslH, setL_cons, setL_nil, aMakeMap_new, wordsM, aNil_ptr, aNil_fptr, Int.one_mul, bls_len, ints_len, cells_bl, one_bl, box_bl, List.length_replicate, words, Nat.reduceAdd, Nat.reduceEqDiff, Nat.reduceBEq, ↓reduceIte, reduceCtorEq, SX.exit.injEq, if_true, if_false, Int.reduceAdd, Int.reduceSub, Int.reduceMul, Int.reduceLT, Int.reduceLE, Int.reduceEq, Int.reduceNe, Int.reduceNeg, Int.reduceToNat, Nat.reduceMul, Nat.reduceLT, Nat.reduceSub, Nat.reduceLeDiff]
  refine cp k0 ?_
  simp (maxSteps := 1000000) (disch := first | omega | exact PairsOK.mk rfl | (simp only [lenW] <;> omega)) only [gfb, wordsN, Int.reduceGT, wordsR, ne_eq, wS_regionP, aAppend_slF, aAppend_slN, aSlice_fslH, setL_cons, setL_nil, aMakeMap_new, wordsM, aNil_ptr, aNil_fptr, Int.one_mul, bls_len, ints_len, cells_bl, one_bl, box_bl, List.length_replicate, words, Nat.reduceAdd, Nat.reduceEqDiff, Nat.reduceBEq, ↓reduceIte, reduceCtorEq, SX.exit.injEq, if_true, if_false, Int.reduceAdd, Int.reduceSub, Int.reduceMul, Int.reduceLT, Int.reduceLE, Int.reduceEq, Int.reduceNe, Int.reduceNeg, Int.reduceToNat, Nat.reduceMul, Nat.reduceLT, Nat.reduceSub, Nat.reduceLeDiff]
  simp (maxSteps := 1000000) (disch := first | omega | exact PairsOK.mk rfl | (simp only [lenW] <;> omega)) only [aBin_or32 ho.fb hf, wordsN, Int.reduceGT, wordsR, ne_eq, wS_regionP, aAppend_slF, aAppend_slN, aSlice_fslH, setL_cons, setL_nil, aMakeMap_new, wordsM, aNil_ptr, aNil_fptr, Int.one_mul, bls_len, ints_len, cells_bl, one_bl, box_bl, List.length_replicate, words, Nat.reduceAdd, Nat.reduceEqDiff, Nat.reduceBEq, ↓reduceIte, reduceCtorEq, SX.exit.injEq, if_true, if_false, Int.reduceAdd, Int.reduceSub, Int.reduceMul, Int.reduceLT, Int.reduceLE, Int.reduceEq, Int.reduceNe, Int.reduceNeg, Int.reduceToNat, Nat.reduceMul, Nat.reduceLT, Nat.reduceSub, Nat.reduceLeDiff]
  refine cp hpf ?_
  simp (maxSteps := 1000000) (disch := first | omega | exact PairsOK.mk rfl | (simp only [lenW] <;> omega)) only [wordsN, Int.reduceGT, wordsR, ne_eq, wS_regionP, aAppend_slF, aAppend_slN, aSlice_fslH, setL_cons, setL_nil, aMakeMap_new, wordsM, aNil_ptr, aNil_fptr, Int.one_mul, bls_len, ints_len, cells_bl, one_bl, box_bl, List.length_replicate, words, Nat.reduceAdd, Nat.reduceEqDiff, Nat.reduceBEq, ↓reduceIte, reduceCtorEq, SX.exit.injEq, if_true, if_false, Int.reduceAdd, Int.reduceSub, Int.reduceMul, Int.reduceLT, Int.reduceLE, Int.reduceEq, Int.reduceNe, Int.reduceNeg, Int.reduceToNat, Nat.reduceMul, Nat.reduceLT, Nat.reduceSub, Nat.reduceLeDiff]
  refine cp k1 ?_
  simp (maxSteps := 1000000) (disch := first | omega | exact PairsOK.mk rfl | (simp only [lenW] <;> omega)) only [gun, aBin_or8 ho.un hu, wordsN, Int.reduceGT, wordsR, ne_eq, wS_regionP, aAppend_slF, aAppend_slN, aSlice_fslH, setL_cons, setL_nil, aMakeMap_new, wordsM, aNil_ptr, aNil_fptr, Int.one_mul, bls_len, ints_len, cells_bl, one_bl, box_bl, List.length_replicate, words, Nat.reduceAdd, Nat.reduceEqDiff, Nat.reduceBEq, ↓reduceIte, reduceCtorEq, SX.exit.injEq, if_true, if_false, Int.reduceAdd, Int.reduceSub, Int.reduceMul, Int.reduceLT, Int.reduceLE, Int.reduceEq, Int.reduceNe, Int.reduceNeg, Int.reduceToNat, Nat.reduceMul, Nat.reduceLT, Nat.reduceSub, Nat.reduceLeDiff]
  refine cp hpu ?_
  simp (maxSteps := 1000000) (disch := first | omega | exact PairsOK.mk rfl | (simp only [lenW] <;> omega)) only [wordsN, Int.reduceGT, wordsR, ne_eq, wS_regionP, aAppend_slF, aAppend_slN, aSlice_fslH, setL_cons, setL_nil, aMakeMap_new, wordsM, aNil_ptr, aNil_fptr, Int.one_mul, bls_len, ints_len, cells_bl, one_bl, box_bl, List.length_replicate, words, Nat.reduceAdd, Nat.reduceEqDiff, Nat.reduceBEq, ↓reduceIte, reduceCtorEq, SX.exit.injEq, if_true, if_false, Int.reduceAdd, Int.reduceSub, Int.reduceMul, Int.reduceLT, Int.reduceLE, Int.reduceEq, Int.reduceNe, Int.reduceNeg, Int.reduceToNat, Nat.reduceMul, Nat.reduceLT, Nat.reduceSub, Nat.reduceLeDiff]
  refine cp k2 ?_
  simp (maxSteps := 1000000) (disch := first | omega | exact PairsOK.mk rfl | (simp only [lenW] <;> omega)) only [wordsN, Int.reduceGT, wordsR, ne_eq, wS_regionP, aAppend_slF, aAppend_slN, aSlice_fslH, setL_cons, setL_nil, aMakeMap_new, wordsM, aNil_ptr, aNil_fptr, Int.one_mul, bls_len, ints_len, cells_bl, one_bl, box_bl, List.length_replicate, words, Nat.reduceAdd, Nat.reduceEqDiff, Nat.reduceBEq, ↓reduceIte, reduceCtorEq, SX.exit.injEq, if_true, if_false, Int.reduceAdd, Int.reduceSub, Int.reduceMul, Int.reduceLT, Int.reduceLE, Int.reduceEq, Int.reduceNe, Int.reduceNeg, Int.reduceToNat, Nat.reduceMul, Nat.reduceLT, Nat.reduceSub, Nat.reduceLeDiff]
  refine wS_loopX 100 (fun i : Nat => [(10, sliN K0), (12, sliN K1), (14, sliN K2)] ++ [(16, .int .i64 i)]) (fun _ => []) (fun i => i ≤ K1.length) (fun i => K1.length - i) 0 0 200 (fun _ : Unit => [(10, sliN K0), (14, sliN K2)]) (fun _ => []) (fun _ => True) ⟨[], rfl, au0, au9, au10⟩ (Nat.zero_le _) ?_ ?_
  · rintro i hi
    by_cases hlt : i < K1.length
    · obtain ⟨x, hx⟩ := get_ex hlt
      have hxk := l1 x (List.mem_of_getElem? hx)
      have hh := has15 (nz K0) x (by simp; omega)
      rw [mem_nz, sli_nz, show K0.contains x = true by simpa using hxk] at hh
      simp (maxSteps := 1000000) (disch := first | omega | exact PairsOK.mk rfl | (simp only [lenW] <;> omega)) only [List.cons_append, List.nil_append, hlt, head_nz hx, wordsN, Int.reduceGT, wordsR, ne_eq, wS_regionP, aAppend_slF, aAppend_slN, aSlice_fslH, setL_cons, setL_nil, aMakeMap_new, wordsM, aNil_ptr, aNil_fptr, Int.one_mul, bls_len, ints_len, cells_bl, one_bl, box_bl, List.length_replicate, words, Nat.reduceAdd, Nat.reduceEqDiff, Nat.reduceBEq, ↓reduceIte, reduceCtorEq, SX.exit.injEq, if_true, if_false, Int.reduceAdd, Int.reduceSub, Int.reduceMul, Int.reduceLT, Int.reduceLE, Int.reduceEq, Int.reduceNe, Int.reduceNeg, Int.reduceToNat, Nat.reduceMul, Nat.reduceLT, Nat.reduceSub, Nat.reduceLeDiff]
      refine cp hh ?_
      simp (maxSteps := 1000000) (disch := first | omega | exact PairsOK.mk rfl | (simp only [lenW] <;> omega)) only [wordsN, Int.reduceGT, wordsR, ne_eq, wS_regionP, aAppend_slF, aAppend_slN, aSlice_fslH, setL_cons, setL_nil, aMakeMap_new, wordsM, aNil_ptr, aNil_fptr, Int.one_mul, bls_len, ints_len, cells_bl, one_bl, box_bl, List.length_replicate, words, Nat.reduceAdd, Nat.reduceEqDiff, Nat.reduceBEq, ↓reduceIte, reduceCtorEq, SX.exit.injEq, if_true, if_false, Int.reduceAdd, Int.reduceSub, Int.reduceMul, Int.reduceLT, Int.reduceLE, Int.reduceEq, Int.reduceNe, Int.reduceNeg, Int.reduceToNat, Nat.reduceMul, Nat.reduceLT, Nat.reduceSub, Nat.reduceLeDiff]
      exact ⟨i + 1, by omega, by omega, ⟨[], rfl, au0, au9, au10⟩⟩
    · simp (maxSteps := 1000000) (disch := first | omega | exact PairsOK.mk rfl | (simp only [lenW] <;> omega)) only [List.cons_append, List.nil_append, hlt, wordsN, Int.reduceGT, wordsR, ne_eq, wS_regionP, aAppend_slF, aAppend_slN, aSlice_fslH, setL_cons, setL_nil, aMakeMap_new, wordsM, aNil_ptr, aNil_fptr, Int.one_mul, bls_len, ints_len, cells_bl, one_bl, box_bl, List.length_replicate, words, Nat.reduceAdd, Nat.reduceEqDiff, Nat.reduceBEq, ↓reduceIte, reduceCtorEq, SX.exit.injEq, if_true, if_false, Int.reduceAdd, Int.reduceSub, Int.reduceMul, Int.reduceLT, Int.reduceLE, Int.reduceEq, Int.reduceNe, Int.reduceNeg, Int.reduceToNat, Nat.reduceMul, Nat.reduceLT, Nat.reduceSub, Nat.reduceLeDiff]
      exact ⟨(), ⟨[], rfl, au0, au9, au10⟩⟩
  rintro _ _
  simp (maxSteps := 1000000) (disch := first | omega | exact PairsOK.mk rfl | (simp only [lenW] <;> omega)) only [wordsN, Int.reduceGT, wordsR, ne_eq, wS_regionP, aAppend_slF, aAppend_slN, aSlice_fslH, setL_cons, setL_nil, aMakeMap_new, wordsM, aNil_ptr, aNil_fptr, Int.one_mul, bls_len, ints_len, cells_bl, one_bl, box_bl, List.length_replicate, words, Nat.reduceAdd, Nat.reduceEqDiff, Nat.reduceBEq, ↓reduceIte, reduceCtorEq, SX.exit.injEq, if_true, if_false, Int.reduceAdd, Int.reduceSub, Int.reduceMul, Int.reduceLT, Int.reduceLE, Int.reduceEq, Int.reduceNe, Int.reduceNeg, Int.reduceToNat, Nat.reduceMul, Nat.reduceLT, Nat.reduceSub, Nat.reduceLeDiff]
  refine wS_loopX 300 (fun i : Nat => [(10, sliN K0), (14, sliN K2)] ++ [(17, .int .i64 i)]) (fun _ => []) (fun i => i ≤ K2.length) (fun i => K2.length - i) 0 2 400 (fun _ : Unit => [(10, sliN K0)]) (fun _ => []) (fun _ => True) ⟨[], rfl, au0, au9, au10⟩ (Nat.zero_le _) ?_ ?_
  · rintro i hi
    by_cases hlt : i < K2.length
    · obtain ⟨x, hx⟩ := get_ex hlt
      have hxk := l2 x (List.mem_of_getElem? hx)
      have hh := has15 (nz K0) x (by simp; omega)
      rw [mem_nz, sli_nz, show K0.contains x = true by simpa using hxk] at hh
      simp (maxSteps := 1000000) (disch := first | omega | exact PairsOK.mk rfl | (simp only [lenW] <;> omega)) only [List.cons_append, List.nil_append, hlt, head_nz hx, wordsN, Int.reduceGT, wordsR, ne_eq, wS_regionP, aAppend_slF, aAppend_slN, aSlice_fslH, setL_cons, setL_nil, aMakeMap_new, wordsM, aNil_ptr, aNil_fptr, Int.one_mul, bls_len, ints_len, cells_bl, one_bl, box_bl, List.length_replicate, words, Nat.reduceAdd, Nat.reduceEqDiff, Nat.reduceBEq, ↓reduceIte, reduceCtorEq, SX.exit.injEq, if_true, if_false, Int.reduceAdd, Int.reduceSub, Int.reduceMul, Int.reduceLT, Int.reduceLE, Int.reduceEq, Int.reduceNe, Int.reduceNeg, Int.reduceToNat, Nat.reduceMul, Nat.reduceLT, Nat.reduceSub, Nat.reduceLeDiff]
      refine cp hh ?_
      simp (maxSteps := 1000000) (disch := first | omega | exact PairsOK.mk rfl | (simp only [lenW] <;> omega)) only [wordsN, Int.reduceGT, wordsR, ne_eq, wS_regionP, aAppend_slF, aAppend_slN, aSlice_fslH, setL_cons, setL_nil, aMakeMap_new, wordsM, aNil_ptr, aNil_fptr, Int.one_mul, bls_len, ints_len, cells_bl, one_bl, box_bl, List.length_replicate, words, Nat.reduceAdd, Nat.reduceEqDiff, Nat.reduceBEq, ↓reduceIte, reduceCtorEq, SX.exit.injEq, if_true, if_false, Int.reduceAdd, Int.reduceSub, Int.reduceMul, Int.reduceLT, Int.reduceLE, Int.reduceEq, Int.reduceNe, Int.reduceNeg, Int.reduceToNat, Nat.reduceMul, Nat.reduceLT, Nat.reduceSub, Nat.reduceLeDiff]
      exact ⟨i + 1, by omega, by omega, ⟨[], rfl, au0, au9, au10⟩⟩
    · simp (maxSteps := 1000000) (disch := first | omega | exact PairsOK.mk rfl | (simp only [lenW] <;> omega)) only [List.cons_append, List.nil_append, hlt, wordsN, Int.reduceGT, wordsR, ne_eq, wS_regionP, aAppend_slF, aAppend_slN, aSlice_fslH, setL_cons, setL_nil, aMakeMap_new, wordsM, aNil_ptr, aNil_fptr, Int.one_mul, bls_len, ints_len, cells_bl, one_bl, box_bl, List.length_replicate, words, Nat.reduceAdd, Nat.reduceEqDiff, Nat.reduceBEq, ↓reduceIte, reduceCtorEq, SX.exit.injEq, if_true, if_false, Int.reduceAdd, Int.reduceSub, Int.reduceMul, Int.reduceLT, Int.reduceLE, Int.reduceEq, Int.reduceNe, Int.reduceNeg, Int.reduceToNat, Nat.reduceMul, Nat.reduceLT, Nat.reduceSub, Nat.reduceLeDiff]
      exact ⟨(), ⟨[], rfl, au0, au9, au10⟩⟩
  rintro _ _
  simp (maxSteps := 1000000) (disch := first | omega | exact PairsOK.mk rfl | (simp only [lenW] <;> omega)) only [wordsN, Int.reduceGT, wordsR, ne_eq, wS_regionP, aAppend_slF, aAppend_slN, aSlice_fslH, setL_cons, setL_nil, aMakeMap_new, wordsM, aNil_ptr, aNil_fptr, Int.one_mul, bls_len, ints_len, cells_bl, one_bl, box_bl, List.length_replicate, words, Nat.reduceAdd, Nat.reduceEqDiff, Nat.reduceBEq, ↓reduceIte, reduceCtorEq, SX.exit.injEq, if_true, if_false, Int.reduceAdd, Int.reduceSub, Int.reduceMul, Int.reduceLT, Int.reduceLE, Int.reduceEq, Int.reduceNe, Int.reduceNeg, Int.reduceToNat, Nat.reduceMul, Nat.reduceLT, Nat.reduceSub, Nat.reduceLeDiff]
  exact ⟨.inr trivial, rfl⟩
end Go.AM.SE
namespace Go.AM.SE
open Go.Proofs Go.AM.SD
theorem u32_nat (d : Int) (h : 0 ≤ d ∧ d ≤ 4294967295) : ∃ n : Nat, n < 4294967296 ∧ AV.int .u32 d = .int .u32 (n : Int) :=
  ⟨d.toNat, by omega, by rw [Int.toNat_of_nonneg h.1]⟩
theorem u8_nat (d : Int) (h : 0 ≤ d ∧ d ≤ 255) : ∃ n : Nat, n < 256 ∧ AV.int .u8 d = .int .u8 (n : Int) :=
  ⟨d.toNat, by omega, by rw [Int.toNat_of_nonneg h.1]⟩
theorem law4_in (d0 : tyTask.D) (d1 : (Ty.int .u32).D) (d2 : (Ty.int .u8).D) (h0 : tyTask.wf d0) (h1 : (Ty.int .u32).wf d1) (h2 : (Ty.int .u8).wf d2) :
    W2 Try.prog ⟨s4.n, 0⟩ s4.body (fun e B => (e = .normal ∨ e = .ret) ∧ resV B.T B.h s4.res = some [.bool true]) ⟨argT 0 [tyTask.val d0, (Ty.int .u32).val d1, (Ty.int .u8).val d2], .e⟩ := by
  obtain ⟨t, ht, e0⟩ := tsk_in h0
  obtain ⟨n1, l1, f1⟩ := u32_nat d1 (by have := u32_wf h1; omega)
  obtain ⟨n2, l2, f2⟩ := u8_nat d2 (by have := u8_wf h2; omega)
  have f1' : (Ty.int .u32).val d1 = .int .u32 (n1 : Int) := f1
  have f2' : (Ty.int .u8).val d2 = .int .u8 (n2 : Int) := f2
  rw [e0, f1', f2']
  exact law4 t ht _ _ l1 l2
end Go.AM.SE
