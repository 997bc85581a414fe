/- A part of the proof of SynthesisGreatestSaid: lemmas on the way (AmEo, AmEp, AmEr, AmEs, AmEq, AmEt, AmEu, AmEv). Conditions: none of ours. -/
import Derived.Test.YtnfcjlgmkjiehaaAmZ8
set_option linter.unusedSectionVars false
namespace Go.AM.SE
open Go.Proofs Go.AM.SD
set_option maxRecDepth 100000
set_option linter.unusedSimpArgs false
set_option linter.unusedVariables false
def u8s (l : List Nat) : List AV := l.map fun x : Nat => .int .u8 (x : Int)
theorem noRefs_u8 (l : List Nat) : noRefs (u8s l) = true := noRefs_mapS (fun _ => rfl) l
theorem get_u8 {l : List Nat} {i x : Nat} (h : l[i]? = some x) : (u8s l)[i]? = some (.int .u8 (x : Int)) := by simp [u8s, h]
def gEd (al : List Nat) (n : Nat) (T : List Nat) (i k : Nat) : Option Ed := if T.getD (i * 5 + k) 0 % (n + 2) < n then some (i, al.getD k 0, T.getD (i * 5 + k) 0 % (n + 2)) else none
def gRow (al : List Nat) (n : Nat) (T : List Nat) (i k : Nat) : List Ed := (List.range k).filterMap (gEd al n T i)
def gPre (al : List Nat) (n : Nat) (T : List Nat) (i : Nat) : List Ed := (List.range i).flatMap fun i => gRow al n T i al.length
def gPart (al : List Nat) (n : Nat) (T : List Nat) (i k : Nat) : List Ed := gPre al n T i ++ gRow al n T i k
def gRaw (al : List Nat) (st mk : Nat) (T : List Nat) : Aut := if 250 ≤ st then ⟨al, 0, [], []⟩ else ⟨al, 1 + st % 5, SD.part (1 + st % 5) mk, gPre al (1 + st % 5) T (1 + st % 5)⟩
theorem gRow_mem {al : List Nat} {n : Nat} {T : List Nat} {i k : Nat} {e : Ed} (h : e ∈ gRow al n T i k) : e.1 = i ∧ e.2.2 < n := by
  unfold gRow at h
  obtain ⟨j, _, hj⟩ := List.mem_filterMap.1 h
  unfold gEd at hj
  split at hj
  · rename_i h1; cases hj; exact ⟨rfl, h1⟩
  · cases hj
theorem gRow_succ {al : List Nat} {n : Nat} {T : List Nat} {i k : Nat} : gRow al n T i (k + 1) = gRow al n T i k ++ match gEd al n T i k with | some e => [e] | none => [] := by
  unfold gRow
  rw [List.range_succ, List.filterMap_append]
  congr 1
  cases e : gEd al n T i k <;> simp [e]
theorem gRow_len {al : List Nat} {n : Nat} {T : List Nat} {i k : Nat} : (gRow al n T i k).length ≤ k := by
  unfold gRow; exact Nat.le_trans (List.length_filterMap_le _ _) (by simp)
theorem gPre_len {al : List Nat} {n : Nat} {T : List Nat} (hal : al.length ≤ 5) : ∀ i, (gPre al n T i).length ≤ i * 5
  | 0 => by simp [gPre]
  | i + 1 => by
    have h1 := gPre_len (n := n) (T := T) hal i
    have h2 := @gRow_len al n T i al.length
    unfold gPre at h1 ⊢
    rw [List.range_succ, List.flatMap_append, List.length_append, Nat.succ_mul, List.flatMap_cons, List.flatMap_nil, List.append_nil]
    omega
theorem gPre_succ {al : List Nat} {n : Nat} {T : List Nat} {i : Nat} : gPre al n T (i + 1) = gPart al n T i al.length := by
  unfold gPart gPre
  rw [List.range_succ, List.flatMap_append, List.flatMap_cons, List.flatMap_nil, List.append_nil]
theorem gRaw_raw {al : List Nat} {st mk : Nat} {T : List Nat} (hal : al.length ≤ 5) : Raw (gRaw al st mk T) := by
  unfold gRaw
  split
  · exact ⟨by simp, by simp, by simp, by dsimp only; omega, by simp⟩
  · have h5 : 1 + st % 5 ≤ 5 := by omega
    refine ⟨fun e he => ?_, h5, ?_, by dsimp only; omega, ?_⟩
    · unfold gPre at he
      obtain ⟨i, hi, he⟩ := List.mem_flatMap.1 he
      have := List.mem_range.1 hi
      obtain ⟨h1, h2⟩ := gRow_mem he
      exact ⟨by rw [h1]; exact this, h2⟩
    · have := gPre_len (n := 1 + st % 5) (T := T) hal (1 + st % 5)
      dsimp only; omega
    · have := @part_len (1 + st % 5) mk
      dsimp only; omega
def mkA (al : List Nat) (st mk : Nat) (T : List Nat) : Aut := canon (gRaw al st mk T)
theorem mkA_wf {al : List Nat} {st mk : Nat} {T : List Nat} (hs : al.Pairwise (· < ·)) (h5 : ∀ x ∈ al, x < 5) : WfA (mkA al st mk T) := by
  have hal : al.length ≤ 5 := sorted_len hs h5
  have hr := gRaw_raw (st := st) (mk := mk) (T := T) hal
  have ha : (gRaw al st mk T).al = al := by unfold gRaw; split <;> rfl
  exact canon_wf (by rw [ha]; exact hs) (by rw [ha]; exact h5) hr.n5 hr.esn
abbrev grV (st mk : Nat) (T : List Nat) : AV := .agg (.int .u8 (st : Int) :: .int .u8 (mk : Int) :: u8s T)
theorem _root_.Go.AM.au9 {p : Prop} (h : p := by repeat' (first | exact RB.nil | (refine RnL.same ?_; first | rfl | (simp only [noRef, noRefs, noRefs_append, Bool.and_self, Bool.and_true, Bool.true_and, noRefs_ints, noRefs_u8, noRefs_eg, noRefs_ed, noRefs_rm, noRefs_ls, noRefs_bk, noRefs_bls, noRef_sli, noRef_sliN, noRef_egs, noRef_egsN, noRefs_keysI, noRefs_back, noRefs_rowE]; done)) | exact RnM.keyM rfl | exact RnL.nil | exact (True.intro : RnM _ _ _ [] []) | refine RnL.cons ?_ ?_ | (refine Rn.same ?_; first | rfl | (simp only [noRef, noRefs, noRefs_append, Bool.and_self, Bool.and_true, Bool.true_and, noRefs_ints, noRefs_u8, noRefs_eg, noRefs_ed, noRefs_rm, noRefs_ls, noRefs_bk, noRefs_bls, noRef_sli, noRef_sliN, noRef_egs, noRef_egsN, noRefs_keysI, noRefs_back, noRefs_rowE]; done)) | exact Rn.x1 rfl rfl | exact Rn.x2 rfl rfl | exact Rn.x3 rfl rfl | exact Rn.x4 rfl rfl | exact Rn.x5 rfl | exact Rn.x6 rfl | exact Rn.x7 rfl | refine RB.newnil rfl rfl ?_ | refine RB.cells rfl rfl rfl ?_ ?_ | refine RB.map rfl rfl rfl ?_ ?_ | refine RB.cellsB rfl rfl ?_ ?_ | refine RB.mapB rfl rfl ?_ ?_)) : p := h
theorem _root_.Go.AM.au10 {p : Prop} (h : p := by repeat (first | exact RT.nil | (refine RT.cons ?_ ?_; · (first | exact Rn.any | exact Rn.x1 rfl rfl | exact Rn.x2 rfl rfl | exact Rn.x3 rfl rfl | exact Rn.x4 rfl rfl | exact Rn.x5 rfl | exact Rn.x6 rfl | exact Rn.x7 rfl | (refine Rn.slot ?_ ?_; (first | rfl | (rw [Int.natCast_add]; rfl)); (first | rfl | (simp only [noRef, noRefs, noRefs_append, Bool.and_self, Bool.and_true, Bool.true_and, noRefs_ints, noRefs_u8, noRefs_eg, noRefs_ed, noRefs_rm, noRefs_ls, noRefs_bk, noRefs_bls, noRef_sli, noRef_sliN, noRef_egs, noRef_egsN, noRefs_keysI, noRefs_back, noRefs_rowE]; done))) | (refine Rn.fn ?_ ?_ <;> (repeat' (first | exact RnL.nil | refine RnL.cons ?_ ?_ | exact Rn.same rfl | exact Rn.x6 rfl | exact Rn.x2 rfl rfl | exact Rn.x5 rfl | exact Rn.x1 rfl rfl))))))) : p := h
set_option maxHeartbeats 32000000 in
theorem Make32 (al : List Nat) (st mk : Nat) (T : List Nat) (hs : al.Pairwise (· < ·)) (h5 : ∀ x ∈ al, x < 5) (hst : st < 256) (hmk : mk < 256) (hT : T.length = 25) (hT8 : ∀ x ∈ T, x < 256) :
    PSpec Try.prog 32 [sliN al, grV st mk T] (aV (mkA al st mk T)) := by
  have hal : al.length ≤ 5 := sorted_len hs h5
  have hlu : (u8s T).length = 25 := by simp [u8s, hT]
  have hcan := canon46 (gRaw al st mk T) (gRaw_raw hal)
  refine PSpec.of_rn 40 ok32 rfl (by (try simp only [noRefs, noRefs_u8, noRefs_keysI, noRefs_back, noRefs_ints, noRefs_eg, noRefs_ed, noRefs_rm, noRefs_ls, noRefs_bls, noRef, Bool.and_self, Bool.and_true]) <;> rfl) (noRef_aV _) ?_
  unfold mkA
  by_cases h0 : 250 ≤ st
  · have h0' : (250 : Int) ≤ (st : Int) := by omega
    have hr : gRaw al st mk T = ⟨al, 0, [], []⟩ := if_pos h0
    have hc : canon (gRaw al st mk T) = ⟨al, 0, [], []⟩ := by rw [hr]; rfl
    rw [hc]
    simp (maxSteps := 1000000) (disch := first | omega | exact PairsOK.mk rfl | (simp only [lenW] <;> omega)) only [s32, h0', wordsN, Int.reduceGT, wordsR, ne_eq, wS_regionP, aAppend_slF, aAppend_slN, aSlice_fslH, setL_cons, setL_nil, aMakeMap_new, wordsM, aNil_ptr, aNil_fptr, Int.one_mul, bls_len, ints_len, cells_bl, one_bl, box_bl, List.length_replicate, words, Nat.reduceAdd, Nat.reduceEqDiff, Nat.reduceBEq, ↓reduceIte, reduceCtorEq, SX.exit.injEq, if_true, if_false, Int.reduceAdd, Int.reduceSub, Int.reduceMul, Int.reduceLT, Int.reduceLE, Int.reduceEq, Int.reduceNe, Int.reduceNeg, Int.reduceToNat, Nat.reduceMul, Nat.reduceLT, Nat.reduceSub, Nat.reduceLeDiff]
    refine cp (empty45 al (by omega)) ?_
    simp (maxSteps := 1000000) (disch := first | omega | exact PairsOK.mk rfl | (simp only [lenW] <;> omega)) only [wordsN, Int.reduceGT, wordsR, ne_eq, wS_regionP, aAppend_slF, aAppend_slN, aSlice_fslH, setL_cons, setL_nil, aMakeMap_new, wordsM, aNil_ptr, aNil_fptr, Int.one_mul, bls_len, ints_len, cells_bl, one_bl, box_bl, List.length_replicate, words, Nat.reduceAdd, Nat.reduceEqDiff, Nat.reduceBEq, ↓reduceIte, reduceCtorEq, SX.exit.injEq, if_true, if_false, Int.reduceAdd, Int.reduceSub, Int.reduceMul, Int.reduceLT, Int.reduceLE, Int.reduceEq, Int.reduceNe, Int.reduceNeg, Int.reduceToNat, Nat.reduceMul, Nat.reduceLT, Nat.reduceSub, Nat.reduceLeDiff]
    refine ⟨.inr trivial, _, rfl, ?_⟩
    exact Rn.agg (RnL.cons (Rn.same (noRef_sliN _)) (RnL.cons (Rn.same rfl) (RnL.cons Rn.nilK (RnL.cons Rn.nilK RnL.nil))))
  have h0' : ¬ (250 : Int) ≤ (st : Int) := by omega
  have hr : gRaw al st mk T = ⟨al, 1 + st % 5, SD.part (1 + st % 5) mk, gPre al (1 + st % 5) T (1 + st % 5)⟩ := if_neg h0
  rw [hr] at hcan ⊢
  have hn5 : 1 + st % 5 ≤ 5 := by omega
  obtain ⟨n, hN⟩ : ∃ n, n = 1 + st % 5 := ⟨_, rfl⟩
  rw [← hN] at hr hcan hn5 ⊢
  have hnn : (1 : Int) + ((st % 5 : Nat) : Int) = (n : Int) := by omega
  simp (maxSteps := 1000000) (disch := first | omega | exact PairsOK.mk rfl | (simp only [lenW] <;> omega)) only [s32, h0', wordsN, Int.reduceGT, wordsR, ne_eq, wS_regionP, aAppend_slF, aAppend_slN, aSlice_fslH, setL_cons, setL_nil, aMakeMap_new, wordsM, aNil_ptr, aNil_fptr, Int.one_mul, bls_len, ints_len, cells_bl, one_bl, box_bl, List.length_replicate, words, Nat.reduceAdd, Nat.reduceEqDiff, Nat.reduceBEq, ↓reduceIte, reduceCtorEq, SX.exit.injEq, if_true, if_false, Int.reduceAdd, Int.reduceSub, Int.reduceMul, Int.reduceLT, Int.reduceLE, Int.reduceEq, Int.reduceNe, Int.reduceNeg, Int.reduceToNat, Nat.reduceMul, Nat.reduceLT, Nat.reduceSub, Nat.reduceLeDiff]
  refine cp (empty45 al (by omega)) ?_
  have htm : (st : Int).tmod 5 = ((st % 5 : Nat) : Int) := by
    rw [Int.tmod_eq_emod_of_nonneg (Int.natCast_nonneg _)]; norm_cast
  simp (maxSteps := 1000000) (disch := first | omega | exact PairsOK.mk rfl | (simp only [lenW] <;> omega)) only [htm, hnn, wordsN, Int.reduceGT, wordsR, ne_eq, wS_regionP, aAppend_slF, aAppend_slN, aSlice_fslH, setL_cons, setL_nil, aMakeMap_new, wordsM, aNil_ptr, aNil_fptr, Int.one_mul, bls_len, ints_len, cells_bl, one_bl, box_bl, List.length_replicate, words, Nat.reduceAdd, Nat.reduceEqDiff, Nat.reduceBEq, ↓reduceIte, reduceCtorEq, SX.exit.injEq, if_true, if_false, Int.reduceAdd, Int.reduceSub, Int.reduceMul, Int.reduceLT, Int.reduceLE, Int.reduceEq, Int.reduceNe, Int.reduceNeg, Int.reduceToNat, Nat.reduceMul, Nat.reduceLT, Nat.reduceSub, Nat.reduceLeDiff]
  refine wS_loopX 100 (fun i : Nat => [(0, sliN al), (3, .ptr 50 0 0), (4, .ptr 51 0 0), (5, .ptr 52 0 0), (6, .int .i64 i)])
    (fun i => [(50, .cells 0 (.int .u8 (st : Int) :: .int .u8 (mk : Int) :: u8s T)), (51, .cells 0 [.nilsl, .int .i64 0, .nilsl, .nilsl]), (52, .cells 0 [sliN al, .int .i64 (n : Int), .sl 77 0 0 (SD.part i mk).length 1, .sl 76 0 0 (gPre al n T i).length 3]), (76, .cells 0 ((gPre al n T i).flatMap edC)), (77, .cells 0 (ints (nz (SD.part i mk))))])
    (fun i => i ≤ n) (fun i => n - i) 0 0 160
    (fun _ : Unit => [(4, .ptr 51 0 0), (5, .ptr 52 0 0)])
    (fun _ => [(51, .cells 0 [.nilsl, .int .i64 0, .nilsl, .nilsl]), (52, .cells 0 [sliN al, .int .i64 (n : Int), sliN (SD.part n mk), egsN (gPre al n T n)])]) (fun _ => True) ?_ (Nat.zero_le _) ?_ ?_
  · exact ⟨[(50, .blk 40 0), (51, .blk 41 0), (52, .blk 47 0), (76, .nil), (77, .nil)], rfl, au0, au9, au10⟩
  · rintro i hi
    by_cases hlt : i < n
    · have hpt := part_take (n := n) (b := mk) (i := i)
      have hpl := @part_len i mk
      have hgl := gPre_len (n := n) (T := T) hal i
      have hg0 : gPart al n T i 0 = gPre al n T i := by simp [gPart, gRow]
      have hgs := gPre_succ (al := al) (n := n) (T := T) (i := i)
      have hed0 := ed_len (gPre al n T i)
      generalize hM1 : SD.part (i + 1) mk = M1 at *
      generalize hM : SD.part i mk = M at *
      by_cases hmv : mk.testBit i = true
      · rw [if_pos hmv] at hpt
        have hb := bit_iff.2 hmv
        simp (maxSteps := 1000000) (disch := first | omega | exact PairsOK.mk rfl | (simp only [lenW] <;> omega)) only [hlt, aBin_shrN (k := .u8) (show i ≤ 8 by omega), aBin_and8, hb, wordsN, Int.reduceGT, wordsR, ne_eq, wS_regionP, aAppend_slF, aAppend_slN, aSlice_fslH, setL_cons, setL_nil, aMakeMap_new, wordsM, aNil_ptr, aNil_fptr, Int.one_mul, bls_len, ints_len, cells_bl, one_bl, box_bl, List.length_replicate, words, Nat.reduceAdd, Nat.reduceEqDiff, Nat.reduceBEq, ↓reduceIte, reduceCtorEq, SX.exit.injEq, if_true, if_false, Int.reduceAdd, Int.reduceSub, Int.reduceMul, Int.reduceLT, Int.reduceLE, Int.reduceEq, Int.reduceNe, Int.reduceNeg, Int.reduceToNat, Nat.reduceMul, Nat.reduceLT, Nat.reduceSub, Nat.reduceLeDiff]
        refine wS_loopX 300 (fun k : Nat => [(0, sliN al), (3, .ptr 50 0 0), (4, .ptr 51 0 0), (5, .ptr 52 0 0), (6, .int .i64 i), (7, .int .i64 k)])
          (fun k => [(50, .cells 0 (.int .u8 (st : Int) :: .int .u8 (mk : Int) :: u8s T)), (51, .cells 0 [.nilsl, .int .i64 0, .nilsl, .nilsl]), (52, .cells 0 [sliN al, .int .i64 (n : Int), .sl 77 0 0 M1.length 1, .sl 76 0 0 (gPart al n T i k).length 3]), (76, .cells 0 ((gPart al n T i k).flatMap edC)), (77, .cells 0 (ints (nz M1)))])
          (fun k => k ≤ al.length) (fun k => al.length - k) 0 2 400
          (fun _ : Unit => [(0, sliN al), (3, .ptr 50 0 0), (4, .ptr 51 0 0), (5, .ptr 52 0 0), (6, .int .i64 i)])
          (fun _ => [(50, .cells 0 (.int .u8 (st : Int) :: .int .u8 (mk : Int) :: u8s T)), (51, .cells 0 [.nilsl, .int .i64 0, .nilsl, .nilsl]), (52, .cells 0 [sliN al, .int .i64 (n : Int), .sl 77 0 0 M1.length 1, .sl 76 0 0 (gPre al n T (i + 1)).length 3]), (76, .cells 0 ((gPre al n T (i + 1)).flatMap edC)), (77, .cells 0 (ints (nz M1)))]) (fun _ => True) ?_ (Nat.zero_le _) ?_ ?_
        · rw [hg0, hpt, List.length_append, nz_append, ints_append]
          exact ⟨[(50, .blk 50 0), (51, .blk 51 0), (52, .blk 52 0), (76, .blk 76 0), (77, .blk 77 1)], rfl, au0, au9, au10⟩
        · rintro k hk
          by_cases hkl : k < al.length
          · obtain ⟨ev, hev⟩ := get_ex hkl
            have hevD : al.getD k 0 = ev := by rw [List.getD_eq_getElem?_getD, hev]; rfl
            obtain ⟨x, hx⟩ := get_ex (l := T) (i := i * 5 + k) (by omega)
            have hxD : T.getD (i * 5 + k) 0 = x := by rw [List.getD_eq_getElem?_getD, hx]; rfl
            have hx8 := hT8 x (List.mem_of_getElem? hx)
            have hk5 : (k : Int) < 5 := by omega
            have hi5 : (i : Int) < 5 := by omega
            have hgx : (AV.int .u8 (st : Int) :: AV.int .u8 (mk : Int) :: u8s T)[2 + i * 5 + k]? = some (.int .u8 (x : Int)) := by
              rw [show 2 + i * 5 + k = (i * 5 + k) + 2 by omega]
              simpa using get_u8 hx
            have hrm : (x : Int).tmod ((n : Int) + 2) = ((x % (n + 2) : Nat) : Int) := by
              rw [Int.tmod_eq_emod_of_nonneg (Int.natCast_nonneg _)]; norm_cast
            have hn0 : ¬ (n : Int) + 2 = 0 := by omega
            have hxm : x % (n + 2) ≤ 10 := by have := Nat.mod_lt x (show 0 < n + 2 by omega); omega
            have hst := gRow_succ (al := al) (n := n) (T := T) (i := i) (k := k)
            have hrl := @gRow_len al n T i k
            have hps : gPart al n T i (k + 1) = gPart al n T i k ++ match gEd al n T i k with | some e => [e] | none => [] := by
              unfold gPart; rw [hst, List.append_assoc]
            have hpl2 : (gPart al n T i k).length ≤ 100 := by unfold gPart; rw [List.length_append]; omega
            have hpe := ed_len (gPart al n T i k)
            unfold gEd at hps
            rw [hxD, hevD] at hps
            generalize gPart al n T i k = R at *
            by_cases ht : x % (n + 2) < n
            · rw [if_pos ht] at hps
              simp (maxSteps := 1000000) (disch := first | omega | exact PairsOK.mk rfl | (simp only [lenW] <;> omega)) only [hkl, hk5, hi5, hgx, hn0, hrm, ht, head_nz hev, hpe, wordsN, Int.reduceGT, wordsR, ne_eq, wS_regionP, aAppend_slF, aAppend_slN, aSlice_fslH, setL_cons, setL_nil, aMakeMap_new, wordsM, aNil_ptr, aNil_fptr, Int.one_mul, bls_len, ints_len, cells_bl, one_bl, box_bl, List.length_replicate, words, Nat.reduceAdd, Nat.reduceEqDiff, Nat.reduceBEq, ↓reduceIte, reduceCtorEq, SX.exit.injEq, if_true, if_false, Int.reduceAdd, Int.reduceSub, Int.reduceMul, Int.reduceLT, Int.reduceLE, Int.reduceEq, Int.reduceNe, Int.reduceNeg, Int.reduceToNat, Nat.reduceMul, Nat.reduceLT, Nat.reduceSub, Nat.reduceLeDiff]
              refine ⟨k + 1, by omega, by omega, ?_⟩
              rw [hps, List.flatMap_append, List.length_append]
              exact ⟨[(50, .blk 50 0), (51, .blk 51 0), (52, .blk 52 0), (76, .blk 76 1), (77, .blk 77 0)], rfl, au0, au9, au10⟩
            · rw [if_neg ht, List.append_nil] at hps
              simp (maxSteps := 1000000) (disch := first | omega | exact PairsOK.mk rfl | (simp only [lenW] <;> omega)) only [hkl, hk5, hi5, hgx, hn0, hrm, ht, wordsN, Int.reduceGT, wordsR, ne_eq, wS_regionP, aAppend_slF, aAppend_slN, aSlice_fslH, setL_cons, setL_nil, aMakeMap_new, wordsM, aNil_ptr, aNil_fptr, Int.one_mul, bls_len, ints_len, cells_bl, one_bl, box_bl, List.length_replicate, words, Nat.reduceAdd, Nat.reduceEqDiff, Nat.reduceBEq, ↓reduceIte, reduceCtorEq, SX.exit.injEq, if_true, if_false, Int.reduceAdd, Int.reduceSub, Int.reduceMul, Int.reduceLT, Int.reduceLE, Int.reduceEq, Int.reduceNe, Int.reduceNeg, Int.reduceToNat, Nat.reduceMul, Nat.reduceLT, Nat.reduceSub, Nat.reduceLeDiff]
              refine ⟨k + 1, by omega, by omega, ?_⟩
              rw [hps]
              exact ⟨[(50, .blk 50 0), (51, .blk 51 0), (52, .blk 52 0), (76, .blk 76 0), (77, .blk 77 0)], rfl, au0, au9, au10⟩
          · have e : k = al.length := by omega
            subst e
            simp (maxSteps := 1000000) (disch := first | omega | exact PairsOK.mk rfl | (simp only [lenW] <;> omega)) only [hkl, wordsN, Int.reduceGT, wordsR, ne_eq, wS_regionP, aAppend_slF, aAppend_slN, aSlice_fslH, setL_cons, setL_nil, aMakeMap_new, wordsM, aNil_ptr, aNil_fptr, Int.one_mul, bls_len, ints_len, cells_bl, one_bl, box_bl, List.length_replicate, words, Nat.reduceAdd, Nat.reduceEqDiff, Nat.reduceBEq, ↓reduceIte, reduceCtorEq, SX.exit.injEq, if_true, if_false, Int.reduceAdd, Int.reduceSub, Int.reduceMul, Int.reduceLT, Int.reduceLE, Int.reduceEq, Int.reduceNe, Int.reduceNeg, Int.reduceToNat, Nat.reduceMul, Nat.reduceLT, Nat.reduceSub, Nat.reduceLeDiff]
            refine ⟨(), ?_⟩
            rw [hgs]
            exact ⟨[(50, .blk 50 0), (51, .blk 51 0), (52, .blk 52 0), (76, .blk 76 0), (77, .blk 77 0)], rfl, au0, au9, au10⟩
        rintro _ _
        simp (maxSteps := 1000000) (disch := first | omega | exact PairsOK.mk rfl | (simp only [lenW] <;> omega)) only [wordsN, Int.reduceGT, wordsR, ne_eq, wS_regionP, aAppend_slF, aAppend_slN, aSlice_fslH, setL_cons, setL_nil, aMakeMap_new, wordsM, aNil_ptr, aNil_fptr, Int.one_mul, bls_len, ints_len, cells_bl, one_bl, box_bl, List.length_replicate, words, Nat.reduceAdd, Nat.reduceEqDiff, Nat.reduceBEq, ↓reduceIte, reduceCtorEq, SX.exit.injEq, if_true, if_false, Int.reduceAdd, Int.reduceSub, Int.reduceMul, Int.reduceLT, Int.reduceLE, Int.reduceEq, Int.reduceNe, Int.reduceNeg, Int.reduceToNat, Nat.reduceMul, Nat.reduceLT, Nat.reduceSub, Nat.reduceLeDiff]
        refine ⟨i + 1, by omega, by omega, ?_⟩
        rw [hM1]
        exact ⟨[(50, .blk 50 0), (51, .blk 51 0), (52, .blk 52 0), (76, .blk 76 0), (77, .blk 77 0)], rfl, au0, au9, au10⟩
      · rw [if_neg hmv, List.append_nil] at hpt
        have hb : ¬ ((mk / 2 ^ i % 2 : Nat) : Int) = 1 := fun e => hmv (bit_iff.1 e)
        simp (maxSteps := 1000000) (disch := first | omega | exact PairsOK.mk rfl | (simp only [lenW] <;> omega)) only [hlt, aBin_shrN (k := .u8) (show i ≤ 8 by omega), aBin_and8, hb, wordsN, Int.reduceGT, wordsR, ne_eq, wS_regionP, aAppend_slF, aAppend_slN, aSlice_fslH, setL_cons, setL_nil, aMakeMap_new, wordsM, aNil_ptr, aNil_fptr, Int.one_mul, bls_len, ints_len, cells_bl, one_bl, box_bl, List.length_replicate, words, Nat.reduceAdd, Nat.reduceEqDiff, Nat.reduceBEq, ↓reduceIte, reduceCtorEq, SX.exit.injEq, if_true, if_false, Int.reduceAdd, Int.reduceSub, Int.reduceMul, Int.reduceLT, Int.reduceLE, Int.reduceEq, Int.reduceNe, Int.reduceNeg, Int.reduceToNat, Nat.reduceMul, Nat.reduceLT, Nat.reduceSub, Nat.reduceLeDiff]
        refine wS_loopX 300 (fun k : Nat => [(0, sliN al), (3, .ptr 50 0 0), (4, .ptr 51 0 0), (5, .ptr 52 0 0), (6, .int .i64 i), (7, .int .i64 k)])
          (fun k => [(50, .cells 0 (.int .u8 (st : Int) :: .int .u8 (mk : Int) :: u8s T)), (51, .cells 0 [.nilsl, .int .i64 0, .nilsl, .nilsl]), (52, .cells 0 [sliN al, .int .i64 (n : Int), .sl 77 0 0 M1.length 1, .sl 76 0 0 (gPart al n T i k).length 3]), (76, .cells 0 ((gPart al n T i k).flatMap edC)), (77, .cells 0 (ints (nz M1)))])
          (fun k => k ≤ al.length) (fun k => al.length - k) 0 2 400
          (fun _ : Unit => [(0, sliN al), (3, .ptr 50 0 0), (4, .ptr 51 0 0), (5, .ptr 52 0 0), (6, .int .i64 i)])
          (fun _ => [(50, .cells 0 (.int .u8 (st : Int) :: .int .u8 (mk : Int) :: u8s T)), (51, .cells 0 [.nilsl, .int .i64 0, .nilsl, .nilsl]), (52, .cells 0 [sliN al, .int .i64 (n : Int), .sl 77 0 0 M1.length 1, .sl 76 0 0 (gPre al n T (i + 1)).length 3]), (76, .cells 0 ((gPre al n T (i + 1)).flatMap edC)), (77, .cells 0 (ints (nz M1)))]) (fun _ => True) ?_ (Nat.zero_le _) ?_ ?_
        · rw [hg0, hpt]
          exact ⟨[(50, .blk 50 0), (51, .blk 51 0), (52, .blk 52 0), (76, .blk 76 0), (77, .blk 77 0)], rfl, au0, au9, au10⟩
        · rintro k hk
          by_cases hkl : k < al.length
          · obtain ⟨ev, hev⟩ := get_ex hkl
            have hevD : al.getD k 0 = ev := by rw [List.getD_eq_getElem?_getD, hev]; rfl
            obtain ⟨x, hx⟩ := get_ex (l := T) (i := i * 5 + k) (by omega)
            have hxD : T.getD (i * 5 + k) 0 = x := by rw [List.getD_eq_getElem?_getD, hx]; rfl
            have hx8 := hT8 x (List.mem_of_getElem? hx)
            have hk5 : (k : Int) < 5 := by omega
            have hi5 : (i : Int) < 5 := by omega
            have hgx : (AV.int .u8 (st : Int) :: AV.int .u8 (mk : Int) :: u8s T)[2 + i * 5 + k]? = some (.int .u8 (x : Int)) := by
              rw [show 2 + i * 5 + k = (i * 5 + k) + 2 by omega]
              simpa using get_u8 hx
            have hrm : (x : Int).tmod ((n : Int) + 2) = ((x % (n + 2) : Nat) : Int) := by
              rw [Int.tmod_eq_emod_of_nonneg (Int.natCast_nonneg _)]; norm_cast
            have hn0 : ¬ (n : Int) + 2 = 0 := by omega
            have hxm : x % (n + 2) ≤ 10 := by have := Nat.mod_lt x (show 0 < n + 2 by omega); omega
            have hst := gRow_succ (al := al) (n := n) (T := T) (i := i) (k := k)
            have hrl := @gRow_len al n T i k
            have hps : gPart al n T i (k + 1) = gPart al n T i k ++ match gEd al n T i k with | some e => [e] | none => [] := by
              unfold gPart; rw [hst, List.append_assoc]
            have hpl2 : (gPart al n T i k).length ≤ 100 := by unfold gPart; rw [List.length_append]; omega
            have hpe := ed_len (gPart al n T i k)
            unfold gEd at hps
            rw [hxD, hevD] at hps
            generalize gPart al n T i k = R at *
            by_cases ht : x % (n + 2) < n
            · rw [if_pos ht] at hps
              simp (maxSteps := 1000000) (disch := first | omega | exact PairsOK.mk rfl | (simp only [lenW] <;> omega)) only [hkl, hk5, hi5, hgx, hn0, hrm, ht, head_nz hev, hpe, wordsN, Int.reduceGT, wordsR, ne_eq, wS_regionP, aAppend_slF, aAppend_slN, aSlice_fslH, setL_cons, setL_nil, aMakeMap_new, wordsM, aNil_ptr, aNil_fptr, Int.one_mul, bls_len, ints_len, cells_bl, one_bl, box_bl, List.length_replicate, words, Nat.reduceAdd, Nat.reduceEqDiff, Nat.reduceBEq, ↓reduceIte, reduceCtorEq, SX.exit.injEq, if_true, if_false, Int.reduceAdd, Int.reduceSub, Int.reduceMul, Int.reduceLT, Int.reduceLE, Int.reduceEq, Int.reduceNe, Int.reduceNeg, Int.reduceToNat, Nat.reduceMul, Nat.reduceLT, Nat.reduceSub, Nat.reduceLeDiff]
              refine ⟨k + 1, by omega, by omega, ?_⟩
              rw [hps, List.flatMap_append, List.length_append]
              exact ⟨[(50, .blk 50 0), (51, .blk 51 0), (52, .blk 52 0), (76, .blk 76 1), (77, .blk 77 0)], rfl, au0, au9, au10⟩
            · rw [if_neg ht, List.append_nil] at hps
              simp (maxSteps := 1000000) (disch := first | omega | exact PairsOK.mk rfl | (simp only [lenW] <;> omega)) only [hkl, hk5, hi5, hgx, hn0, hrm, ht, wordsN, Int.reduceGT, wordsR, ne_eq, wS_regionP, aAppend_slF, aAppend_slN, aSlice_fslH, setL_cons, setL_nil, aMakeMap_new, wordsM, aNil_ptr, aNil_fptr, Int.one_mul, bls_len, ints_len, cells_bl, one_bl, box_bl, List.length_replicate, words, Nat.reduceAdd, Nat.reduceEqDiff, Nat.reduceBEq, ↓reduceIte, reduceCtorEq, SX.exit.injEq, if_true, if_false, Int.reduceAdd, Int.reduceSub, Int.reduceMul, Int.reduceLT, Int.reduceLE, Int.reduceEq, Int.reduceNe, Int.reduceNeg, Int.reduceToNat, Nat.reduceMul, Nat.reduceLT, Nat.reduceSub, Nat.reduceLeDiff]
              refine ⟨k + 1, by omega, by omega, ?_⟩
              rw [hps]
              exact ⟨[(50, .blk 50 0), (51, .blk 51 0), (52, .blk 52 0), (76, .blk 76 0), (77, .blk 77 0)], rfl, au0, au9, au10⟩
          · have e : k = al.length := by omega
            subst e
            simp (maxSteps := 1000000) (disch := first | omega | exact PairsOK.mk rfl | (simp only [lenW] <;> omega)) only [hkl, wordsN, Int.reduceGT, wordsR, ne_eq, wS_regionP, aAppend_slF, aAppend_slN, aSlice_fslH, setL_cons, setL_nil, aMakeMap_new, wordsM, aNil_ptr, aNil_fptr, Int.one_mul, bls_len, ints_len, cells_bl, one_bl, box_bl, List.length_replicate, words, Nat.reduceAdd, Nat.reduceEqDiff, Nat.reduceBEq, ↓reduceIte, reduceCtorEq, SX.exit.injEq, if_true, if_false, Int.reduceAdd, Int.reduceSub, Int.reduceMul, Int.reduceLT, Int.reduceLE, Int.reduceEq, Int.reduceNe, Int.reduceNeg, Int.reduceToNat, Nat.reduceMul, Nat.reduceLT, Nat.reduceSub, Nat.reduceLeDiff]
            refine ⟨(), ?_⟩
            rw [hgs]
            exact ⟨[(50, .blk 50 0), (51, .blk 51 0), (52, .blk 52 0), (76, .blk 76 0), (77, .blk 77 0)], rfl, au0, au9, au10⟩
        rintro _ _
        simp (maxSteps := 1000000) (disch := first | omega | exact PairsOK.mk rfl | (simp only [lenW] <;> omega)) only [wordsN, Int.reduceGT, wordsR, ne_eq, wS_regionP, aAppend_slF, aAppend_slN, aSlice_fslH, setL_cons, setL_nil, aMakeMap_new, wordsM, aNil_ptr, aNil_fptr, Int.one_mul, bls_len, ints_len, cells_bl, one_bl, box_bl, List.length_replicate, words, Nat.reduceAdd, Nat.reduceEqDiff, Nat.reduceBEq, ↓reduceIte, reduceCtorEq, SX.exit.injEq, if_true, if_false, Int.reduceAdd, Int.reduceSub, Int.reduceMul, Int.reduceLT, Int.reduceLE, Int.reduceEq, Int.reduceNe, Int.reduceNeg, Int.reduceToNat, Nat.reduceMul, Nat.reduceLT, Nat.reduceSub, Nat.reduceLeDiff]
        refine ⟨i + 1, by omega, by omega, ?_⟩
        rw [hM1]
        exact ⟨[(50, .blk 50 0), (51, .blk 51 0), (52, .blk 52 0), (76, .blk 76 0), (77, .blk 77 0)], rfl, au0, au9, au10⟩
    · have e : i = n := by omega
      subst e
      simp (maxSteps := 1000000) (disch := first | omega | exact PairsOK.mk rfl | (simp only [lenW] <;> omega)) only [hlt, wordsN, Int.reduceGT, wordsR, ne_eq, wS_regionP, aAppend_slF, aAppend_slN, aSlice_fslH, setL_cons, setL_nil, aMakeMap_new, wordsM, aNil_ptr, aNil_fptr, Int.one_mul, bls_len, ints_len, cells_bl, one_bl, box_bl, List.length_replicate, words, Nat.reduceAdd, Nat.reduceEqDiff, Nat.reduceBEq, ↓reduceIte, reduceCtorEq, SX.exit.injEq, if_true, if_false, Int.reduceAdd, Int.reduceSub, Int.reduceMul, Int.reduceLT, Int.reduceLE, Int.reduceEq, Int.reduceNe, Int.reduceNeg, Int.reduceToNat, Nat.reduceMul, Nat.reduceLT, Nat.reduceSub, Nat.reduceLeDiff]
      refine ⟨(), [(51, .blk 51 0), (52, .blk 52 0)], rfl, RO.zero, ?_, au10⟩
      refine RB.cells rfl rfl rfl (RnL.same rfl) (RB.cells rfl rfl rfl (RnL.cons (Rn.same (noRef_sliN _)) (RnL.cons (Rn.same rfl) (RnL.cons (Rn.fzm rfl rfl rfl rfl (by simp [ints]) (RnL.same (noRefs_ints _))) (RnL.cons (Rn.fzm rfl rfl rfl rfl (ed_len _) (RnL.same (noRefs_ed _))) RnL.nil)))) RB.nil)
  rintro _ _
  simp (maxSteps := 1000000) (disch := first | omega | exact PairsOK.mk rfl | (simp only [lenW] <;> omega)) only [wordsN, Int.reduceGT, wordsR, ne_eq, wS_regionP, aAppend_slF, aAppend_slN, aSlice_fslH, setL_cons, setL_nil, aMakeMap_new, wordsM, aNil_ptr, aNil_fptr, Int.one_mul, bls_len, ints_len, cells_bl, one_bl, box_bl, List.length_replicate, words, Nat.reduceAdd, Nat.reduceEqDiff, Nat.reduceBEq, ↓reduceIte, reduceCtorEq, SX.exit.injEq, if_true, if_false, Int.reduceAdd, Int.reduceSub, Int.reduceMul, Int.reduceLT, Int.reduceLE, Int.reduceEq, Int.reduceNe, Int.reduceNeg, Int.reduceToNat, Nat.reduceMul, Nat.reduceLT, Nat.reduceSub, Nat.reduceLeDiff]
  refine cp hcan ?_
  generalize canon ⟨al, n, SD.part n mk, gPre al n T n⟩ = C at *
  simp (maxSteps := 1000000) (disch := first | omega | exact PairsOK.mk rfl | (simp only [lenW] <;> omega)) only [wordsN, Int.reduceGT, wordsR, ne_eq, wS_regionP, aAppend_slF, aAppend_slN, aSlice_fslH, setL_cons, setL_nil, aMakeMap_new, wordsM, aNil_ptr, aNil_fptr, Int.one_mul, bls_len, ints_len, cells_bl, one_bl, box_bl, List.length_replicate, words, Nat.reduceAdd, Nat.reduceEqDiff, Nat.reduceBEq, ↓reduceIte, reduceCtorEq, SX.exit.injEq, if_true, if_false, Int.reduceAdd, Int.reduceSub, Int.reduceMul, Int.reduceLT, Int.reduceLE, Int.reduceEq, Int.reduceNe, Int.reduceNeg, Int.reduceToNat, Nat.reduceMul, Nat.reduceLT, Nat.reduceSub, Nat.reduceLeDiff]
  exact ⟨.inr trivial, _, rfl, Rn.same (noRef_aV _)⟩
end Go.AM.SE
namespace Go.AM.SE
open Go.Proofs Go.AM.SD
set_option maxRecDepth 100000
set_option linter.unusedSimpArgs false
set_option linter.unusedVariables false
structure Tsk where
  set : Nat
  st : Nat
  mr : Nat
  T : List Nat
  fb : Nat
  un : Nat
structure TOk (t : Tsk) : Prop where
  set : t.set < 256
  st : t.st < 256
  mr : t.mr < 256
  T : t.T.length = 25
  T8 : ∀ x ∈ t.T, x < 256
  fb : t.fb < 4294967296
  un : t.un < 256
abbrev tskV (t : Tsk) : AV := .agg (.int .u8 (t.set : Int) :: .int .u8 (t.st : Int) :: .int .u8 (t.mr : Int) :: (u8s t.T ++ [.int .u32 (t.fb : Int), .int .u8 (t.un : Int)]))
def tA (t : Tsk) : Aut := mkA (SD.part 5 t.set) t.st t.mr t.T
def tF (t : Tsk) : List Nat := SD.part (tA t).n t.fb
def tU (t : Tsk) : List Nat := SD.part 5 t.un
theorem part_lt {n b : Nat} : ∀ x ∈ SD.part n b, x < n := fun x hx => (mem_part.1 hx).1
theorem tA_wf (t : Tsk) : WfA (tA t) := mkA_wf (part_sorted _ _) part_lt
theorem tA_el (t : Tsk) : (tA t).es.length ≤ 1000000 := by
  have h := tA_wf t
  have hr := gRaw_raw (al := SD.part 5 t.set) (st := t.st) (mk := t.mr) (T := t.T) (@part_len 5 t.set)
  have h1 := cPre_len (gRaw (SD.part 5 t.set) t.st t.mr t.T) (found (gRaw (SD.part 5 t.set) t.st t.mr t.T)) (found (gRaw (SD.part 5 t.set) t.st t.mr t.T)).length
  have h2 : (tA t).es.length = (cPre (gRaw (SD.part 5 t.set) t.st t.mr t.T) (found (gRaw (SD.part 5 t.set) t.st t.mr t.T)) (found (gRaw (SD.part 5 t.set) t.st t.mr t.T)).length).length := rfl
  have h3 : (found (gRaw (SD.part 5 t.set) t.st t.mr t.T)).length ≤ 5 := h.n5
  rw [h2]
  exact Nat.le_trans h1 (Nat.le_trans (Nat.mul_le_mul h3 hr.al) (by decide))
theorem tQ (t : Tsk) : QOk (tA t) (tF t) (tU t) := ⟨part_sorted _ _, part_lt, part_sorted _ _, fun x hx => by have := part_lt x hx; omega⟩
theorem noRef_tsk (t : Tsk) : noRef (tskV t) = true := by
  simp only [noRef, noRefs, noRefs_append, noRefs_u8]; rfl
theorem u8_drop {l : List Nat} {r : List AV} {k : Nat} (h : l.length = k) : (u8s l ++ r).take k = u8s l := by
  have : (u8s l).length = k := by simp [u8s, h]
  rw [List.take_append_of_le_length (by omega), ← this, List.take_length]
set_option maxHeartbeats 16000000 in
theorem open10 (t : Tsk) (h : TOk t) : PSpec Try.prog 10 [tskV t] (.tup [aV (tA t), sliN (tF t), sliN (tU t)]) := by
  have hlu : (u8s t.T).length = 25 := by simp [u8s, h.T]
  have hM := Make32 (SD.part 5 t.set) t.st t.mr t.T (part_sorted _ _) part_lt h.st h.mr h.T h.T8
  have hE := events16 t.set h.set
  have hE2 := events16 t.un h.un
  have hn5 := (tA_wf t).n5
  have hP := part12 (tA t).n t.fb (by omega) h.fb
  have ht := u8_drop (l := t.T) (r := [.int .u32 (t.fb : Int), .int .u8 (t.un : Int)]) h.T
  have g1 : (u8s t.T ++ [AV.int .u32 (t.fb : Int), .int .u8 (t.un : Int)])[25]? = some (.int .u32 (t.fb : Int)) := by rw [List.getElem?_append_right (by omega), hlu]; rfl
  have g2 : (u8s t.T ++ [AV.int .u32 (t.fb : Int), .int .u8 (t.un : Int)])[26]? = some (.int .u8 (t.un : Int)) := by rw [List.getElem?_append_right (by omega), hlu]; rfl
  refine PSpec.of_rn 40 ok10 rfl (by rw [noRefs, noRef_tsk]; rfl) (by simp only [noRef, noRefs, noRefs_ints, noRefs_ed]; rfl) ?_
  simp (maxSteps := 1000000) (disch := first | omega | exact PairsOK.mk rfl | (simp only [lenW] <;> omega)) only [s10, wordsN, Int.reduceGT, wordsR, ne_eq, wS_regionP, aAppend_slF, aAppend_slN, aSlice_fslH, setL_cons, setL_nil, aMakeMap_new, wordsM, aNil_ptr, aNil_fptr, Int.one_mul, bls_len, ints_len, cells_bl, one_bl, box_bl, List.length_replicate, words, Nat.reduceAdd, Nat.reduceEqDiff, Nat.reduceBEq, ↓reduceIte, reduceCtorEq, SX.exit.injEq, if_true, if_false, Int.reduceAdd, Int.reduceSub, Int.reduceMul, Int.reduceLT, Int.reduceLE, Int.reduceEq, Int.reduceNe, Int.reduceNeg, Int.reduceToNat, Nat.reduceMul, Nat.reduceLT, Nat.reduceSub, Nat.reduceLeDiff]
  refine wS_regionH [] rfl (pairs_cons (a := []) (b := [50]) rfl rfl (fun x hx => by cases hx) (pairs_cons (a := []) (b := [50]) rfl rfl (fun x hx => by cases hx) pairs_nil)) ?_
  simp (maxSteps := 1000000) (disch := first | omega | exact PairsOK.mk rfl | (simp only [lenW] <;> omega)) only [wordsN, Int.reduceGT, wordsR, ne_eq, wS_regionP, aAppend_slF, aAppend_slN, aSlice_fslH, setL_cons, setL_nil, aMakeMap_new, wordsM, aNil_ptr, aNil_fptr, Int.one_mul, bls_len, ints_len, cells_bl, one_bl, box_bl, List.length_replicate, words, Nat.reduceAdd, Nat.reduceEqDiff, Nat.reduceBEq, ↓reduceIte, reduceCtorEq, SX.exit.injEq, if_true, if_false, Int.reduceAdd, Int.reduceSub, Int.reduceMul, Int.reduceLT, Int.reduceLE, Int.reduceEq, Int.reduceNe, Int.reduceNeg, Int.reduceToNat, Nat.reduceMul, Nat.reduceLT, Nat.reduceSub, Nat.reduceLeDiff]
  refine cp hE ?_
  simp (maxSteps := 1000000) (disch := first | omega | exact PairsOK.mk rfl | (simp only [lenW] <;> omega)) only [hlu, ht, wordsN, Int.reduceGT, wordsR, ne_eq, wS_regionP, aAppend_slF, aAppend_slN, aSlice_fslH, setL_cons, setL_nil, aMakeMap_new, wordsM, aNil_ptr, aNil_fptr, Int.one_mul, bls_len, ints_len, cells_bl, one_bl, box_bl, List.length_replicate, words, Nat.reduceAdd, Nat.reduceEqDiff, Nat.reduceBEq, ↓reduceIte, reduceCtorEq, SX.exit.injEq, if_true, if_false, Int.reduceAdd, Int.reduceSub, Int.reduceMul, Int.reduceLT, Int.reduceLE, Int.reduceEq, Int.reduceNe, Int.reduceNeg, Int.reduceToNat, Nat.reduceMul, Nat.reduceLT, Nat.reduceSub, Nat.reduceLeDiff]
  refine cp hM ?_
  have hA : mkA (SD.part 5 t.set) t.st t.mr t.T = tA t := rfl
  rw [hA]
  have hF : SD.part (tA t).n t.fb = tF t := rfl
  rw [hF] at hP
  have hU : SD.part 5 t.un = tU t := rfl
  rw [hU] at hE2
  generalize tA t = A at *
  generalize tF t = F at *
  generalize tU t = U at *
  simp (maxSteps := 1000000) (disch := first | omega | exact PairsOK.mk rfl | (simp only [lenW] <;> omega)) only [hlu, g1, g2, wordsN, Int.reduceGT, wordsR, ne_eq, wS_regionP, aAppend_slF, aAppend_slN, aSlice_fslH, setL_cons, setL_nil, aMakeMap_new, wordsM, aNil_ptr, aNil_fptr, Int.one_mul, bls_len, ints_len, cells_bl, one_bl, box_bl, List.length_replicate, words, Nat.reduceAdd, Nat.reduceEqDiff, Nat.reduceBEq, ↓reduceIte, reduceCtorEq, SX.exit.injEq, if_true, if_false, Int.reduceAdd, Int.reduceSub, Int.reduceMul, Int.reduceLT, Int.reduceLE, Int.reduceEq, Int.reduceNe, Int.reduceNeg, Int.reduceToNat, Nat.reduceMul, Nat.reduceLT, Nat.reduceSub, Nat.reduceLeDiff]
  refine ⟨trivial, ?_⟩
  refine cp hP ?_
  simp (maxSteps := 1000000) (disch := first | omega | exact PairsOK.mk rfl | (simp only [lenW] <;> omega)) only [hlu, g1, g2, wordsN, Int.reduceGT, wordsR, ne_eq, wS_regionP, aAppend_slF, aAppend_slN, aSlice_fslH, setL_cons, setL_nil, aMakeMap_new, wordsM, aNil_ptr, aNil_fptr, Int.one_mul, bls_len, ints_len, cells_bl, one_bl, box_bl, List.length_replicate, words, Nat.reduceAdd, Nat.reduceEqDiff, Nat.reduceBEq, ↓reduceIte, reduceCtorEq, SX.exit.injEq, if_true, if_false, Int.reduceAdd, Int.reduceSub, Int.reduceMul, Int.reduceLT, Int.reduceLE, Int.reduceEq, Int.reduceNe, Int.reduceNeg, Int.reduceToNat, Nat.reduceMul, Nat.reduceLT, Nat.reduceSub, Nat.reduceLeDiff]
  refine cp hE2 ?_
  simp (maxSteps := 1000000) (disch := first | omega | exact PairsOK.mk rfl | (simp only [lenW] <;> omega)) only [wordsN, Int.reduceGT, wordsR, ne_eq, wS_regionP, aAppend_slF, aAppend_slN, aSlice_fslH, setL_cons, setL_nil, aMakeMap_new, wordsM, aNil_ptr, aNil_fptr, Int.one_mul, bls_len, ints_len, cells_bl, one_bl, box_bl, List.length_replicate, words, Nat.reduceAdd, Nat.reduceEqDiff, Nat.reduceBEq, ↓reduceIte, reduceCtorEq, SX.exit.injEq, if_true, if_false, Int.reduceAdd, Int.reduceSub, Int.reduceMul, Int.reduceLT, Int.reduceLE, Int.reduceEq, Int.reduceNe, Int.reduceNeg, Int.reduceToNat, Nat.reduceMul, Nat.reduceLT, Nat.reduceSub, Nat.reduceLeDiff]
  refine ⟨.inr trivial, _, rfl, ?_⟩
  exact Rn.same (by simp only [noRef, noRefs, noRefs_ints, noRefs_ed]; rfl)
end Go.AM.SE
namespace Go.AM.SE
open Go.Proofs Go.AM.SD
set_option maxRecDepth 100000
set_option linter.unusedSimpArgs false
set_option linter.unusedVariables false
abbrev blF (l : LB) (n : Nat) : AV := .fsl (bls l) n 1
def o0P (n : Nat) (mk : List Nat) (left : Nat → Bool) (i : Nat) : List Int := (List.range i).map (fun i => if left i && mk.contains i then 0 else -1) ++ List.replicate (n - i) 0
theorem o0P_len {n : Nat} {mk : List Nat} {left : Nat → Bool} {i : Nat} (h : i ≤ n) : (o0P n mk left i).length = n := by unfold o0P; simp; omega
theorem o0P_set {n : Nat} {mk : List Nat} {left : Nat → Bool} {i : Nat} (h : i < n) : (o0P n mk left i).set i (if left i && mk.contains i then 0 else -1) = o0P n mk left (i + 1) := by
  unfold o0P
  rw [List.set_append_right _ _ (by simp), List.length_map, List.length_range, Nat.sub_self, show n - i = (n - (i + 1)) + 1 by omega, List.replicate_succ, List.set_cons_zero, List.range_succ, List.map_append, List.append_assoc]; rfl
theorem o0P_end {n : Nat} {mk : List Nat} {left : Nat → Bool} : o0P n mk left n = o0 n mk left := by unfold o0P o0; simp
theorem rRd_take {es : List Ed} {left : Nat → Bool} {r i : Nat} {o : List Int} {e : Ed} (h : es[i]? = some e) : rRd (es.take (i + 1)) left r o = rEd left r (rRd (es.take i) left r o) e := by
  unfold rRd
  rw [List.take_add_one, h, Option.toList, List.foldl_append]; rfl
theorem rRd_len {left : Nat → Bool} {r : Nat} (es : List Ed) (o : List Int) : (rRd es left r o).1.length = o.length := by
  have key : ∀ (es : List Ed) (s : List Int × Bool), (es.foldl (rEd left r) s).1.length = s.1.length := by
    intro es
    induction es with
    | nil => intro s; rfl
    | cons e es ih =>
      intro s
      rw [List.foldl_cons, ih]
      unfold rEd; split <;> simp
  exact key es _
theorem cntN_le {n : Nat} {o : List Int} : cntN n o ≤ n := by unfold cntN; exact Nat.le_trans List.countP_le_length (by simp)
set_option maxHeartbeats 32000000 in
theorem dist33 (a : Aut) (l : LB) (hin : InN a.n a.es a.ms) (hl : l.length = a.n) (hn : a.n ≤ 4096) (hel : a.es.length ≤ 1000000) (hml : a.ms.length ≤ 1000000) :
    HSpec Try.prog 33 [aV a, blF l a.n] .e (.sl 84 0 0 a.n 1) (hp [(84, .cells 0 (ints (rDist a.es (lf l) (a.n + 1) 1 (o0 a.n a.ms (lf l)))))]) := by
  refine HSpec.of_new 100 ok33 rfl ?_
  have hn' : (a.n : Int) ≤ 1099511627776 := by omega
  have hn8 : (8 : Int) * a.n ≤ 1099511627776 := by omega
  simp (maxSteps := 1000000) (disch := first | omega | exact PairsOK.mk rfl | (simp only [lenW] <;> omega)) only [s33, hn', hn8, ints_rep, wordsN, Int.reduceGT, wordsR, ne_eq, wS_regionP, aAppend_slF, aAppend_slN, aSlice_fslH, setL_cons, setL_nil, aMakeMap_new, wordsM, aNil_ptr, aNil_fptr, Int.one_mul, bls_len, ints_len, cells_bl, one_bl, box_bl, List.length_replicate, words, Nat.reduceAdd, Nat.reduceEqDiff, Nat.reduceBEq, ↓reduceIte, reduceCtorEq, SX.exit.injEq, if_true, if_false, Int.reduceAdd, Int.reduceSub, Int.reduceMul, Int.reduceLT, Int.reduceLE, Int.reduceEq, Int.reduceNe, Int.reduceNeg, Int.reduceToNat, Nat.reduceMul, Nat.reduceLT, Nat.reduceSub, Nat.reduceLeDiff]
  refine wS_loopX 120 (fun i : Nat => [(1, blF l a.n), (2, .ptr 50 0 0), (5, .sl 84 0 0 a.n 1), (6, .int .i64 i)])
    (fun i => [(50, .cells 0 [sliN a.al, .int .i64 (a.n : Int), sliN a.ms, egsN a.es]), (84, .cells 0 (ints (o0P a.n a.ms (lf l) i)))])
    (fun i => i ≤ a.n) (fun i => a.n - i) 0 0 160
    (fun _ : Unit => [(1, blF l a.n), (2, .ptr 50 0 0), (5, .sl 84 0 0 a.n 1)])
    (fun _ => [(50, .cells 0 [sliN a.al, .int .i64 (a.n : Int), sliN a.ms, egsN a.es]), (84, .cells 0 (ints (o0 a.n a.ms (lf l))))]) (fun _ => True) ?_ (Nat.zero_le _) ?_ ?_
  · have e : List.replicate a.n (0 : Int) = o0P a.n a.ms (lf l) 0 := by simp [o0P]
    rw [e]
    exact ⟨[(50, .blk 100 0), (84, .blk 104 0)], rfl, au0, au9, au10⟩
  · rintro i hi
    by_cases hlt : i < a.n
    · have hil : i < l.length := by omega
      have hol := o0P_len (mk := a.ms) (left := lf l) hi
      have hst := o0P_set (mk := a.ms) (left := lf l) hlt
      generalize o0P a.n a.ms (lf l) i = o at *
      have h1 : i + 1 ≤ o.length := by omega
      have hss : (o.set i (-1)).set i 0 = o.set i 0 := by rw [List.set_set]
      by_cases hli : lf l i = true
      · have hh := has15 (nz a.ms) i (by simp; omega)
        rw [mem_nz, sli_nz] at hh
        by_cases hc : a.ms.contains i = true
        · rw [hli, hc, if_pos (by rfl)] at hst
          rw [hc] at hh
          simp (maxSteps := 1000000) (disch := first | omega | exact PairsOK.mk rfl | (simp only [lenW] <;> omega)) only [hlt, h1, ints_set, head_bls hil, hli, wordsN, Int.reduceGT, wordsR, ne_eq, wS_regionP, aAppend_slF, aAppend_slN, aSlice_fslH, setL_cons, setL_nil, aMakeMap_new, wordsM, aNil_ptr, aNil_fptr, Int.one_mul, bls_len, ints_len, cells_bl, one_bl, box_bl, List.length_replicate, words, Nat.reduceAdd, Nat.reduceEqDiff, Nat.reduceBEq, ↓reduceIte, reduceCtorEq, SX.exit.injEq, if_true, if_false, Int.reduceAdd, Int.reduceSub, Int.reduceMul, Int.reduceLT, Int.reduceLE, Int.reduceEq, Int.reduceNe, Int.reduceNeg, Int.reduceToNat, Nat.reduceMul, Nat.reduceLT, Nat.reduceSub, Nat.reduceLeDiff]
          refine cp hh ?_
          simp (maxSteps := 1000000) (disch := first | omega | exact PairsOK.mk rfl | (simp only [lenW] <;> omega)) only [hlt, h1, ints_set, hss, List.length_set, wordsN, Int.reduceGT, wordsR, ne_eq, wS_regionP, aAppend_slF, aAppend_slN, aSlice_fslH, setL_cons, setL_nil, aMakeMap_new, wordsM, aNil_ptr, aNil_fptr, Int.one_mul, bls_len, ints_len, cells_bl, one_bl, box_bl, List.length_replicate, words, Nat.reduceAdd, Nat.reduceEqDiff, Nat.reduceBEq, ↓reduceIte, reduceCtorEq, SX.exit.injEq, if_true, if_false, Int.reduceAdd, Int.reduceSub, Int.reduceMul, Int.reduceLT, Int.reduceLE, Int.reduceEq, Int.reduceNe, Int.reduceNeg, Int.reduceToNat, Nat.reduceMul, Nat.reduceLT, Nat.reduceSub, Nat.reduceLeDiff]
          refine ⟨i + 1, by omega, by omega, ?_⟩
          rw [← hst]
          exact ⟨[(50, .blk 50 0), (84, .blk 84 0)], rfl, au0, au9, au10⟩
        · rw [Bool.not_eq_true] at hc
          rw [hli, hc, if_neg (by decide)] at hst
          rw [hc] at hh
          simp (maxSteps := 1000000) (disch := first | omega | exact PairsOK.mk rfl | (simp only [lenW] <;> omega)) only [hlt, h1, ints_set, head_bls hil, hli, wordsN, Int.reduceGT, wordsR, ne_eq, wS_regionP, aAppend_slF, aAppend_slN, aSlice_fslH, setL_cons, setL_nil, aMakeMap_new, wordsM, aNil_ptr, aNil_fptr, Int.one_mul, bls_len, ints_len, cells_bl, one_bl, box_bl, List.length_replicate, words, Nat.reduceAdd, Nat.reduceEqDiff, Nat.reduceBEq, ↓reduceIte, reduceCtorEq, SX.exit.injEq, if_true, if_false, Int.reduceAdd, Int.reduceSub, Int.reduceMul, Int.reduceLT, Int.reduceLE, Int.reduceEq, Int.reduceNe, Int.reduceNeg, Int.reduceToNat, Nat.reduceMul, Nat.reduceLT, Nat.reduceSub, Nat.reduceLeDiff]
          refine cp hh ?_
          simp (maxSteps := 1000000) (disch := first | omega | exact PairsOK.mk rfl | (simp only [lenW] <;> omega)) only [wordsN, Int.reduceGT, wordsR, ne_eq, wS_regionP, aAppend_slF, aAppend_slN, aSlice_fslH, setL_cons, setL_nil, aMakeMap_new, wordsM, aNil_ptr, aNil_fptr, Int.one_mul, bls_len, ints_len, cells_bl, one_bl, box_bl, List.length_replicate, words, Nat.reduceAdd, Nat.reduceEqDiff, Nat.reduceBEq, ↓reduceIte, reduceCtorEq, SX.exit.injEq, if_true, if_false, Int.reduceAdd, Int.reduceSub, Int.reduceMul, Int.reduceLT, Int.reduceLE, Int.reduceEq, Int.reduceNe, Int.reduceNeg, Int.reduceToNat, Nat.reduceMul, Nat.reduceLT, Nat.reduceSub, Nat.reduceLeDiff]
          refine ⟨i + 1, by omega, by omega, ?_⟩
          rw [← hst]
          exact ⟨[(50, .blk 50 0), (84, .blk 84 0)], rfl, au0, au9, au10⟩
      · rw [Bool.not_eq_true] at hli
        rw [hli, Bool.false_and, if_neg (by decide)] at hst
        simp (maxSteps := 1000000) (disch := first | omega | exact PairsOK.mk rfl | (simp only [lenW] <;> omega)) only [hlt, h1, ints_set, head_bls hil, hli, wordsN, Int.reduceGT, wordsR, ne_eq, wS_regionP, aAppend_slF, aAppend_slN, aSlice_fslH, setL_cons, setL_nil, aMakeMap_new, wordsM, aNil_ptr, aNil_fptr, Int.one_mul, bls_len, ints_len, cells_bl, one_bl, box_bl, List.length_replicate, words, Nat.reduceAdd, Nat.reduceEqDiff, Nat.reduceBEq, ↓reduceIte, reduceCtorEq, SX.exit.injEq, if_true, if_false, Int.reduceAdd, Int.reduceSub, Int.reduceMul, Int.reduceLT, Int.reduceLE, Int.reduceEq, Int.reduceNe, Int.reduceNeg, Int.reduceToNat, Nat.reduceMul, Nat.reduceLT, Nat.reduceSub, Nat.reduceLeDiff]
        refine ⟨i + 1, by omega, by omega, ?_⟩
        rw [← hst]
        exact ⟨[(50, .blk 50 0), (84, .blk 84 0)], rfl, au0, au9, au10⟩
    · have e : i = a.n := by omega
      subst e
      simp (maxSteps := 1000000) (disch := first | omega | exact PairsOK.mk rfl | (simp only [lenW] <;> omega)) only [hlt, wordsN, Int.reduceGT, wordsR, ne_eq, wS_regionP, aAppend_slF, aAppend_slN, aSlice_fslH, setL_cons, setL_nil, aMakeMap_new, wordsM, aNil_ptr, aNil_fptr, Int.one_mul, bls_len, ints_len, cells_bl, one_bl, box_bl, List.length_replicate, words, Nat.reduceAdd, Nat.reduceEqDiff, Nat.reduceBEq, ↓reduceIte, reduceCtorEq, SX.exit.injEq, if_true, if_false, Int.reduceAdd, Int.reduceSub, Int.reduceMul, Int.reduceLT, Int.reduceLE, Int.reduceEq, Int.reduceNe, Int.reduceNeg, Int.reduceToNat, Nat.reduceMul, Nat.reduceLT, Nat.reduceSub, Nat.reduceLeDiff]
      refine ⟨(), ?_⟩
      rw [← o0P_end]
      exact ⟨[(50, .blk 50 0), (84, .blk 84 0)], rfl, au0, au9, au10⟩
  rintro _ _
  simp (maxSteps := 1000000) (disch := first | omega | exact PairsOK.mk rfl | (simp only [lenW] <;> omega)) only [wordsN, Int.reduceGT, wordsR, ne_eq, wS_regionP, aAppend_slF, aAppend_slN, aSlice_fslH, setL_cons, setL_nil, aMakeMap_new, wordsM, aNil_ptr, aNil_fptr, Int.one_mul, bls_len, ints_len, cells_bl, one_bl, box_bl, List.length_replicate, words, Nat.reduceAdd, Nat.reduceEqDiff, Nat.reduceBEq, ↓reduceIte, reduceCtorEq, SX.exit.injEq, if_true, if_false, Int.reduceAdd, Int.reduceSub, Int.reduceMul, Int.reduceLT, Int.reduceLE, Int.reduceEq, Int.reduceNe, Int.reduceNeg, Int.reduceToNat, Nat.reduceMul, Nat.reduceLT, Nat.reduceSub, Nat.reduceLeDiff]
  have hri := RI.start (left := lf l) hin
  have hc0 : cntN a.n (o0 a.n a.ms (lf l)) ≤ a.n := cntN_le
  have hes := fun e he => hin.1 e he
  generalize o0 a.n a.ms (lf l) = o1 at *
  refine wS_loopX 180 (fun t : Nat × List Int × Bool => [(1, blF l a.n), (2, .ptr 50 0 0), (5, .sl 84 0 0 a.n 1), (7, .int .i64 ((a.n + 2 - t.1 : Nat) : Int)), (8, .bool t.2.2)])
    (fun t => [(50, .cells 0 [sliN a.al, .int .i64 (a.n : Int), sliN a.ms, egsN a.es]), (84, .cells 0 (ints t.2.1))])
    (fun t => RI a.n a.es a.ms (lf l) (a.n + 2 - t.1) t.2.1 ∧ t.1 ≤ a.n + 1 ∧ (t.2.2 = true → cntN a.n t.2.1 < t.1) ∧ (if t.2.2 then rDist a.es (lf l) t.1 (a.n + 2 - t.1) t.2.1 else t.2.1) = rDist a.es (lf l) (a.n + 1) 1 o1) (fun t => t.1) (a.n + 1, o1, true) 2 200
    (fun _ : Unit => [(5, .sl 84 0 0 a.n 1)])
    (fun _ => [(84, .cells 0 (ints (rDist a.es (lf l) (a.n + 1) 1 o1)))]) (fun _ => True) ?_ ?_ ?_ ?_
  · have e : a.n + 2 - (a.n + 1) = 1 := by omega
    dsimp only
    rw [e]
    exact ⟨[(50, .blk 50 0), (84, .blk 84 0)], rfl, au0, au9, au10⟩
  · have e : a.n + 2 - (a.n + 1) = 1 := by omega
    dsimp only
    rw [e]
    exact ⟨hri, by omega, fun _ => by omega, rfl⟩
  · rintro ⟨k, o, more⟩ ⟨hR, hk, hcn, heq⟩
    dsimp only at hR hk hcn heq ⊢
    cases more with
    | false =>
      rw [if_neg (by decide)] at heq
      simp (maxSteps := 1000000) (disch := first | omega | exact PairsOK.mk rfl | (simp only [lenW] <;> omega)) only [wordsN, Int.reduceGT, wordsR, ne_eq, wS_regionP, aAppend_slF, aAppend_slN, aSlice_fslH, setL_cons, setL_nil, aMakeMap_new, wordsM, aNil_ptr, aNil_fptr, Int.one_mul, bls_len, ints_len, cells_bl, one_bl, box_bl, List.length_replicate, words, Nat.reduceAdd, Nat.reduceEqDiff, Nat.reduceBEq, ↓reduceIte, reduceCtorEq, SX.exit.injEq, if_true, if_false, Int.reduceAdd, Int.reduceSub, Int.reduceMul, Int.reduceLT, Int.reduceLE, Int.reduceEq, Int.reduceNe, Int.reduceNeg, Int.reduceToNat, Nat.reduceMul, Nat.reduceLT, Nat.reduceSub, Nat.reduceLeDiff]
      refine ⟨(), ?_⟩
      rw [← heq]
      exact ⟨[(84, .blk 84 0)], rfl, au0, au9, au10⟩
    | true =>
      rw [if_pos rfl] at heq
      have hck := hcn rfl
      obtain ⟨k, rfl⟩ : ∃ k', k = k' + 1 := ⟨k - 1, by omega⟩
      have er : a.n + 2 - k = (a.n + 2 - (k + 1)) + 1 := by omega
      have hr1 : 1 ≤ a.n + 2 - (k + 1) := by omega
      have hrn : a.n + 2 - (k + 1) ≤ 4097 := by omega
      generalize hrr : a.n + 2 - (k + 1) = r at *
      have hj := RJ.all hr1 hin hR
      have hnx := hR.next hr1 hin
      have hmono : ∀ x, x < a.n → 0 ≤ o.getD x 0 → 0 ≤ (rRd a.es (lf l) r o).1.getD x 0 := fun x hx h0 => by rw [hj.old x hx h0]; exact h0
      have hcl : (rRd a.es (lf l) r o).2 = true → cntN a.n (rRd a.es (lf l) r o).1 < k := fun hf => by
        obtain ⟨x, hx, h1, h2⟩ := hj.flag hf
        have := cnt_lt hmono hx h1 h2; omega
      rw [rDist] at heq
      have hol := hR.len
      simp (maxSteps := 1000000) (disch := first | omega | exact PairsOK.mk rfl | (simp only [lenW] <;> omega)) only [wordsN, Int.reduceGT, wordsR, ne_eq, wS_regionP, aAppend_slF, aAppend_slN, aSlice_fslH, setL_cons, setL_nil, aMakeMap_new, wordsM, aNil_ptr, aNil_fptr, Int.one_mul, bls_len, ints_len, cells_bl, one_bl, box_bl, List.length_replicate, words, Nat.reduceAdd, Nat.reduceEqDiff, Nat.reduceBEq, ↓reduceIte, reduceCtorEq, SX.exit.injEq, if_true, if_false, Int.reduceAdd, Int.reduceSub, Int.reduceMul, Int.reduceLT, Int.reduceLE, Int.reduceEq, Int.reduceNe, Int.reduceNeg, Int.reduceToNat, Nat.reduceMul, Nat.reduceLT, Nat.reduceSub, Nat.reduceLeDiff]
      refine wS_loopX 220 (fun i : Nat => [(1, blF l a.n), (2, .ptr 50 0 0), (5, .sl 84 0 0 a.n 1), (7, .int .i64 (r : Int)), (8, .bool (rRd (a.es.take i) (lf l) r o).2), (9, .int .i64 i)])
        (fun i => [(50, .cells 0 [sliN a.al, .int .i64 (a.n : Int), sliN a.ms, egsN a.es]), (84, .cells 0 (ints (rRd (a.es.take i) (lf l) r o).1))])
        (fun i => i ≤ a.es.length) (fun i => a.es.length - i) 0 4 240
        (fun _ : Unit => [(1, blF l a.n), (2, .ptr 50 0 0), (5, .sl 84 0 0 a.n 1), (7, .int .i64 (r : Int)), (8, .bool (rRd a.es (lf l) r o).2)])
        (fun _ => [(50, .cells 0 [sliN a.al, .int .i64 (a.n : Int), sliN a.ms, egsN a.es]), (84, .cells 0 (ints (rRd a.es (lf l) r o).1))]) (fun _ => True) ?_ (Nat.zero_le _) ?_ ?_
      · exact ⟨[(50, .blk 50 0), (84, .blk 84 0)], rfl, au0, au9, au10⟩
      · rintro i hi
        by_cases hlt : i < a.es.length
        · obtain ⟨e, he⟩ := get_ex hlt
          obtain ⟨hfr, hto⟩ := hes e (List.mem_of_getElem? he)
          have hst := rRd_take (left := lf l) (r := r) (o := o) he
          have htl := rRd_len (left := lf l) (r := r) (a.es.take i) o
          generalize rRd (a.es.take i) (lf l) r o = t at *
          have hfl : e.1 < l.length := by omega
          have htl2 : e.2.2 < l.length := by omega
          have hft : e.1 < t.1.length := by omega
          have htt : e.2.2 < t.1.length := by omega
          by_cases h1 : lf l e.1 = true
          · by_cases h2 : lf l e.2.2 = true
            · by_cases h3 : t.1.getD e.1 0 < 0
              · by_cases h4 : t.1.getD e.2.2 0 = (r : Int) - 1
                · have hs2 : rEd (lf l) r t e = (t.1.set e.1 (r : Int), true) := by unfold rEd; rw [if_pos (by rw [h1, h2, decide_eq_true h3, decide_eq_true h4]; rfl)]
                  rw [hs2] at hst
                  have hf1 : e.1 + 1 ≤ t.1.length := by omega
                  simp (maxSteps := 1000000) (disch := first | omega | exact PairsOK.mk rfl | (simp only [lenW] <;> omega)) only [hlt, drop_eds he, hfr, hto, head_bls hfl, head_bls htl2, h1, h2, get_intsD hft, get_intsD htt, h3, h4, hf1, ints_set, wordsN, Int.reduceGT, wordsR, ne_eq, wS_regionP, aAppend_slF, aAppend_slN, aSlice_fslH, setL_cons, setL_nil, aMakeMap_new, wordsM, aNil_ptr, aNil_fptr, Int.one_mul, bls_len, ints_len, cells_bl, one_bl, box_bl, List.length_replicate, words, Nat.reduceAdd, Nat.reduceEqDiff, Nat.reduceBEq, ↓reduceIte, reduceCtorEq, SX.exit.injEq, if_true, if_false, Int.reduceAdd, Int.reduceSub, Int.reduceMul, Int.reduceLT, Int.reduceLE, Int.reduceEq, Int.reduceNe, Int.reduceNeg, Int.reduceToNat, Nat.reduceMul, Nat.reduceLT, Nat.reduceSub, Nat.reduceLeDiff]
                  refine ⟨i + 1, by omega, by omega, ?_⟩
                  rw [hst]
                  exact ⟨[(50, .blk 50 0), (84, .blk 84 0)], rfl, au0, au9, au10⟩
                · have hs2 : rEd (lf l) r t e = t := by unfold rEd; rw [if_neg (by rw [h1, h2, decide_eq_true h3, decide_eq_false h4]; decide)]
                  rw [hs2] at hst
                  simp (maxSteps := 1000000) (disch := first | omega | exact PairsOK.mk rfl | (simp only [lenW] <;> omega)) only [hlt, drop_eds he, hfr, hto, head_bls hfl, head_bls htl2, h1, h2, get_intsD hft, get_intsD htt, h3, h4, wordsN, Int.reduceGT, wordsR, ne_eq, wS_regionP, aAppend_slF, aAppend_slN, aSlice_fslH, setL_cons, setL_nil, aMakeMap_new, wordsM, aNil_ptr, aNil_fptr, Int.one_mul, bls_len, ints_len, cells_bl, one_bl, box_bl, List.length_replicate, words, Nat.reduceAdd, Nat.reduceEqDiff, Nat.reduceBEq, ↓reduceIte, reduceCtorEq, SX.exit.injEq, if_true, if_false, Int.reduceAdd, Int.reduceSub, Int.reduceMul, Int.reduceLT, Int.reduceLE, Int.reduceEq, Int.reduceNe, Int.reduceNeg, Int.reduceToNat, Nat.reduceMul, Nat.reduceLT, Nat.reduceSub, Nat.reduceLeDiff]
                  refine ⟨i + 1, by omega, by omega, ?_⟩
                  rw [hst]
                  exact ⟨[(50, .blk 50 0), (84, .blk 84 0)], rfl, au0, au9, au10⟩
              · have hs2 : rEd (lf l) r t e = t := by unfold rEd; rw [if_neg (by rw [h1, h2, decide_eq_false h3]; simp)]
                rw [hs2] at hst
                simp (maxSteps := 1000000) (disch := first | omega | exact PairsOK.mk rfl | (simp only [lenW] <;> omega)) only [hlt, drop_eds he, hfr, hto, head_bls hfl, head_bls htl2, h1, h2, get_intsD hft, h3, wordsN, Int.reduceGT, wordsR, ne_eq, wS_regionP, aAppend_slF, aAppend_slN, aSlice_fslH, setL_cons, setL_nil, aMakeMap_new, wordsM, aNil_ptr, aNil_fptr, Int.one_mul, bls_len, ints_len, cells_bl, one_bl, box_bl, List.length_replicate, words, Nat.reduceAdd, Nat.reduceEqDiff, Nat.reduceBEq, ↓reduceIte, reduceCtorEq, SX.exit.injEq, if_true, if_false, Int.reduceAdd, Int.reduceSub, Int.reduceMul, Int.reduceLT, Int.reduceLE, Int.reduceEq, Int.reduceNe, Int.reduceNeg, Int.reduceToNat, Nat.reduceMul, Nat.reduceLT, Nat.reduceSub, Nat.reduceLeDiff]
                refine ⟨i + 1, by omega, by omega, ?_⟩
                rw [hst]
                exact ⟨[(50, .blk 50 0), (84, .blk 84 0)], rfl, au0, au9, au10⟩
            · have hs2 : rEd (lf l) r t e = t := by unfold rEd; rw [if_neg (by simp [h2])]
              rw [hs2] at hst
              rw [Bool.not_eq_true] at h2
              simp (maxSteps := 1000000) (disch := first | omega | exact PairsOK.mk rfl | (simp only [lenW] <;> omega)) only [hlt, drop_eds he, hfr, hto, head_bls hfl, head_bls htl2, h1, h2, wordsN, Int.reduceGT, wordsR, ne_eq, wS_regionP, aAppend_slF, aAppend_slN, aSlice_fslH, setL_cons, setL_nil, aMakeMap_new, wordsM, aNil_ptr, aNil_fptr, Int.one_mul, bls_len, ints_len, cells_bl, one_bl, box_bl, List.length_replicate, words, Nat.reduceAdd, Nat.reduceEqDiff, Nat.reduceBEq, ↓reduceIte, reduceCtorEq, SX.exit.injEq, if_true, if_false, Int.reduceAdd, Int.reduceSub, Int.reduceMul, Int.reduceLT, Int.reduceLE, Int.reduceEq, Int.reduceNe, Int.reduceNeg, Int.reduceToNat, Nat.reduceMul, Nat.reduceLT, Nat.reduceSub, Nat.reduceLeDiff]
              refine ⟨i + 1, by omega, by omega, ?_⟩
              rw [hst]
              exact ⟨[(50, .blk 50 0), (84, .blk 84 0)], rfl, au0, au9, au10⟩
          · have hs2 : rEd (lf l) r t e = t := by unfold rEd; rw [if_neg (by simp [h1])]
            rw [hs2] at hst
            rw [Bool.not_eq_true] at h1
            simp (maxSteps := 1000000) (disch := first | omega | exact PairsOK.mk rfl | (simp only [lenW] <;> omega)) only [hlt, drop_eds he, hfr, hto, head_bls hfl, h1, wordsN, Int.reduceGT, wordsR, ne_eq, wS_regionP, aAppend_slF, aAppend_slN, aSlice_fslH, setL_cons, setL_nil, aMakeMap_new, wordsM, aNil_ptr, aNil_fptr, Int.one_mul, bls_len, ints_len, cells_bl, one_bl, box_bl, List.length_replicate, words, Nat.reduceAdd, Nat.reduceEqDiff, Nat.reduceBEq, ↓reduceIte, reduceCtorEq, SX.exit.injEq, if_true, if_false, Int.reduceAdd, Int.reduceSub, Int.reduceMul, Int.reduceLT, Int.reduceLE, Int.reduceEq, Int.reduceNe, Int.reduceNeg, Int.reduceToNat, Nat.reduceMul, Nat.reduceLT, Nat.reduceSub, Nat.reduceLeDiff]
            refine ⟨i + 1, by omega, by omega, ?_⟩
            rw [hst]
            exact ⟨[(50, .blk 50 0), (84, .blk 84 0)], rfl, au0, au9, au10⟩
        · have e : i = a.es.length := by omega
          subst e
          simp (maxSteps := 1000000) (disch := first | omega | exact PairsOK.mk rfl | (simp only [lenW] <;> omega)) only [hlt, wordsN, Int.reduceGT, wordsR, ne_eq, wS_regionP, aAppend_slF, aAppend_slN, aSlice_fslH, setL_cons, setL_nil, aMakeMap_new, wordsM, aNil_ptr, aNil_fptr, Int.one_mul, bls_len, ints_len, cells_bl, one_bl, box_bl, List.length_replicate, words, Nat.reduceAdd, Nat.reduceEqDiff, Nat.reduceBEq, ↓reduceIte, reduceCtorEq, SX.exit.injEq, if_true, if_false, Int.reduceAdd, Int.reduceSub, Int.reduceMul, Int.reduceLT, Int.reduceLE, Int.reduceEq, Int.reduceNe, Int.reduceNeg, Int.reduceToNat, Nat.reduceMul, Nat.reduceLT, Nat.reduceSub, Nat.reduceLeDiff]
          refine ⟨(), ?_⟩
          exact ⟨[(50, .blk 50 0), (84, .blk 84 0)], rfl, au0, au9, au10⟩
      rintro _ _
      generalize rRd a.es (lf l) r o = t at *
      simp (maxSteps := 1000000) (disch := first | omega | exact PairsOK.mk rfl | (simp only [lenW] <;> omega)) only [wordsN, Int.reduceGT, wordsR, ne_eq, wS_regionP, aAppend_slF, aAppend_slN, aSlice_fslH, setL_cons, setL_nil, aMakeMap_new, wordsM, aNil_ptr, aNil_fptr, Int.one_mul, bls_len, ints_len, cells_bl, one_bl, box_bl, List.length_replicate, words, Nat.reduceAdd, Nat.reduceEqDiff, Nat.reduceBEq, ↓reduceIte, reduceCtorEq, SX.exit.injEq, if_true, if_false, Int.reduceAdd, Int.reduceSub, Int.reduceMul, Int.reduceLT, Int.reduceLE, Int.reduceEq, Int.reduceNe, Int.reduceNeg, Int.reduceToNat, Nat.reduceMul, Nat.reduceLT, Nat.reduceSub, Nat.reduceLeDiff]
      refine ⟨(k, t.1, t.2), by dsimp only; omega, ?_, ?_⟩
      · dsimp only
        rw [er]
        exact ⟨hnx, by omega, hcl, heq⟩
      · dsimp only
        rw [er]
        exact ⟨[(50, .blk 50 0), (84, .blk 84 0)], rfl, au0, au9, au10⟩
  rintro _ _
  simp (maxSteps := 1000000) (disch := first | omega | exact PairsOK.mk rfl | (simp only [lenW] <;> omega)) only [wordsN, Int.reduceGT, wordsR, ne_eq, wS_regionP, aAppend_slF, aAppend_slN, aSlice_fslH, setL_cons, setL_nil, aMakeMap_new, wordsM, aNil_ptr, aNil_fptr, Int.one_mul, bls_len, ints_len, cells_bl, one_bl, box_bl, List.length_replicate, words, Nat.reduceAdd, Nat.reduceEqDiff, Nat.reduceBEq, ↓reduceIte, reduceCtorEq, SX.exit.injEq, if_true, if_false, Int.reduceAdd, Int.reduceSub, Int.reduceMul, Int.reduceLT, Int.reduceLE, Int.reduceEq, Int.reduceNe, Int.reduceNeg, Int.reduceToNat, Nat.reduceMul, Nat.reduceLT, Nat.reduceSub, Nat.reduceLeDiff]
  exact ⟨.inr trivial, _, rfl, ⟨[(84, .blk 84 0)], rfl, au0, au9, au10⟩⟩
end Go.AM.SE
namespace Go.AM.SE
open Go.Proofs Go.AM.SD
set_option maxRecDepth 100000
set_option linter.unusedSimpArgs false
set_option linter.unusedVariables false
theorem rDist_len {es : List Ed} {left : Nat → Bool} : ∀ (k r : Nat) (o : List Int), (rDist es left k r o).length = o.length
  | 0, _, _ => rfl
  | k + 1, r, o => by
    rw [rDist]; split
    · rw [rDist_len k, rRd_len]
    · rw [rRd_len]
end Go.AM.SE
namespace Go.AM.SE
open Go.Proofs Go.AM.SD
set_option maxRecDepth 100000
set_option linter.unusedSimpArgs false
set_option linter.unusedVariables false
abbrev tyTo : Ty := .arr 5 (.arr 5 (.int .u8))
abbrev tyGr : Ty := .st (.pair (.int .u8) (.pair (.int .u8) (.pair tyTo .unit)))
abbrev tyTask : Ty := .st (.pair (.int .u8) (.pair tyGr (.pair (.int .u32) (.pair (.int .u8) .unit))))
theorem u8_wf {n : Int} (h : (Lit.int .u8 n).wf = true) : 0 ≤ n ∧ n < 256 := by
  simp [Lit.wf, IntKind.min, IntKind.max, IntKind.signed, IntKind.bits] at h
  omega
theorem u32_wf {n : Int} (h : (Lit.int .u32 n).wf = true) : 0 ≤ n ∧ n < 4294967296 := by
  simp [Lit.wf, IntKind.min, IntKind.max, IntKind.signed, IntKind.bits] at h
  omega
theorem u8s_in {l : List Int} (h : ∀ x ∈ l, (Lit.int .u8 x).wf = true) : l.flatMap (Ty.cells (.int .u8)) = u8s (l.map Int.toNat) := by
  induction l with
  | nil => rfl
  | cons x l ih =>
    have h1 := u8_wf (h x (by simp))
    rw [List.flatMap_cons, ih fun y hy => h y (by simp [hy])]
    simp only [Ty.cells, u8s, List.map_cons, List.singleton_append]
    rw [Int.toNat_of_nonneg h1.1]
abbrev ty5 : Ty := .arr 5 (.int .u8)
theorem to_in {w : tyTo.D} (h : tyTo.wf w) : ∃ l : List Nat, l.length = 25 ∧ (∀ x ∈ l, x < 256) ∧ tyTo.cells w = u8s l := by
  obtain ⟨h1, h2⟩ := h
  have key : ∀ l : List (List Int), (∀ x ∈ l, ty5.wf x) → ∃ r : List Nat, r.length = l.length * 5 ∧ (∀ x ∈ r, x < 256) ∧ l.flatMap ty5.cells = u8s r := by
    intro l
    induction l with
    | nil => intro _; exact ⟨[], rfl, (fun x hx => by cases hx), rfl⟩
    | cons a l ih =>
      intro hl
      obtain ⟨r, g1, g2, g3⟩ := ih fun y hy => hl y (by simp [hy])
      obtain ⟨a1, a2⟩ := hl a (by simp)
      refine ⟨(show List Int from a).map Int.toNat ++ r, ?_, ?_, ?_⟩
      · rw [List.length_append, List.length_map, a1, g1, List.length_cons, Nat.succ_mul]; omega
      · intro x hx
        rcases List.mem_append.1 hx with hx | hx
        · obtain ⟨y, hy, rfl⟩ := List.mem_map.1 hx
          have := u8_wf (a2 y hy)
          omega
        · exact g2 x hx
      · rw [List.flatMap_cons, g3]
        have : ty5.cells a = u8s ((show List Int from a).map Int.toNat) := u8s_in a2
        rw [this]
        simp [u8s]
  obtain ⟨r, g1, g2, g3⟩ := key w h2
  exact ⟨r, by rw [g1, h1], g2, g3⟩
theorem tsk_in {d : tyTask.D} (h : tyTask.wf d) : ∃ t : Tsk, TOk t ∧ tyTask.val d = tskV t := by
  obtain ⟨a, ⟨b, c, w, u1⟩, f, g, u2⟩ := d
  obtain ⟨h1, ⟨h2, h3, h4, _⟩, h5, h6, _⟩ := h
  dsimp only at h1 h2 h3 h4 h5 h6
  obtain ⟨T, t1, t2, t3⟩ := to_in h4
  have e1 := u8_wf h1
  have e2 := u8_wf h2
  have e3 := u8_wf h3
  have e5 := u32_wf h5
  have e6 := u8_wf h6
  refine ⟨⟨a.toNat, b.toNat, c.toNat, T, f.toNat, g.toNat⟩, ⟨by dsimp only; omega, by dsimp only; omega, by dsimp only; omega, t1, t2, by dsimp only; omega, by dsimp only; omega⟩, ?_⟩
  show AV.agg _ = _
  congr 1
  simp only [Ty.cells] at t3 ⊢
  rw [t3, Int.toNat_of_nonneg e1.1, Int.toNat_of_nonneg e2.1, Int.toNat_of_nonneg e3.1, Int.toNat_of_nonneg e5.1, Int.toNat_of_nonneg e6.1]
  simp only [List.singleton_append, List.append_nil, List.cons_append, List.nil_append]
end Go.AM.SE
namespace Go.AM.SE
open Go.Proofs Go.AM.SD
end Go.AM.SE
namespace Go.AM.SE
open Go.Proofs Go.AM.SD
set_option maxRecDepth 100000
set_option linter.unusedSimpArgs false
set_option linter.unusedVariables false
end Go.AM.SE
namespace Go.AM.SE
open Go.Proofs Go.AM.SD
set_option maxRecDepth 100000
set_option linter.unusedSimpArgs false
set_option linter.unusedVariables false
def inL (n : Nat) (s : List Nat) : LB := (List.range n).map fun x => s.contains x
theorem inL_len {n : Nat} {s : List Nat} : (inL n s).length = n := by simp [inL]
theorem lf_inL {n : Nat} {s : List Nat} (hs : ∀ x ∈ s, x < n) : lf (inL n s) = inS s := by
  funext x
  unfold lf inL inS
  by_cases h : x < n
  · simp [h]
  · have : s.contains x = false := by
      rw [← Bool.not_eq_true]; intro hx; exact h (hs x (by simpa using hx))
    rw [this]; simp [h]
theorem inL_set {n x i : Nat} {s : List Nat} (h : s[i]? = some x) : (inL n (s.take i)).set x true = inL n (s.take (i + 1)) := by
  rw [List.take_add_one, h, Option.toList]
  refine List.ext_getElem (by simp [inL]) fun j h1 h2 => ?_
  rw [List.getElem_set]
  simp only [inL, List.getElem_map, List.getElem_range]
  by_cases e : x = j
  · subst e; simp
  · have e2 : ¬ j = x := fun h => e h.symm
    rw [if_neg e, Bool.eq_iff_iff]; simp [e2]
theorem inL_nil {n : Nat} : List.replicate n false = inL n [] := by
  refine List.ext_getElem (by simp [inL]) fun j h1 h2 => ?_
  simp [inL]
theorem head_intsD {l : List Int} {i : Nat} (h : i < l.length) : ((ints l).drop i).head? = some (.int .i64 (l.getD i 0)) := by
  rw [List.head?_drop]; exact get_intsD h
theorem right_f1 {a : Aut} {s f u : List Nat} {x : Nat} (hx : x ∈ s) (h : f.contains x = true) : rightF a s f u = false := by
  have : (s.all fun x => !f.contains x) = false := by rw [List.all_eq_false]; exact ⟨x, hx, by simp only [h]; decide⟩
  unfold rightF; rw [this, Bool.false_and, Bool.false_and]
theorem right_f2 {a : Aut} {s f u : List Nat} {e : Ed} (he : e ∈ a.es) (h : (inS s e.1 && !inS s e.2.2 && u.contains e.2.1) = true) : rightF a s f u = false := by
  have : (a.es.all fun e => !(inS s e.1 && !inS s e.2.2 && u.contains e.2.1)) = false := by rw [List.all_eq_false]; exact ⟨e, he, by rw [h]; decide⟩
  unfold rightF; rw [this, Bool.and_false, Bool.false_and]
theorem right_f3 {a : Aut} {s f u : List Nat} {x : Nat} (hx : x ∈ s) (h : (rDist a.es (inS s) (a.n + 1) 1 (o0 a.n a.ms (inS s))).getD x 0 < 0) : rightF a s f u = false := by
  have : (s.all fun x => !decide ((rDist a.es (inS s) (a.n + 1) 1 (o0 a.n a.ms (inS s))).getD x 0 < 0)) = false := by rw [List.all_eq_false]; exact ⟨x, hx, by rw [decide_eq_true h]; decide⟩
  unfold rightF; rw [this, Bool.and_false]
theorem right_t {a : Aut} {s f u : List Nat} (h1 : ∀ x ∈ s, f.contains x = false) (h2 : ∀ e ∈ a.es, (inS s e.1 && !inS s e.2.2 && u.contains e.2.1) = false)
    (h3 : ∀ x ∈ s, ¬ (rDist a.es (inS s) (a.n + 1) 1 (o0 a.n a.ms (inS s))).getD x 0 < 0) : rightF a s f u = true := by
  unfold rightF
  rw [List.all_eq_true.2 fun x hx => by rw [h1 x hx]; rfl, List.all_eq_true.2 fun e he => by rw [h2 e he]; rfl, List.all_eq_true.2 fun x hx => by rw [decide_eq_false (h3 x hx)]; rfl]; rfl
theorem all_take {α : Type} {P : α → Prop} {l : List α} {i : Nat} {x : α} (h : ∀ y ∈ l.take i, P y) (hx : l[i]? = some x) (hp : P x) : ∀ y ∈ l.take (i + 1), P y := by
  intro y hy
  rw [List.take_add_one, hx, Option.toList] at hy
  rcases List.mem_append.1 hy with h1 | h1
  · exact h y h1
  · simp at h1; rw [h1]; exact hp
set_option maxHeartbeats 32000000 in
theorem right13 (a : Aut) (s f u : List Nat) (hin : InN a.n a.es a.ms) (hn : a.n ≤ 4096) (hs : ∀ x ∈ s, x < a.n) (hsl : s.length ≤ 1000000) (hfl0 : f.length ≤ 1000000) (hul : u.length ≤ 1000000) (hel : a.es.length ≤ 1000000) (hml : a.ms.length ≤ 1000000) :
    PSpec Try.prog 13 [aV a, sliN s, sliN f, sliN u] (.bool (rightF a s f u)) := by
  refine PSpec.of_flat 64 ok13 rfl (by (try simp only [noRefs, noRefs_u8, noRefs_keysI, noRefs_back, noRefs_ints, noRefs_eg, noRefs_ed, noRefs_rm, noRefs_ls, noRefs_bls, noRef, Bool.and_self, Bool.and_true]) <;> rfl) rfl ?_
  have hn' : (a.n : Int) ≤ 1099511627776 := by omega
  have hlf := lf_inL hs
  have hd := dist33 a (inL a.n s) hin inL_len hn hel hml
  have hdl : (rDist a.es (lf (inL a.n s)) (a.n + 1) 1 (o0 a.n a.ms (lf (inL a.n s)))).length = a.n := by rw [rDist_len]; simp [o0]
  rw [hlf] at hd hdl
  have hes := fun e he => hin.1 e he
  simp (maxSteps := 1000000) (disch := first | omega | exact PairsOK.mk rfl | (simp only [lenW] <;> omega)) only [s13, hn', reps, wordsN, Int.reduceGT, wordsR, ne_eq, wS_regionP, aAppend_slF, aAppend_slN, aSlice_fslH, setL_cons, setL_nil, aMakeMap_new, wordsM, aNil_ptr, aNil_fptr, Int.one_mul, bls_len, ints_len, cells_bl, one_bl, box_bl, List.length_replicate, words, Nat.reduceAdd, Nat.reduceEqDiff, Nat.reduceBEq, ↓reduceIte, reduceCtorEq, SX.exit.injEq, if_true, if_false, Int.reduceAdd, Int.reduceSub, Int.reduceMul, Int.reduceLT, Int.reduceLE, Int.reduceEq, Int.reduceNe, Int.reduceNeg, Int.reduceToNat, Nat.reduceMul, Nat.reduceLT, Nat.reduceSub, Nat.reduceLeDiff]
  refine wS_loopX 100 (fun i : Nat => [(1, sliN s), (2, sliN f), (3, sliN u), (4, .ptr 50 0 0), (9, .sl 60 0 0 a.n 1), (10, .int .i64 i)])
    (fun i => [(50, .cells 0 [sliN a.al, .int .i64 (a.n : Int), sliN a.ms, egsN a.es]), (60, .cells 0 (bls (inL a.n (s.take i))))])
    (fun i => i ≤ s.length ∧ ∀ x ∈ s.take i, f.contains x = false) (fun i => s.length - i) 0 0 140
    (fun _ : Unit => [(1, sliN s), (3, sliN u), (4, .ptr 50 0 0), (9, .sl 60 0 0 a.n 1)])
    (fun _ => [(50, .cells 0 [sliN a.al, .int .i64 (a.n : Int), sliN a.ms, egsN a.es]), (60, .cells 0 (bls (inL a.n s)))]) (fun _ => ∀ x ∈ s, f.contains x = false) ?_ ⟨Nat.zero_le _, fun x hx => by simp at hx⟩ ?_ ?_
  · rw [inL_nil]
    exact ⟨[(50, .blk 64 0), (60, .blk 68 0)], rfl, au0, au9, au10⟩
  · rintro i ⟨hi, hall⟩
    by_cases hlt : i < s.length
    · obtain ⟨x, hx⟩ := get_ex hlt
      have hxm := List.mem_of_getElem? hx
      have hxn := hs x hxm
      have hst := inL_set (n := a.n) hx
      have hll := inL_len (n := a.n) (s := s.take i)
      generalize inL a.n (s.take i) = o at *
      have hx1 : x + 1 ≤ o.length := by omega
      have hc := has15 (nz f) x (by simp; omega)
      rw [mem_nz, sli_nz] at hc
      simp (maxSteps := 1000000) (disch := first | omega | exact PairsOK.mk rfl | (simp only [lenW] <;> omega)) only [hlt, head_nz hx, wordsN, Int.reduceGT, wordsR, ne_eq, wS_regionP, aAppend_slF, aAppend_slN, aSlice_fslH, setL_cons, setL_nil, aMakeMap_new, wordsM, aNil_ptr, aNil_fptr, Int.one_mul, bls_len, ints_len, cells_bl, one_bl, box_bl, List.length_replicate, words, Nat.reduceAdd, Nat.reduceEqDiff, Nat.reduceBEq, ↓reduceIte, reduceCtorEq, SX.exit.injEq, if_true, if_false, Int.reduceAdd, Int.reduceSub, Int.reduceMul, Int.reduceLT, Int.reduceLE, Int.reduceEq, Int.reduceNe, Int.reduceNeg, Int.reduceToNat, Nat.reduceMul, Nat.reduceLT, Nat.reduceSub, Nat.reduceLeDiff]
      refine cp hc ?_
      cases hb : f.contains x with
      | true =>
        have hr := right_f1 (a := a) (u := u) hxm hb
        simp (maxSteps := 1000000) (disch := first | omega | exact PairsOK.mk rfl | (simp only [lenW] <;> omega)) only [wordsN, Int.reduceGT, wordsR, ne_eq, wS_regionP, aAppend_slF, aAppend_slN, aSlice_fslH, setL_cons, setL_nil, aMakeMap_new, wordsM, aNil_ptr, aNil_fptr, Int.one_mul, bls_len, ints_len, cells_bl, one_bl, box_bl, List.length_replicate, words, Nat.reduceAdd, Nat.reduceEqDiff, Nat.reduceBEq, ↓reduceIte, reduceCtorEq, SX.exit.injEq, if_true, if_false, Int.reduceAdd, Int.reduceSub, Int.reduceMul, Int.reduceLT, Int.reduceLE, Int.reduceEq, Int.reduceNe, Int.reduceNeg, Int.reduceToNat, Nat.reduceMul, Nat.reduceLT, Nat.reduceSub, Nat.reduceLeDiff]
        exact ⟨.inr trivial, _, rfl, by simp [resOf, lk_cons, hr]⟩
      | false =>
        simp (maxSteps := 1000000) (disch := first | omega | exact PairsOK.mk rfl | (simp only [lenW] <;> omega)) only [hlt, head_nz hx, hxn, hx1, bls_set, wordsN, Int.reduceGT, wordsR, ne_eq, wS_regionP, aAppend_slF, aAppend_slN, aSlice_fslH, setL_cons, setL_nil, aMakeMap_new, wordsM, aNil_ptr, aNil_fptr, Int.one_mul, bls_len, ints_len, cells_bl, one_bl, box_bl, List.length_replicate, words, Nat.reduceAdd, Nat.reduceEqDiff, Nat.reduceBEq, ↓reduceIte, reduceCtorEq, SX.exit.injEq, if_true, if_false, Int.reduceAdd, Int.reduceSub, Int.reduceMul, Int.reduceLT, Int.reduceLE, Int.reduceEq, Int.reduceNe, Int.reduceNeg, Int.reduceToNat, Nat.reduceMul, Nat.reduceLT, Nat.reduceSub, Nat.reduceLeDiff]
        refine ⟨i + 1, by omega, ⟨by omega, all_take hall hx hb⟩, ?_⟩
        rw [← hst]
        exact ⟨[(50, .blk 50 0), (60, .blk 60 0)], rfl, au0, au9, au10⟩
    · have e : i = s.length := by omega
      subst e
      rw [List.take_length] at hall
      simp (maxSteps := 1000000) (disch := first | omega | exact PairsOK.mk rfl | (simp only [lenW] <;> omega)) only [hlt, wordsN, Int.reduceGT, wordsR, ne_eq, wS_regionP, aAppend_slF, aAppend_slN, aSlice_fslH, setL_cons, setL_nil, aMakeMap_new, wordsM, aNil_ptr, aNil_fptr, Int.one_mul, bls_len, ints_len, cells_bl, one_bl, box_bl, List.length_replicate, words, Nat.reduceAdd, Nat.reduceEqDiff, Nat.reduceBEq, ↓reduceIte, reduceCtorEq, SX.exit.injEq, if_true, if_false, Int.reduceAdd, Int.reduceSub, Int.reduceMul, Int.reduceLT, Int.reduceLE, Int.reduceEq, Int.reduceNe, Int.reduceNeg, Int.reduceToNat, Nat.reduceMul, Nat.reduceLT, Nat.reduceSub, Nat.reduceLeDiff]
      refine ⟨(), hall, ?_⟩
      exact ⟨[(50, .blk 50 0), (60, .blk 60 0)], rfl, au0, au9, au10⟩
  rintro _ hall1
  simp (maxSteps := 1000000) (disch := first | omega | exact PairsOK.mk rfl | (simp only [lenW] <;> omega)) only [wordsN, Int.reduceGT, wordsR, ne_eq, wS_regionP, aAppend_slF, aAppend_slN, aSlice_fslH, setL_cons, setL_nil, aMakeMap_new, wordsM, aNil_ptr, aNil_fptr, Int.one_mul, bls_len, ints_len, cells_bl, one_bl, box_bl, List.length_replicate, words, Nat.reduceAdd, Nat.reduceEqDiff, Nat.reduceBEq, ↓reduceIte, reduceCtorEq, SX.exit.injEq, if_true, if_false, Int.reduceAdd, Int.reduceSub, Int.reduceMul, Int.reduceLT, Int.reduceLE, Int.reduceEq, Int.reduceNe, Int.reduceNeg, Int.reduceToNat, Nat.reduceMul, Nat.reduceLT, Nat.reduceSub, Nat.reduceLeDiff]
  have hll := inL_len (n := a.n) (s := s)
  generalize inL a.n s = l at *
  refine wS_loopX 180 (fun i : Nat => [(1, sliN s), (3, sliN u), (4, .ptr 50 0 0), (9, .sl 60 0 0 a.n 1), (11, .int .i64 i)])
    (fun i => [(50, .cells 0 [sliN a.al, .int .i64 (a.n : Int), sliN a.ms, egsN a.es]), (60, .cells 0 (bls l))])
    (fun i => i ≤ a.es.length ∧ ∀ e ∈ a.es.take i, (inS s e.1 && !inS s e.2.2 && u.contains e.2.1) = false) (fun i => a.es.length - i) 0 2 220
    (fun _ : Unit => [(1, sliN s), (4, .ptr 50 0 0), (9, .sl 60 0 0 a.n 1)])
    (fun _ => [(50, .cells 0 [sliN a.al, .int .i64 (a.n : Int), sliN a.ms, egsN a.es]), (60, .cells 0 (bls l))]) (fun _ => ∀ e ∈ a.es, (inS s e.1 && !inS s e.2.2 && u.contains e.2.1) = false) ?_ ⟨Nat.zero_le _, fun x hx => by simp at hx⟩ ?_ ?_
  · exact ⟨[(50, .blk 50 0), (60, .blk 60 0)], rfl, au0, au9, au10⟩
  · rintro i ⟨hi, hall⟩
    by_cases hlt : i < a.es.length
    · obtain ⟨e, he⟩ := get_ex hlt
      have hem := List.mem_of_getElem? he
      obtain ⟨hfr, hto⟩ := hes e hem
      have hfl : e.1 < l.length := by omega
      have htl : e.2.2 < l.length := by omega
      by_cases h1 : lf l e.1 = true
      · by_cases h2 : lf l e.2.2 = true
        · skip
          simp (maxSteps := 1000000) (disch := first | omega | exact PairsOK.mk rfl | (simp only [lenW] <;> omega)) only [hlt, drop_eds he, hfr, hto, get_bls hfl, get_bls htl, h1, h2, wordsN, Int.reduceGT, wordsR, ne_eq, wS_regionP, aAppend_slF, aAppend_slN, aSlice_fslH, setL_cons, setL_nil, aMakeMap_new, wordsM, aNil_ptr, aNil_fptr, Int.one_mul, bls_len, ints_len, cells_bl, one_bl, box_bl, List.length_replicate, words, Nat.reduceAdd, Nat.reduceEqDiff, Nat.reduceBEq, ↓reduceIte, reduceCtorEq, SX.exit.injEq, if_true, if_false, Int.reduceAdd, Int.reduceSub, Int.reduceMul, Int.reduceLT, Int.reduceLE, Int.reduceEq, Int.reduceNe, Int.reduceNeg, Int.reduceToNat, Nat.reduceMul, Nat.reduceLT, Nat.reduceSub, Nat.reduceLeDiff]
          skip
          exact ⟨i + 1, by omega, ⟨by omega, all_take hall he (by rw [← hlf, h2, Bool.not_true, Bool.and_false, Bool.false_and])⟩, ⟨[(50, .blk 50 0), (60, .blk 60 0)], rfl, au0, au9, au10⟩⟩
        · rw [Bool.not_eq_true] at h2
          have hc := has15 (nz u) e.2.1 (by simp; omega)
          rw [mem_nz, sli_nz] at hc
          cases h3 : u.contains e.2.1 with
          | true =>
            rw [h3] at hc
            have hr := right_f2 (f := f) hem (s := s) (u := u) (by rw [← hlf, h1, h2, h3]; rfl)
            simp (maxSteps := 1000000) (disch := first | omega | exact PairsOK.mk rfl | (simp only [lenW] <;> omega)) only [hlt, drop_eds he, hfr, hto, get_bls hfl, get_bls htl, h1, h2, wordsN, Int.reduceGT, wordsR, ne_eq, wS_regionP, aAppend_slF, aAppend_slN, aSlice_fslH, setL_cons, setL_nil, aMakeMap_new, wordsM, aNil_ptr, aNil_fptr, Int.one_mul, bls_len, ints_len, cells_bl, one_bl, box_bl, List.length_replicate, words, Nat.reduceAdd, Nat.reduceEqDiff, Nat.reduceBEq, ↓reduceIte, reduceCtorEq, SX.exit.injEq, if_true, if_false, Int.reduceAdd, Int.reduceSub, Int.reduceMul, Int.reduceLT, Int.reduceLE, Int.reduceEq, Int.reduceNe, Int.reduceNeg, Int.reduceToNat, Nat.reduceMul, Nat.reduceLT, Nat.reduceSub, Nat.reduceLeDiff]
            refine cp hc ?_
            simp (maxSteps := 1000000) (disch := first | omega | exact PairsOK.mk rfl | (simp only [lenW] <;> omega)) only [wordsN, Int.reduceGT, wordsR, ne_eq, wS_regionP, aAppend_slF, aAppend_slN, aSlice_fslH, setL_cons, setL_nil, aMakeMap_new, wordsM, aNil_ptr, aNil_fptr, Int.one_mul, bls_len, ints_len, cells_bl, one_bl, box_bl, List.length_replicate, words, Nat.reduceAdd, Nat.reduceEqDiff, Nat.reduceBEq, ↓reduceIte, reduceCtorEq, SX.exit.injEq, if_true, if_false, Int.reduceAdd, Int.reduceSub, Int.reduceMul, Int.reduceLT, Int.reduceLE, Int.reduceEq, Int.reduceNe, Int.reduceNeg, Int.reduceToNat, Nat.reduceMul, Nat.reduceLT, Nat.reduceSub, Nat.reduceLeDiff]
            exact ⟨.inr trivial, _, rfl, by simp [resOf, lk_cons, hr]⟩
          | false =>
            rw [h3] at hc
            simp (maxSteps := 1000000) (disch := first | omega | exact PairsOK.mk rfl | (simp only [lenW] <;> omega)) only [hlt, drop_eds he, hfr, hto, get_bls hfl, get_bls htl, h1, h2, wordsN, Int.reduceGT, wordsR, ne_eq, wS_regionP, aAppend_slF, aAppend_slN, aSlice_fslH, setL_cons, setL_nil, aMakeMap_new, wordsM, aNil_ptr, aNil_fptr, Int.one_mul, bls_len, ints_len, cells_bl, one_bl, box_bl, List.length_replicate, words, Nat.reduceAdd, Nat.reduceEqDiff, Nat.reduceBEq, ↓reduceIte, reduceCtorEq, SX.exit.injEq, if_true, if_false, Int.reduceAdd, Int.reduceSub, Int.reduceMul, Int.reduceLT, Int.reduceLE, Int.reduceEq, Int.reduceNe, Int.reduceNeg, Int.reduceToNat, Nat.reduceMul, Nat.reduceLT, Nat.reduceSub, Nat.reduceLeDiff]
            refine cp hc ?_ ; simp (maxSteps := 1000000) (disch := first | omega | exact PairsOK.mk rfl | (simp only [lenW] <;> omega)) only [wordsN, Int.reduceGT, wordsR, ne_eq, wS_regionP, aAppend_slF, aAppend_slN, aSlice_fslH, setL_cons, setL_nil, aMakeMap_new, wordsM, aNil_ptr, aNil_fptr, Int.one_mul, bls_len, ints_len, cells_bl, one_bl, box_bl, List.length_replicate, words, Nat.reduceAdd, Nat.reduceEqDiff, Nat.reduceBEq, ↓reduceIte, reduceCtorEq, SX.exit.injEq, if_true, if_false, Int.reduceAdd, Int.reduceSub, Int.reduceMul, Int.reduceLT, Int.reduceLE, Int.reduceEq, Int.reduceNe, Int.reduceNeg, Int.reduceToNat, Nat.reduceMul, Nat.reduceLT, Nat.reduceSub, Nat.reduceLeDiff]
            exact ⟨i + 1, by omega, ⟨by omega, all_take hall he (by rw [h3, Bool.and_false])⟩, ⟨[(50, .blk 50 0), (60, .blk 60 0)], rfl, au0, au9, au10⟩⟩
      · rw [Bool.not_eq_true] at h1
        simp (maxSteps := 1000000) (disch := first | omega | exact PairsOK.mk rfl | (simp only [lenW] <;> omega)) only [hlt, drop_eds he, hfr, hto, get_bls hfl, get_bls htl, h1, wordsN, Int.reduceGT, wordsR, ne_eq, wS_regionP, aAppend_slF, aAppend_slN, aSlice_fslH, setL_cons, setL_nil, aMakeMap_new, wordsM, aNil_ptr, aNil_fptr, Int.one_mul, bls_len, ints_len, cells_bl, one_bl, box_bl, List.length_replicate, words, Nat.reduceAdd, Nat.reduceEqDiff, Nat.reduceBEq, ↓reduceIte, reduceCtorEq, SX.exit.injEq, if_true, if_false, Int.reduceAdd, Int.reduceSub, Int.reduceMul, Int.reduceLT, Int.reduceLE, Int.reduceEq, Int.reduceNe, Int.reduceNeg, Int.reduceToNat, Nat.reduceMul, Nat.reduceLT, Nat.reduceSub, Nat.reduceLeDiff]
        skip
        exact ⟨i + 1, by omega, ⟨by omega, all_take hall he (by rw [← hlf, h1, Bool.false_and, Bool.false_and])⟩, ⟨[(50, .blk 50 0), (60, .blk 60 0)], rfl, au0, au9, au10⟩⟩
    · have e : i = a.es.length := by omega
      subst e
      rw [List.take_length] at hall
      simp (maxSteps := 1000000) (disch := first | omega | exact PairsOK.mk rfl | (simp only [lenW] <;> omega)) only [hlt, wordsN, Int.reduceGT, wordsR, ne_eq, wS_regionP, aAppend_slF, aAppend_slN, aSlice_fslH, setL_cons, setL_nil, aMakeMap_new, wordsM, aNil_ptr, aNil_fptr, Int.one_mul, bls_len, ints_len, cells_bl, one_bl, box_bl, List.length_replicate, words, Nat.reduceAdd, Nat.reduceEqDiff, Nat.reduceBEq, ↓reduceIte, reduceCtorEq, SX.exit.injEq, if_true, if_false, Int.reduceAdd, Int.reduceSub, Int.reduceMul, Int.reduceLT, Int.reduceLE, Int.reduceEq, Int.reduceNe, Int.reduceNeg, Int.reduceToNat, Nat.reduceMul, Nat.reduceLT, Nat.reduceSub, Nat.reduceLeDiff]
      refine ⟨(), hall, ?_⟩
      exact ⟨[(50, .blk 50 0), (60, .blk 60 0)], rfl, au0, au9, au10⟩
  rintro _ hall2
  simp (maxSteps := 1000000) (disch := first | omega | exact PairsOK.mk rfl | (simp only [lenW] <;> omega)) only [wordsN, Int.reduceGT, wordsR, ne_eq, wS_regionP, aAppend_slF, aAppend_slN, aSlice_fslH, setL_cons, setL_nil, aMakeMap_new, wordsM, aNil_ptr, aNil_fptr, Int.one_mul, bls_len, ints_len, cells_bl, one_bl, box_bl, List.length_replicate, words, Nat.reduceAdd, Nat.reduceEqDiff, Nat.reduceBEq, ↓reduceIte, reduceCtorEq, SX.exit.injEq, if_true, if_false, Int.reduceAdd, Int.reduceSub, Int.reduceMul, Int.reduceLT, Int.reduceLE, Int.reduceEq, Int.reduceNe, Int.reduceNeg, Int.reduceToNat, Nat.reduceMul, Nat.reduceLT, Nat.reduceSub, Nat.reduceLeDiff]
  refine ch (HSpec.of_F (FrzL.cons (FrzTo.same _) (FrzL.cons (FrzTo.all (g := 0) (cs := bls l) (by first | (simp (disch := omega) only [get_same, get_ne, hp_cons]; done) | (simp (disch := omega) only [get_same, get_ne, hp_cons]; rfl)) (by rw [bls_len, hll, Nat.mul_one])) FrzL.nil)) (FSpec.of_new hd (by (try simp only [noRefs, noRefs_u8, noRefs_keysI, noRefs_back, noRefs_ints, noRefs_eg, noRefs_ed, noRefs_rm, noRefs_ls, noRefs_bls, noRef, Bool.and_self, Bool.and_true]) <;> rfl) (flat_ints _) (by rw [ints_len, hdl, Nat.mul_one]) rfl)) ?_
  have ht := right_t (a := a) (s := s) (f := f) (u := u) hall1 hall2
  have hf3 := fun x hx h => right_f3 (a := a) (s := s) (f := f) (u := u) (x := x) hx h
  generalize rDist a.es (inS s) (a.n + 1) 1 (o0 a.n a.ms (inS s)) = d at *
  simp (maxSteps := 1000000) (disch := first | omega | exact PairsOK.mk rfl | (simp only [lenW] <;> omega)) only [wordsN, Int.reduceGT, wordsR, ne_eq, wS_regionP, aAppend_slF, aAppend_slN, aSlice_fslH, setL_cons, setL_nil, aMakeMap_new, wordsM, aNil_ptr, aNil_fptr, Int.one_mul, bls_len, ints_len, cells_bl, one_bl, box_bl, List.length_replicate, words, Nat.reduceAdd, Nat.reduceEqDiff, Nat.reduceBEq, ↓reduceIte, reduceCtorEq, SX.exit.injEq, if_true, if_false, Int.reduceAdd, Int.reduceSub, Int.reduceMul, Int.reduceLT, Int.reduceLE, Int.reduceEq, Int.reduceNe, Int.reduceNeg, Int.reduceToNat, Nat.reduceMul, Nat.reduceLT, Nat.reduceSub, Nat.reduceLeDiff]
  refine wS_loopX 260 (fun i : Nat => [(1, sliN s), (13, .fsl (ints d) a.n 1), (14, .int .i64 i)])
    (fun i => [])
    (fun i => i ≤ s.length ∧ ∀ x ∈ s.take i, ¬ d.getD x 0 < 0) (fun i => s.length - i) 0 4 280
    (fun _ : Unit => [])
    (fun _ => []) (fun _ => ∀ x ∈ s, ¬ d.getD x 0 < 0) ?_ ⟨Nat.zero_le _, fun x hx => by simp at hx⟩ ?_ ?_
  · exact ⟨[], rfl, au0, au9, au10⟩
  · rintro i ⟨hi, hall⟩
    by_cases hlt : i < s.length
    · obtain ⟨x, hx⟩ := get_ex hlt
      have hxm := List.mem_of_getElem? hx
      have hxn := hs x hxm
      have hxd : x < d.length := by omega
      by_cases h1 : d.getD x 0 < 0
      · have hr := hf3 x hxm h1
        simp (maxSteps := 1000000) (disch := first | omega | exact PairsOK.mk rfl | (simp only [lenW] <;> omega)) only [hlt, head_nz hx, hxn, head_intsD hxd, h1, wordsN, Int.reduceGT, wordsR, ne_eq, wS_regionP, aAppend_slF, aAppend_slN, aSlice_fslH, setL_cons, setL_nil, aMakeMap_new, wordsM, aNil_ptr, aNil_fptr, Int.one_mul, bls_len, ints_len, cells_bl, one_bl, box_bl, List.length_replicate, words, Nat.reduceAdd, Nat.reduceEqDiff, Nat.reduceBEq, ↓reduceIte, reduceCtorEq, SX.exit.injEq, if_true, if_false, Int.reduceAdd, Int.reduceSub, Int.reduceMul, Int.reduceLT, Int.reduceLE, Int.reduceEq, Int.reduceNe, Int.reduceNeg, Int.reduceToNat, Nat.reduceMul, Nat.reduceLT, Nat.reduceSub, Nat.reduceLeDiff]
        exact ⟨.inr trivial, _, rfl, by simp [resOf, lk_cons, hr]⟩
      · simp (maxSteps := 1000000) (disch := first | omega | exact PairsOK.mk rfl | (simp only [lenW] <;> omega)) only [hlt, head_nz hx, hxn, head_intsD hxd, h1, wordsN, Int.reduceGT, wordsR, ne_eq, wS_regionP, aAppend_slF, aAppend_slN, aSlice_fslH, setL_cons, setL_nil, aMakeMap_new, wordsM, aNil_ptr, aNil_fptr, Int.one_mul, bls_len, ints_len, cells_bl, one_bl, box_bl, List.length_replicate, words, Nat.reduceAdd, Nat.reduceEqDiff, Nat.reduceBEq, ↓reduceIte, reduceCtorEq, SX.exit.injEq, if_true, if_false, Int.reduceAdd, Int.reduceSub, Int.reduceMul, Int.reduceLT, Int.reduceLE, Int.reduceEq, Int.reduceNe, Int.reduceNeg, Int.reduceToNat, Nat.reduceMul, Nat.reduceLT, Nat.reduceSub, Nat.reduceLeDiff]
        exact ⟨i + 1, by omega, ⟨by omega, all_take hall hx h1⟩, ⟨[], rfl, au0, au9, au10⟩⟩
    · have e : i = s.length := by omega
      subst e
      rw [List.take_length] at hall
      simp (maxSteps := 1000000) (disch := first | omega | exact PairsOK.mk rfl | (simp only [lenW] <;> omega)) only [hlt, wordsN, Int.reduceGT, wordsR, ne_eq, wS_regionP, aAppend_slF, aAppend_slN, aSlice_fslH, setL_cons, setL_nil, aMakeMap_new, wordsM, aNil_ptr, aNil_fptr, Int.one_mul, bls_len, ints_len, cells_bl, one_bl, box_bl, List.length_replicate, words, Nat.reduceAdd, Nat.reduceEqDiff, Nat.reduceBEq, ↓reduceIte, reduceCtorEq, SX.exit.injEq, if_true, if_false, Int.reduceAdd, Int.reduceSub, Int.reduceMul, Int.reduceLT, Int.reduceLE, Int.reduceEq, Int.reduceNe, Int.reduceNeg, Int.reduceToNat, Nat.reduceMul, Nat.reduceLT, Nat.reduceSub, Nat.reduceLeDiff]
      exact ⟨(), hall, ⟨[], rfl, au0, au9, au10⟩⟩
  rintro _ hall3
  have hr := ht hall3
  simp (maxSteps := 1000000) (disch := first | omega | exact PairsOK.mk rfl | (simp only [lenW] <;> omega)) only [wordsN, Int.reduceGT, wordsR, ne_eq, wS_regionP, aAppend_slF, aAppend_slN, aSlice_fslH, setL_cons, setL_nil, aMakeMap_new, wordsM, aNil_ptr, aNil_fptr, Int.one_mul, bls_len, ints_len, cells_bl, one_bl, box_bl, List.length_replicate, words, Nat.reduceAdd, Nat.reduceEqDiff, Nat.reduceBEq, ↓reduceIte, reduceCtorEq, SX.exit.injEq, if_true, if_false, Int.reduceAdd, Int.reduceSub, Int.reduceMul, Int.reduceLT, Int.reduceLE, Int.reduceEq, Int.reduceNe, Int.reduceNeg, Int.reduceToNat, Nat.reduceMul, Nat.reduceLT, Nat.reduceSub, Nat.reduceLeDiff]
  exact ⟨.inr trivial, _, rfl, by simp [resOf, lk_cons, hr]⟩
end Go.AM.SE
namespace Go.AM.SE
open Go.Proofs Go.AM.SD
set_option maxRecDepth 100000
set_option linter.unusedSimpArgs false
set_option linter.unusedVariables false
theorem shl_pow : ∀ n : Nat, n ≤ 5 → aBin .shl (.int .i64 1) (.int .i64 (n : Int)) = some (.int .i64 ((2 ^ n : Nat) : Int))
  | 0, _ => by kernel_rfl
  | 1, _ => by kernel_rfl
  | 2, _ => by kernel_rfl
  | 3, _ => by kernel_rfl
  | 4, _ => by kernel_rfl
  | 5, _ => by kernel_rfl
  | n + 6, h => absurd h (by omega)
def fnd (a : Aut) (f u K : List Nat) (b : Nat) : Bool := (List.range b).any fun b => rightF a (SD.part a.n b) f u && decide (nz (SD.part a.n b) = nz K)
theorem fnd_succ {a : Aut} {f u K : List Nat} {b : Nat} : fnd a f u K (b + 1) = (fnd a f u K b || (rightF a (SD.part a.n b) f u && decide (nz (SD.part a.n b) = nz K))) := by
  unfold fnd; rw [List.range_succ, List.any_append]; simp
set_option maxHeartbeats 32000000 in
theorem law3 (t : Tsk) (ho : TOk t) :
    W2 Try.prog ⟨s3.n, 0⟩ s3.body (fun e B => (e = .normal ∨ e = .ret) ∧ resV B.T B.h s3.res = some [.bool true]) ⟨argT 0 [tskV t], .e⟩ := by
  refine (wpC.toW (n := 40) (Q := fun e T h _ => (e = .normal ∨ e = .ret) ∧ resV T h s3.res = some [.bool true]) (show wS Try.prog ⟨s3.n, 0⟩ s3.body [] 40 _ _ _ from ?_)).mono fun e B ⟨_, h⟩ => h
  have hlu : (u8s t.T).length = 25 := by simp [u8s, ho.T]
  have h30 : (AV.int .u8 (t.set : Int) :: .int .u8 (t.st : Int) :: .int .u8 (t.mr : Int) :: (u8s t.T ++ [.int .u32 (t.fb : Int), .int .u8 (t.un : Int)])).length = 30 := by simp [hlu]
  have ht30 : (AV.int .u8 (t.set : Int) :: .int .u8 (t.st : Int) :: .int .u8 (t.mr : Int) :: (u8s t.T ++ [.int .u32 (t.fb : Int), .int .u8 (t.un : Int)])).take 30 = AV.int .u8 (t.set : Int) :: .int .u8 (t.st : Int) :: .int .u8 (t.mr : Int) :: (u8s t.T ++ [.int .u32 (t.fb : Int), .int .u8 (t.un : Int)]) := List.take_of_length_le (by omega)
  have hop := open10 t ho
  have hw := tA_wf t
  have hel := tA_el t
  have hq := tQ t
  simp (maxSteps := 1000000) (disch := first | omega | exact PairsOK.mk rfl | (simp only [lenW] <;> omega)) only [s3, wordsN, Int.reduceGT, wordsR, ne_eq, wS_regionP, aAppend_slF, aAppend_slN, aSlice_fslH, setL_cons, setL_nil, aMakeMap_new, wordsM, aNil_ptr, aNil_fptr, Int.one_mul, bls_len, ints_len, cells_bl, one_bl, box_bl, List.length_replicate, words, Nat.reduceAdd, Nat.reduceEqDiff, Nat.reduceBEq, ↓reduceIte, reduceCtorEq, SX.exit.injEq, if_true, if_false, Int.reduceAdd, Int.reduceSub, Int.reduceMul, Int.reduceLT, Int.reduceLE, Int.reduceEq, Int.reduceNe, Int.reduceNeg, Int.reduceToNat, Nat.reduceMul, Nat.reduceLT, Nat.reduceSub, Nat.reduceLeDiff]
  refine cp known9 ?_
  simp (maxSteps := 1000000) (disch := first | omega | exact PairsOK.mk rfl | (simp only [lenW] <;> omega)) only [h30, ht30, wordsN, Int.reduceGT, wordsR, ne_eq, wS_regionP, aAppend_slF, aAppend_slN, aSlice_fslH, setL_cons, setL_nil, aMakeMap_new, wordsM, aNil_ptr, aNil_fptr, Int.one_mul, bls_len, ints_len, cells_bl, one_bl, box_bl, List.length_replicate, words, Nat.reduceAdd, Nat.reduceEqDiff, Nat.reduceBEq, ↓reduceIte, reduceCtorEq, SX.exit.injEq, if_true, if_false, Int.reduceAdd, Int.reduceSub, Int.reduceMul, Int.reduceLT, Int.reduceLE, Int.reduceEq, Int.reduceNe, Int.reduceNeg, Int.reduceToNat, Nat.reduceMul, Nat.reduceLT, Nat.reduceSub, Nat.reduceLeDiff]
  refine cp hop ?_
  generalize tA t = A at *
  generalize tF t = F at *
  generalize tU t = U at *
  have hn5 := hw.n5
  have hF5 := sorted_len hq.fS hq.fn
  have hU5 := sorted_len hq.uS hq.un
  have hms : A.ms.length ≤ A.n := nodup_len A.n A.ms hw.nd hw.msn
  have k0 := Kept11 A F U hw hq hel
  have hgr := greatest hw (forb := F) (unc := U)
  have g1 : ∀ b, rightF A (SD.part A.n b) F U = true → ∀ x ∈ SD.part A.n b, x ∈ (pRes A F U true).kept := hgr.1
  have g2 : ∃ b, b < 2 ^ A.n ∧ rightF A (SD.part A.n b) F U = true ∧ SD.part A.n b = (pRes A F U true).kept := hgr.2
  have z0 : (pRes A F U true).kept.length ≤ 5 := by show (kept _ _).length ≤ 5; exact Nat.le_trans kept_len hn5
  have hshl := shl_pow A.n hn5
  have hM : 2 ^ A.n ≤ 32 := Nat.pow_le_pow_right (n := 2) (by decide) hn5
  clear hgr
  generalize (pRes A F U true).kept = K at *
  generalize 2 ^ A.n = M at *
  have hfin : fnd A F U K M = true := by
    obtain ⟨b, h1, h2, h3⟩ := g2
    unfold fnd
    rw [List.any_eq_true]
    exact ⟨b, List.mem_range.2 h1, by rw [h2, h3]; simp⟩
  simp (maxSteps := 1000000) (disch := first | omega | exact PairsOK.mk rfl | (simp only [lenW] <;> omega)) only [wordsN, Int.reduceGT, wordsR, ne_eq, wS_regionP, aAppend_slF, aAppend_slN, aSlice_fslH, setL_cons, setL_nil, aMakeMap_new, wordsM, aNil_ptr, aNil_fptr, Int.one_mul, bls_len, ints_len, cells_bl, one_bl, box_bl, List.length_replicate, words, Nat.reduceAdd, Nat.reduceEqDiff, Nat.reduceBEq, ↓reduceIte, reduceCtorEq, SX.exit.injEq, if_true, if_false, Int.reduceAdd, Int.reduceSub, Int.reduceMul, Int.reduceLT, Int.reduceLE, Int.reduceEq, Int.reduceNe, Int.reduceNeg, Int.reduceToNat, Nat.reduceMul, Nat.reduceLT, Nat.reduceSub, Nat.reduceLeDiff]
  refine cp k0 ?_
  simp (maxSteps := 1000000) (disch := first | omega | exact PairsOK.mk rfl | (simp only [lenW] <;> omega)) only [wordsN, Int.reduceGT, wordsR, ne_eq, wS_regionP, aAppend_slF, aAppend_slN, aSlice_fslH, setL_cons, setL_nil, aMakeMap_new, wordsM, aNil_ptr, aNil_fptr, Int.one_mul, bls_len, ints_len, cells_bl, one_bl, box_bl, List.length_replicate, words, Nat.reduceAdd, Nat.reduceEqDiff, Nat.reduceBEq, ↓reduceIte, reduceCtorEq, SX.exit.injEq, if_true, if_false, Int.reduceAdd, Int.reduceSub, Int.reduceMul, Int.reduceLT, Int.reduceLE, Int.reduceEq, Int.reduceNe, Int.reduceNeg, Int.reduceToNat, Nat.reduceMul, Nat.reduceLT, Nat.reduceSub, Nat.reduceLeDiff]
  refine wS_loopX 100 (fun b : Nat => [(3, .ptr 50 0 0), (4, sliN F), (5, sliN U), (6, sliN K), (8, .bool (fnd A F U K b)), (9, .int .i64 b)])
    (fun _ => [(50, .cells 0 [sliN A.al, .int .i64 (A.n : Int), sliN A.ms, egsN A.es])])
    (fun b => b ≤ M) (fun b => M - b) 0 0 140
    (fun _ : Unit => [(8, .bool (fnd A F U K M))]) (fun _ => []) (fun _ => True) ?_ (Nat.zero_le _) ?_ ?_
  · exact ⟨[(50, .blk 50 0)], rfl, au0, au9, au10⟩
  · rintro b hb
    by_cases hlt : b < M
    · have hp := part12 A.n b (by omega) (by omega)
      have hps : (SD.part A.n b).length ≤ A.n := sorted_len (part_sorted _ _) part_lt
      have hrt := right13 A (SD.part A.n b) F U hw.inN (by omega) part_lt (by omega) (by omega) (by omega) hel (by omega)
      have hst := fnd_succ (a := A) (f := F) (u := U) (K := K) (b := b)
      have hall := g1 b
      have hsm := sameInts (nz (SD.part A.n b)) (nz K) (by simp; omega)
      rw [sli_nz, sli_nz] at hsm
      generalize SD.part A.n b = p at *
      generalize fnd A F U K b = fb at *
      simp (maxSteps := 1000000) (disch := first | omega | exact PairsOK.mk rfl | (simp only [lenW] <;> omega)) only [hshl, hlt, wordsN, Int.reduceGT, wordsR, ne_eq, wS_regionP, aAppend_slF, aAppend_slN, aSlice_fslH, setL_cons, setL_nil, aMakeMap_new, wordsM, aNil_ptr, aNil_fptr, Int.one_mul, bls_len, ints_len, cells_bl, one_bl, box_bl, List.length_replicate, words, Nat.reduceAdd, Nat.reduceEqDiff, Nat.reduceBEq, ↓reduceIte, reduceCtorEq, SX.exit.injEq, if_true, if_false, Int.reduceAdd, Int.reduceSub, Int.reduceMul, Int.reduceLT, Int.reduceLE, Int.reduceEq, Int.reduceNe, Int.reduceNeg, Int.reduceToNat, Nat.reduceMul, Nat.reduceLT, Nat.reduceSub, Nat.reduceLeDiff]
      refine cp hp ?_
      simp (maxSteps := 1000000) (disch := first | omega | exact PairsOK.mk rfl | (simp only [lenW] <;> omega)) only [wordsN, Int.reduceGT, wordsR, ne_eq, wS_regionP, aAppend_slF, aAppend_slN, aSlice_fslH, setL_cons, setL_nil, aMakeMap_new, wordsM, aNil_ptr, aNil_fptr, Int.one_mul, bls_len, ints_len, cells_bl, one_bl, box_bl, List.length_replicate, words, Nat.reduceAdd, Nat.reduceEqDiff, Nat.reduceBEq, ↓reduceIte, reduceCtorEq, SX.exit.injEq, if_true, if_false, Int.reduceAdd, Int.reduceSub, Int.reduceMul, Int.reduceLT, Int.reduceLE, Int.reduceEq, Int.reduceNe, Int.reduceNeg, Int.reduceToNat, Nat.reduceMul, Nat.reduceLT, Nat.reduceSub, Nat.reduceLeDiff]
      refine cp hrt ?_
      cases hR : rightF A p F U with
      | true =>
        rw [hR, Bool.true_and] at hst
        replace hall := hall hR
        cases fb with
        | true =>
          rw [Bool.true_or] at hst
          simp (maxSteps := 1000000) (disch := first | omega | exact PairsOK.mk rfl | (simp only [lenW] <;> omega)) only [wordsN, Int.reduceGT, wordsR, ne_eq, wS_regionP, aAppend_slF, aAppend_slN, aSlice_fslH, setL_cons, setL_nil, aMakeMap_new, wordsM, aNil_ptr, aNil_fptr, Int.one_mul, bls_len, ints_len, cells_bl, one_bl, box_bl, List.length_replicate, words, Nat.reduceAdd, Nat.reduceEqDiff, Nat.reduceBEq, ↓reduceIte, reduceCtorEq, SX.exit.injEq, if_true, if_false, Int.reduceAdd, Int.reduceSub, Int.reduceMul, Int.reduceLT, Int.reduceLE, Int.reduceEq, Int.reduceNe, Int.reduceNeg, Int.reduceToNat, Nat.reduceMul, Nat.reduceLT, Nat.reduceSub, Nat.reduceLeDiff]
          refine wS_loopX 200 (fun i : Nat => [(3, .ptr 50 0 0), (4, sliN F), (5, sliN U), (6, sliN K), (8, .bool (fnd A F U K (b + 1))), (9, .int .i64 b), (10, sliN p), (11, .int .i64 i)])
            (fun _ => [(50, .cells 0 [sliN A.al, .int .i64 (A.n : Int), sliN A.ms, egsN A.es])]) (fun i => i ≤ p.length) (fun i => p.length - i) 0 2 240
            (fun _ : Unit => [(3, .ptr 50 0 0), (4, sliN F), (5, sliN U), (6, sliN K), (8, .bool (fnd A F U K (b + 1))), (9, .int .i64 b)])
            (fun _ => [(50, .cells 0 [sliN A.al, .int .i64 (A.n : Int), sliN A.ms, egsN A.es])]) (fun _ => True) ?_ (Nat.zero_le _) ?_ ?_
          · rw [hst]
            exact ⟨[(50, .blk 50 0)], rfl, au0, au9, au10⟩
          · rintro i hi
            by_cases hil : i < p.length
            · obtain ⟨x, hx⟩ := get_ex hil
              have hxk := hall x (List.mem_of_getElem? hx)
              have hh := has15 (nz K) x (by simp; omega)
              rw [mem_nz, sli_nz, show K.contains x = true by simpa using hxk] at hh
              simp (maxSteps := 1000000) (disch := first | omega | exact PairsOK.mk rfl | (simp only [lenW] <;> omega)) only [hil, head_nz hx, wordsN, Int.reduceGT, wordsR, ne_eq, wS_regionP, aAppend_slF, aAppend_slN, aSlice_fslH, setL_cons, setL_nil, aMakeMap_new, wordsM, aNil_ptr, aNil_fptr, Int.one_mul, bls_len, ints_len, cells_bl, one_bl, box_bl, List.length_replicate, words, Nat.reduceAdd, Nat.reduceEqDiff, Nat.reduceBEq, ↓reduceIte, reduceCtorEq, SX.exit.injEq, if_true, if_false, Int.reduceAdd, Int.reduceSub, Int.reduceMul, Int.reduceLT, Int.reduceLE, Int.reduceEq, Int.reduceNe, Int.reduceNeg, Int.reduceToNat, Nat.reduceMul, Nat.reduceLT, Nat.reduceSub, Nat.reduceLeDiff]
              refine cp hh ?_
              simp (maxSteps := 1000000) (disch := first | omega | exact PairsOK.mk rfl | (simp only [lenW] <;> omega)) only [wordsN, Int.reduceGT, wordsR, ne_eq, wS_regionP, aAppend_slF, aAppend_slN, aSlice_fslH, setL_cons, setL_nil, aMakeMap_new, wordsM, aNil_ptr, aNil_fptr, Int.one_mul, bls_len, ints_len, cells_bl, one_bl, box_bl, List.length_replicate, words, Nat.reduceAdd, Nat.reduceEqDiff, Nat.reduceBEq, ↓reduceIte, reduceCtorEq, SX.exit.injEq, if_true, if_false, Int.reduceAdd, Int.reduceSub, Int.reduceMul, Int.reduceLT, Int.reduceLE, Int.reduceEq, Int.reduceNe, Int.reduceNeg, Int.reduceToNat, Nat.reduceMul, Nat.reduceLT, Nat.reduceSub, Nat.reduceLeDiff]
              exact ⟨i + 1, by omega, by omega, ⟨[(50, .blk 50 0)], rfl, au0, au9, au10⟩⟩
            · simp (maxSteps := 1000000) (disch := first | omega | exact PairsOK.mk rfl | (simp only [lenW] <;> omega)) only [hil, wordsN, Int.reduceGT, wordsR, ne_eq, wS_regionP, aAppend_slF, aAppend_slN, aSlice_fslH, setL_cons, setL_nil, aMakeMap_new, wordsM, aNil_ptr, aNil_fptr, Int.one_mul, bls_len, ints_len, cells_bl, one_bl, box_bl, List.length_replicate, words, Nat.reduceAdd, Nat.reduceEqDiff, Nat.reduceBEq, ↓reduceIte, reduceCtorEq, SX.exit.injEq, if_true, if_false, Int.reduceAdd, Int.reduceSub, Int.reduceMul, Int.reduceLT, Int.reduceLE, Int.reduceEq, Int.reduceNe, Int.reduceNeg, Int.reduceToNat, Nat.reduceMul, Nat.reduceLT, Nat.reduceSub, Nat.reduceLeDiff]
              exact ⟨(), ⟨[(50, .blk 50 0)], rfl, au0, au9, au10⟩⟩
          rintro _ _
          simp (maxSteps := 1000000) (disch := first | omega | exact PairsOK.mk rfl | (simp only [lenW] <;> omega)) only [wordsN, Int.reduceGT, wordsR, ne_eq, wS_regionP, aAppend_slF, aAppend_slN, aSlice_fslH, setL_cons, setL_nil, aMakeMap_new, wordsM, aNil_ptr, aNil_fptr, Int.one_mul, bls_len, ints_len, cells_bl, one_bl, box_bl, List.length_replicate, words, Nat.reduceAdd, Nat.reduceEqDiff, Nat.reduceBEq, ↓reduceIte, reduceCtorEq, SX.exit.injEq, if_true, if_false, Int.reduceAdd, Int.reduceSub, Int.reduceMul, Int.reduceLT, Int.reduceLE, Int.reduceEq, Int.reduceNe, Int.reduceNeg, Int.reduceToNat, Nat.reduceMul, Nat.reduceLT, Nat.reduceSub, Nat.reduceLeDiff]
          exact ⟨b + 1, by omega, by omega, ⟨[(50, .blk 50 0)], rfl, au0, au9, au10⟩⟩
        | false =>
          rw [Bool.false_or] at hst
          simp (maxSteps := 1000000) (disch := first | omega | exact PairsOK.mk rfl | (simp only [lenW] <;> omega)) only [wordsN, Int.reduceGT, wordsR, ne_eq, wS_regionP, aAppend_slF, aAppend_slN, aSlice_fslH, setL_cons, setL_nil, aMakeMap_new, wordsM, aNil_ptr, aNil_fptr, Int.one_mul, bls_len, ints_len, cells_bl, one_bl, box_bl, List.length_replicate, words, Nat.reduceAdd, Nat.reduceEqDiff, Nat.reduceBEq, ↓reduceIte, reduceCtorEq, SX.exit.injEq, if_true, if_false, Int.reduceAdd, Int.reduceSub, Int.reduceMul, Int.reduceLT, Int.reduceLE, Int.reduceEq, Int.reduceNe, Int.reduceNeg, Int.reduceToNat, Nat.reduceMul, Nat.reduceLT, Nat.reduceSub, Nat.reduceLeDiff]
          refine cp hsm ?_
          generalize decide (nz p = nz K) = q at *
          simp (maxSteps := 1000000) (disch := first | omega | exact PairsOK.mk rfl | (simp only [lenW] <;> omega)) only [wordsN, Int.reduceGT, wordsR, ne_eq, wS_regionP, aAppend_slF, aAppend_slN, aSlice_fslH, setL_cons, setL_nil, aMakeMap_new, wordsM, aNil_ptr, aNil_fptr, Int.one_mul, bls_len, ints_len, cells_bl, one_bl, box_bl, List.length_replicate, words, Nat.reduceAdd, Nat.reduceEqDiff, Nat.reduceBEq, ↓reduceIte, reduceCtorEq, SX.exit.injEq, if_true, if_false, Int.reduceAdd, Int.reduceSub, Int.reduceMul, Int.reduceLT, Int.reduceLE, Int.reduceEq, Int.reduceNe, Int.reduceNeg, Int.reduceToNat, Nat.reduceMul, Nat.reduceLT, Nat.reduceSub, Nat.reduceLeDiff]
          refine wS_loopX 200 (fun i : Nat => [(3, .ptr 50 0 0), (4, sliN F), (5, sliN U), (6, sliN K), (8, .bool (fnd A F U K (b + 1))), (9, .int .i64 b), (10, sliN p), (11, .int .i64 i)])
            (fun _ => [(50, .cells 0 [sliN A.al, .int .i64 (A.n : Int), sliN A.ms, egsN A.es])]) (fun i => i ≤ p.length) (fun i => p.length - i) 0 2 240
            (fun _ : Unit => [(3, .ptr 50 0 0), (4, sliN F), (5, sliN U), (6, sliN K), (8, .bool (fnd A F U K (b + 1))), (9, .int .i64 b)])
            (fun _ => [(50, .cells 0 [sliN A.al, .int .i64 (A.n : Int), sliN A.ms, egsN A.es])]) (fun _ => True) ?_ (Nat.zero_le _) ?_ ?_
          · rw [hst]
            exact ⟨[(50, .blk 50 0)], rfl, au0, au9, au10⟩
          · rintro i hi
            by_cases hil : i < p.length
            · obtain ⟨x, hx⟩ := get_ex hil
              have hxk := hall x (List.mem_of_getElem? hx)
              have hh := has15 (nz K) x (by simp; omega)
              rw [mem_nz, sli_nz, show K.contains x = true by simpa using hxk] at hh
              simp (maxSteps := 1000000) (disch := first | omega | exact PairsOK.mk rfl | (simp only [lenW] <;> omega)) only [hil, head_nz hx, wordsN, Int.reduceGT, wordsR, ne_eq, wS_regionP, aAppend_slF, aAppend_slN, aSlice_fslH, setL_cons, setL_nil, aMakeMap_new, wordsM, aNil_ptr, aNil_fptr, Int.one_mul, bls_len, ints_len, cells_bl, one_bl, box_bl, List.length_replicate, words, Nat.reduceAdd, Nat.reduceEqDiff, Nat.reduceBEq, ↓reduceIte, reduceCtorEq, SX.exit.injEq, if_true, if_false, Int.reduceAdd, Int.reduceSub, Int.reduceMul, Int.reduceLT, Int.reduceLE, Int.reduceEq, Int.reduceNe, Int.reduceNeg, Int.reduceToNat, Nat.reduceMul, Nat.reduceLT, Nat.reduceSub, Nat.reduceLeDiff]
              refine cp hh ?_
              simp (maxSteps := 1000000) (disch := first | omega | exact PairsOK.mk rfl | (simp only [lenW] <;> omega)) only [wordsN, Int.reduceGT, wordsR, ne_eq, wS_regionP, aAppend_slF, aAppend_slN, aSlice_fslH, setL_cons, setL_nil, aMakeMap_new, wordsM, aNil_ptr, aNil_fptr, Int.one_mul, bls_len, ints_len, cells_bl, one_bl, box_bl, List.length_replicate, words, Nat.reduceAdd, Nat.reduceEqDiff, Nat.reduceBEq, ↓reduceIte, reduceCtorEq, SX.exit.injEq, if_true, if_false, Int.reduceAdd, Int.reduceSub, Int.reduceMul, Int.reduceLT, Int.reduceLE, Int.reduceEq, Int.reduceNe, Int.reduceNeg, Int.reduceToNat, Nat.reduceMul, Nat.reduceLT, Nat.reduceSub, Nat.reduceLeDiff]
              exact ⟨i + 1, by omega, by omega, ⟨[(50, .blk 50 0)], rfl, au0, au9, au10⟩⟩
            · simp (maxSteps := 1000000) (disch := first | omega | exact PairsOK.mk rfl | (simp only [lenW] <;> omega)) only [hil, wordsN, Int.reduceGT, wordsR, ne_eq, wS_regionP, aAppend_slF, aAppend_slN, aSlice_fslH, setL_cons, setL_nil, aMakeMap_new, wordsM, aNil_ptr, aNil_fptr, Int.one_mul, bls_len, ints_len, cells_bl, one_bl, box_bl, List.length_replicate, words, Nat.reduceAdd, Nat.reduceEqDiff, Nat.reduceBEq, ↓reduceIte, reduceCtorEq, SX.exit.injEq, if_true, if_false, Int.reduceAdd, Int.reduceSub, Int.reduceMul, Int.reduceLT, Int.reduceLE, Int.reduceEq, Int.reduceNe, Int.reduceNeg, Int.reduceToNat, Nat.reduceMul, Nat.reduceLT, Nat.reduceSub, Nat.reduceLeDiff]
              exact ⟨(), ⟨[(50, .blk 50 0)], rfl, au0, au9, au10⟩⟩
          rintro _ _
          simp (maxSteps := 1000000) (disch := first | omega | exact PairsOK.mk rfl | (simp only [lenW] <;> omega)) only [wordsN, Int.reduceGT, wordsR, ne_eq, wS_regionP, aAppend_slF, aAppend_slN, aSlice_fslH, setL_cons, setL_nil, aMakeMap_new, wordsM, aNil_ptr, aNil_fptr, Int.one_mul, bls_len, ints_len, cells_bl, one_bl, box_bl, List.length_replicate, words, Nat.reduceAdd, Nat.reduceEqDiff, Nat.reduceBEq, ↓reduceIte, reduceCtorEq, SX.exit.injEq, if_true, if_false, Int.reduceAdd, Int.reduceSub, Int.reduceMul, Int.reduceLT, Int.reduceLE, Int.reduceEq, Int.reduceNe, Int.reduceNeg, Int.reduceToNat, Nat.reduceMul, Nat.reduceLT, Nat.reduceSub, Nat.reduceLeDiff]
          exact ⟨b + 1, by omega, by omega, ⟨[(50, .blk 50 0)], rfl, au0, au9, au10⟩⟩
      | false =>
        rw [hR, Bool.false_and, Bool.or_false] at hst
        simp (maxSteps := 1000000) (disch := first | omega | exact PairsOK.mk rfl | (simp only [lenW] <;> omega)) only [wordsN, Int.reduceGT, wordsR, ne_eq, wS_regionP, aAppend_slF, aAppend_slN, aSlice_fslH, setL_cons, setL_nil, aMakeMap_new, wordsM, aNil_ptr, aNil_fptr, Int.one_mul, bls_len, ints_len, cells_bl, one_bl, box_bl, List.length_replicate, words, Nat.reduceAdd, Nat.reduceEqDiff, Nat.reduceBEq, ↓reduceIte, reduceCtorEq, SX.exit.injEq, if_true, if_false, Int.reduceAdd, Int.reduceSub, Int.reduceMul, Int.reduceLT, Int.reduceLE, Int.reduceEq, Int.reduceNe, Int.reduceNeg, Int.reduceToNat, Nat.reduceMul, Nat.reduceLT, Nat.reduceSub, Nat.reduceLeDiff]
        refine ⟨b + 1, by omega, by omega, ?_⟩
        rw [hst]
        exact ⟨[(50, .blk 50 0)], rfl, au0, au9, au10⟩
    · have e : b = M := by omega
      subst e
      simp (maxSteps := 1000000) (disch := first | omega | exact PairsOK.mk rfl | (simp only [lenW] <;> omega)) only [hshl, wordsN, Int.reduceGT, wordsR, ne_eq, wS_regionP, aAppend_slF, aAppend_slN, aSlice_fslH, setL_cons, setL_nil, aMakeMap_new, wordsM, aNil_ptr, aNil_fptr, Int.one_mul, bls_len, ints_len, cells_bl, one_bl, box_bl, List.length_replicate, words, Nat.reduceAdd, Nat.reduceEqDiff, Nat.reduceBEq, ↓reduceIte, reduceCtorEq, SX.exit.injEq, if_true, if_false, Int.reduceAdd, Int.reduceSub, Int.reduceMul, Int.reduceLT, Int.reduceLE, Int.reduceEq, Int.reduceNe, Int.reduceNeg, Int.reduceToNat, Nat.reduceMul, Nat.reduceLT, Nat.reduceSub, Nat.reduceLeDiff]
      exact ⟨(), ⟨[], rfl, au0, au9, au10⟩⟩
  rintro _ _
  rw [hfin]
  simp (maxSteps := 1000000) (disch := first | omega | exact PairsOK.mk rfl | (simp only [lenW] <;> omega)) only [wordsN, Int.reduceGT, wordsR, ne_eq, wS_regionP, aAppend_slF, aAppend_slN, aSlice_fslH, setL_cons, setL_nil, aMakeMap_new, wordsM, aNil_ptr, aNil_fptr, Int.one_mul, bls_len, ints_len, cells_bl, one_bl, box_bl, List.length_replicate, words, Nat.reduceAdd, Nat.reduceEqDiff, Nat.reduceBEq, ↓reduceIte, reduceCtorEq, SX.exit.injEq, if_true, if_false, Int.reduceAdd, Int.reduceSub, Int.reduceMul, Int.reduceLT, Int.reduceLE, Int.reduceEq, Int.reduceNe, Int.reduceNeg, Int.reduceToNat, Nat.reduceMul, Nat.reduceLT, Nat.reduceSub, Nat.reduceLeDiff]
  exact ⟨.inr trivial, rfl⟩
theorem law3_in (d0 : tyTask.D) (h0 : tyTask.wf d0) :
    W2 Try.prog ⟨s3.n, 0⟩ s3.body (fun e B => (e = .normal ∨ e = .ret) ∧ resV B.T B.h s3.res = some [.bool true]) ⟨argT 0 [tyTask.val d0], .e⟩ := by
  obtain ⟨t, ht, e0⟩ := tsk_in h0
  rw [e0]
  exact law3 t ht
end Go.AM.SE
