/- A part of the proof of SynthesisNextSaid: lemmas on the way (AmEo, AmEp, AmEr, AmEs, AmEq, AmEt). Conditions: none of ours. -/
import Derived.Test.YtnfcjlgmkjiehaaAmZ8
set_option linter.unusedSectionVars false
namespace Go.AM.SE
open Go.Proofs Go.AM.SD
set_option maxRecDepth 100000
set_option linter.unusedSimpArgs false
set_option linter.unusedVariables false
def u8s (l : List Nat) : List AV := l.map fun x : Nat => .int .u8 (x : Int)
theorem noRefs_u8 (l : List Nat) : noRefs (u8s l) = true := noRefs_mapS (fun _ => rfl) l
theorem get_u8 {l : List Nat} {i x : Nat} (h : l[i]? = some x) : (u8s l)[i]? = some (.int .u8 (x : Int)) := by simp [u8s, h]
def gEd (al : List Nat) (n : Nat) (T : List Nat) (i k : Nat) : Option Ed := if T.getD (i * 5 + k) 0 % (n + 2) < n then some (i, al.getD k 0, T.getD (i * 5 + k) 0 % (n + 2)) else none
def gRow (al : List Nat) (n : Nat) (T : List Nat) (i k : Nat) : List Ed := (List.range k).filterMap (gEd al n T i)
def gPre (al : List Nat) (n : Nat) (T : List Nat) (i : Nat) : List Ed := (List.range i).flatMap fun i => gRow al n T i al.length
def gPart (al : List Nat) (n : Nat) (T : List Nat) (i k : Nat) : List Ed := gPre al n T i ++ gRow al n T i k
def gRaw (al : List Nat) (st mk : Nat) (T : List Nat) : Aut := if 250 ≤ st then ⟨al, 0, [], []⟩ else ⟨al, 1 + st % 5, SD.part (1 + st % 5) mk, gPre al (1 + st % 5) T (1 + st % 5)⟩
theorem gRow_mem {al : List Nat} {n : Nat} {T : List Nat} {i k : Nat} {e : Ed} (h : e ∈ gRow al n T i k) : e.1 = i ∧ e.2.2 < n := by
  unfold gRow at h
  obtain ⟨j, _, hj⟩ := List.mem_filterMap.1 h
  unfold gEd at hj
  split at hj
  · rename_i h1; cases hj; exact ⟨rfl, h1⟩
  · cases hj
theorem gRow_succ {al : List Nat} {n : Nat} {T : List Nat} {i k : Nat} : gRow al n T i (k + 1) = gRow al n T i k ++ match gEd al n T i k with | some e => [e] | none => [] := by
  unfold gRow
  rw [List.range_succ, List.filterMap_append]
  congr 1
  cases e : gEd al n T i k <;> simp [e]
theorem gRow_len {al : List Nat} {n : Nat} {T : List Nat} {i k : Nat} : (gRow al n T i k).length ≤ k := by
  unfold gRow; exact Nat.le_trans (List.length_filterMap_le _ _) (by simp)
theorem gPre_len {al : List Nat} {n : Nat} {T : List Nat} (hal : al.length ≤ 5) : ∀ i, (gPre al n T i).length ≤ i * 5
  | 0 => by simp [gPre]
  | i + 1 => by
    have h1 := gPre_len (n := n) (T := T) hal i
    have h2 := @gRow_len al n T i al.length
    unfold gPre at h1 ⊢
    rw [List.range_succ, List.flatMap_append, List.length_append, Nat.succ_mul, List.flatMap_cons, List.flatMap_nil, List.append_nil]
    omega
theorem gPre_succ {al : List Nat} {n : Nat} {T : List Nat} {i : Nat} : gPre al n T (i + 1) = gPart al n T i al.length := by
  unfold gPart gPre
  rw [List.range_succ, List.flatMap_append, List.flatMap_cons, List.flatMap_nil, List.append_nil]
theorem gRaw_raw {al : List Nat} {st mk : Nat} {T : List Nat} (hal : al.length ≤ 5) : Raw (gRaw al st mk T) := by
  unfold gRaw
  split
  · exact ⟨by simp, by simp, by simp, by dsimp only; omega, by simp⟩
  · have h5 : 1 + st % 5 ≤ 5 := by omega
    refine ⟨fun e he => ?_, h5, ?_, by dsimp only; omega, ?_⟩
    · unfold gPre at he
      obtain ⟨i, hi, he⟩ := List.mem_flatMap.1 he
      have := List.mem_range.1 hi
      obtain ⟨h1, h2⟩ := gRow_mem he
      exact ⟨by rw [h1]; exact this, h2⟩
    · have := gPre_len (n := 1 + st % 5) (T := T) hal (1 + st % 5)
      dsimp only; omega
    · have := @part_len (1 + st % 5) mk
      dsimp only; omega
def mkA (al : List Nat) (st mk : Nat) (T : List Nat) : Aut := canon (gRaw al st mk T)
theorem mkA_wf {al : List Nat} {st mk : Nat} {T : List Nat} (hs : al.Pairwise (· < ·)) (h5 : ∀ x ∈ al, x < 5) : WfA (mkA al st mk T) := by
  have hal : al.length ≤ 5 := sorted_len hs h5
  have hr := gRaw_raw (st := st) (mk := mk) (T := T) hal
  have ha : (gRaw al st mk T).al = al := by unfold gRaw; split <;> rfl
  exact canon_wf (by rw [ha]; exact hs) (by rw [ha]; exact h5) hr.n5 hr.esn
abbrev grV (st mk : Nat) (T : List Nat) : AV := .agg (.int .u8 (st : Int) :: .int .u8 (mk : Int) :: u8s T)
theorem _root_.Go.AM.au9 {p : Prop} (h : p := by repeat' (first | exact RB.nil | (refine RnL.same ?_; first | rfl | (simp only [noRef, noRefs, noRefs_append, Bool.and_self, Bool.and_true, Bool.true_and, noRefs_ints, noRefs_u8, noRefs_eg, noRefs_ed, noRefs_rm, noRefs_ls, noRefs_bk, noRefs_bls, noRef_sli, noRef_sliN, noRef_egs, noRef_egsN, noRefs_keysI, noRefs_back, noRefs_rowE]; done)) | exact RnM.keyM rfl | exact RnL.nil | exact (True.intro : RnM _ _ _ [] []) | refine RnL.cons ?_ ?_ | (refine Rn.same ?_; first | rfl | (simp only [noRef, noRefs, noRefs_append, Bool.and_self, Bool.and_true, Bool.true_and, noRefs_ints, noRefs_u8, noRefs_eg, noRefs_ed, noRefs_rm, noRefs_ls, noRefs_bk, noRefs_bls, noRef_sli, noRef_sliN, noRef_egs, noRef_egsN, noRefs_keysI, noRefs_back, noRefs_rowE]; done)) | exact Rn.x1 rfl rfl | exact Rn.x2 rfl rfl | exact Rn.x3 rfl rfl | exact Rn.x4 rfl rfl | exact Rn.x5 rfl | exact Rn.x6 rfl | exact Rn.x7 rfl | refine RB.newnil rfl rfl ?_ | refine RB.cells rfl rfl rfl ?_ ?_ | refine RB.map rfl rfl rfl ?_ ?_ | refine RB.cellsB rfl rfl ?_ ?_ | refine RB.mapB rfl rfl ?_ ?_)) : p := h
theorem _root_.Go.AM.au10 {p : Prop} (h : p := by repeat (first | exact RT.nil | (refine RT.cons ?_ ?_; · (first | exact Rn.any | exact Rn.x1 rfl rfl | exact Rn.x2 rfl rfl | exact Rn.x3 rfl rfl | exact Rn.x4 rfl rfl | exact Rn.x5 rfl | exact Rn.x6 rfl | exact Rn.x7 rfl | (refine Rn.slot ?_ ?_; (first | rfl | (rw [Int.natCast_add]; rfl)); (first | rfl | (simp only [noRef, noRefs, noRefs_append, Bool.and_self, Bool.and_true, Bool.true_and, noRefs_ints, noRefs_u8, noRefs_eg, noRefs_ed, noRefs_rm, noRefs_ls, noRefs_bk, noRefs_bls, noRef_sli, noRef_sliN, noRef_egs, noRef_egsN, noRefs_keysI, noRefs_back, noRefs_rowE]; done))) | (refine Rn.fn ?_ ?_ <;> (repeat' (first | exact RnL.nil | refine RnL.cons ?_ ?_ | exact Rn.same rfl | exact Rn.x6 rfl | exact Rn.x2 rfl rfl | exact Rn.x5 rfl | exact Rn.x1 rfl rfl))))))) : p := h
set_option maxHeartbeats 32000000 in
theorem Make32 (al : List Nat) (st mk : Nat) (T : List Nat) (hs : al.Pairwise (· < ·)) (h5 : ∀ x ∈ al, x < 5) (hst : st < 256) (hmk : mk < 256) (hT : T.length = 25) (hT8 : ∀ x ∈ T, x < 256) :
    PSpec Try.prog 32 [sliN al, grV st mk T] (aV (mkA al st mk T)) := by
  have hal : al.length ≤ 5 := sorted_len hs h5
  have hlu : (u8s T).length = 25 := by simp [u8s, hT]
  have hcan := canon46 (gRaw al st mk T) (gRaw_raw hal)
  refine PSpec.of_rn 40 ok32 rfl (by (try simp only [noRefs, noRefs_u8, noRefs_keysI, noRefs_back, noRefs_ints, noRefs_eg, noRefs_ed, noRefs_rm, noRefs_ls, noRefs_bls, noRef, Bool.and_self, Bool.and_true]) <;> rfl) (noRef_aV _) ?_
  unfold mkA
  by_cases h0 : 250 ≤ st
  · have h0' : (250 : Int) ≤ (st : Int) := by omega
    have hr : gRaw al st mk T = ⟨al, 0, [], []⟩ := if_pos h0
    have hc : canon (gRaw al st mk T) = ⟨al, 0, [], []⟩ := by rw [hr]; rfl
    rw [hc]
    simp (maxSteps := 1000000) (disch := first | omega | exact PairsOK.mk rfl | (simp only [lenW] <;> omega)) only [s32, h0', wordsN, Int.reduceGT, wordsR, ne_eq, wS_regionP, aAppend_slF, aAppend_slN, aSlice_fslH, setL_cons, setL_nil, aMakeMap_new, wordsM, aNil_ptr, aNil_fptr, Int.one_mul, bls_len, ints_len, cells_bl, one_bl, box_bl, List.length_replicate, words, Nat.reduceAdd, Nat.reduceEqDiff, Nat.reduceBEq, ↓reduceIte, reduceCtorEq, SX.exit.injEq, if_true, if_false, Int.reduceAdd, Int.reduceSub, Int.reduceMul, Int.reduceLT, Int.reduceLE, Int.reduceEq, Int.reduceNe, Int.reduceNeg, Int.reduceToNat, Nat.reduceMul, Nat.reduceLT, Nat.reduceSub, Nat.reduceLeDiff]
    refine cp (empty45 al (by omega)) ?_
    simp (maxSteps := 1000000) (disch := first | omega | exact PairsOK.mk rfl | (simp only [lenW] <;> omega)) only [wordsN, Int.reduceGT, wordsR, ne_eq, wS_regionP, aAppend_slF, aAppend_slN, aSlice_fslH, setL_cons, setL_nil, aMakeMap_new, wordsM, aNil_ptr, aNil_fptr, Int.one_mul, bls_len, ints_len, cells_bl, one_bl, box_bl, List.length_replicate, words, Nat.reduceAdd, Nat.reduceEqDiff, Nat.reduceBEq, ↓reduceIte, reduceCtorEq, SX.exit.injEq, if_true, if_false, Int.reduceAdd, Int.reduceSub, Int.reduceMul, Int.reduceLT, Int.reduceLE, Int.reduceEq, Int.reduceNe, Int.reduceNeg, Int.reduceToNat, Nat.reduceMul, Nat.reduceLT, Nat.reduceSub, Nat.reduceLeDiff]
    refine ⟨.inr trivial, _, rfl, ?_⟩
    exact Rn.agg (RnL.cons (Rn.same (noRef_sliN _)) (RnL.cons (Rn.same rfl) (RnL.cons Rn.nilK (RnL.cons Rn.nilK RnL.nil))))
  have h0' : ¬ (250 : Int) ≤ (st : Int) := by omega
  have hr : gRaw al st mk T = ⟨al, 1 + st % 5, SD.part (1 + st % 5) mk, gPre al (1 + st % 5) T (1 + st % 5)⟩ := if_neg h0
  rw [hr] at hcan ⊢
  have hn5 : 1 + st % 5 ≤ 5 := by omega
  obtain ⟨n, hN⟩ : ∃ n, n = 1 + st % 5 := ⟨_, rfl⟩
  rw [← hN] at hr hcan hn5 ⊢
  have hnn : (1 : Int) + ((st % 5 : Nat) : Int) = (n : Int) := by omega
  simp (maxSteps := 1000000) (disch := first | omega | exact PairsOK.mk rfl | (simp only [lenW] <;> omega)) only [s32, h0', wordsN, Int.reduceGT, wordsR, ne_eq, wS_regionP, aAppend_slF, aAppend_slN, aSlice_fslH, setL_cons, setL_nil, aMakeMap_new, wordsM, aNil_ptr, aNil_fptr, Int.one_mul, bls_len, ints_len, cells_bl, one_bl, box_bl, List.length_replicate, words, Nat.reduceAdd, Nat.reduceEqDiff, Nat.reduceBEq, ↓reduceIte, reduceCtorEq, SX.exit.injEq, if_true, if_false, Int.reduceAdd, Int.reduceSub, Int.reduceMul, Int.reduceLT, Int.reduceLE, Int.reduceEq, Int.reduceNe, Int.reduceNeg, Int.reduceToNat, Nat.reduceMul, Nat.reduceLT, Nat.reduceSub, Nat.reduceLeDiff]
  refine cp (empty45 al (by omega)) ?_
  have htm : (st : Int).tmod 5 = ((st % 5 : Nat) : Int) := by
    rw [Int.tmod_eq_emod_of_nonneg (Int.natCast_nonneg _)]; norm_cast
  simp (maxSteps := 1000000) (disch := first | omega | exact PairsOK.mk rfl | (simp only [lenW] <;> omega)) only [htm, hnn, wordsN, Int.reduceGT, wordsR, ne_eq, wS_regionP, aAppend_slF, aAppend_slN, aSlice_fslH, setL_cons, setL_nil, aMakeMap_new, wordsM, aNil_ptr, aNil_fptr, Int.one_mul, bls_len, ints_len, cells_bl, one_bl, box_bl, List.length_replicate, words, Nat.reduceAdd, Nat.reduceEqDiff, Nat.reduceBEq, ↓reduceIte, reduceCtorEq, SX.exit.injEq, if_true, if_false, Int.reduceAdd, Int.reduceSub, Int.reduceMul, Int.reduceLT, Int.reduceLE, Int.reduceEq, Int.reduceNe, Int.reduceNeg, Int.reduceToNat, Nat.reduceMul, Nat.reduceLT, Nat.reduceSub, Nat.reduceLeDiff]
  refine wS_loopX 100 (fun i : Nat => [(0, sliN al), (3, .ptr 50 0 0), (4, .ptr 51 0 0), (5, .ptr 52 0 0), (6, .int .i64 i)])
    (fun i => [(50, .cells 0 (.int .u8 (st : Int) :: .int .u8 (mk : Int) :: u8s T)), (51, .cells 0 [.nilsl, .int .i64 0, .nilsl, .nilsl]), (52, .cells 0 [sliN al, .int .i64 (n : Int), .sl 77 0 0 (SD.part i mk).length 1, .sl 76 0 0 (gPre al n T i).length 3]), (76, .cells 0 ((gPre al n T i).flatMap edC)), (77, .cells 0 (ints (nz (SD.part i mk))))])
    (fun i => i ≤ n) (fun i => n - i) 0 0 160
    (fun _ : Unit => [(4, .ptr 51 0 0), (5, .ptr 52 0 0)])
    (fun _ => [(51, .cells 0 [.nilsl, .int .i64 0, .nilsl, .nilsl]), (52, .cells 0 [sliN al, .int .i64 (n : Int), sliN (SD.part n mk), egsN (gPre al n T n)])]) (fun _ => True) ?_ (Nat.zero_le _) ?_ ?_
  · exact ⟨[(50, .blk 40 0), (51, .blk 41 0), (52, .blk 47 0), (76, .nil), (77, .nil)], rfl, au0, au9, au10⟩
  · rintro i hi
    by_cases hlt : i < n
    · have hpt := part_take (n := n) (b := mk) (i := i)
      have hpl := @part_len i mk
      have hgl := gPre_len (n := n) (T := T) hal i
      have hg0 : gPart al n T i 0 = gPre al n T i := by simp [gPart, gRow]
      have hgs := gPre_succ (al := al) (n := n) (T := T) (i := i)
      have hed0 := ed_len (gPre al n T i)
      generalize hM1 : SD.part (i + 1) mk = M1 at *
      generalize hM : SD.part i mk = M at *
      by_cases hmv : mk.testBit i = true
      · rw [if_pos hmv] at hpt
        have hb := bit_iff.2 hmv
        simp (maxSteps := 1000000) (disch := first | omega | exact PairsOK.mk rfl | (simp only [lenW] <;> omega)) only [hlt, aBin_shrN (k := .u8) (show i ≤ 8 by omega), aBin_and8, hb, wordsN, Int.reduceGT, wordsR, ne_eq, wS_regionP, aAppend_slF, aAppend_slN, aSlice_fslH, setL_cons, setL_nil, aMakeMap_new, wordsM, aNil_ptr, aNil_fptr, Int.one_mul, bls_len, ints_len, cells_bl, one_bl, box_bl, List.length_replicate, words, Nat.reduceAdd, Nat.reduceEqDiff, Nat.reduceBEq, ↓reduceIte, reduceCtorEq, SX.exit.injEq, if_true, if_false, Int.reduceAdd, Int.reduceSub, Int.reduceMul, Int.reduceLT, Int.reduceLE, Int.reduceEq, Int.reduceNe, Int.reduceNeg, Int.reduceToNat, Nat.reduceMul, Nat.reduceLT, Nat.reduceSub, Nat.reduceLeDiff]
        refine wS_loopX 300 (fun k : Nat => [(0, sliN al), (3, .ptr 50 0 0), (4, .ptr 51 0 0), (5, .ptr 52 0 0), (6, .int .i64 i), (7, .int .i64 k)])
          (fun k => [(50, .cells 0 (.int .u8 (st : Int) :: .int .u8 (mk : Int) :: u8s T)), (51, .cells 0 [.nilsl, .int .i64 0, .nilsl, .nilsl]), (52, .cells 0 [sliN al, .int .i64 (n : Int), .sl 77 0 0 M1.length 1, .sl 76 0 0 (gPart al n T i k).length 3]), (76, .cells 0 ((gPart al n T i k).flatMap edC)), (77, .cells 0 (ints (nz M1)))])
          (fun k => k ≤ al.length) (fun k => al.length - k) 0 2 400
          (fun _ : Unit => [(0, sliN al), (3, .ptr 50 0 0), (4, .ptr 51 0 0), (5, .ptr 52 0 0), (6, .int .i64 i)])
          (fun _ => [(50, .cells 0 (.int .u8 (st : Int) :: .int .u8 (mk : Int) :: u8s T)), (51, .cells 0 [.nilsl, .int .i64 0, .nilsl, .nilsl]), (52, .cells 0 [sliN al, .int .i64 (n : Int), .sl 77 0 0 M1.length 1, .sl 76 0 0 (gPre al n T (i + 1)).length 3]), (76, .cells 0 ((gPre al n T (i + 1)).flatMap edC)), (77, .cells 0 (ints (nz M1)))]) (fun _ => True) ?_ (Nat.zero_le _) ?_ ?_
        · rw [hg0, hpt, List.length_append, nz_append, ints_append]
          exact ⟨[(50, .blk 50 0), (51, .blk 51 0), (52, .blk 52 0), (76, .blk 76 0), (77, .blk 77 1)], rfl, au0, au9, au10⟩
        · rintro k hk
          by_cases hkl : k < al.length
          · obtain ⟨ev, hev⟩ := get_ex hkl
            have hevD : al.getD k 0 = ev := by rw [List.getD_eq_getElem?_getD, hev]; rfl
            obtain ⟨x, hx⟩ := get_ex (l := T) (i := i * 5 + k) (by omega)
            have hxD : T.getD (i * 5 + k) 0 = x := by rw [List.getD_eq_getElem?_getD, hx]; rfl
            have hx8 := hT8 x (List.mem_of_getElem? hx)
            have hk5 : (k : Int) < 5 := by omega
            have hi5 : (i : Int) < 5 := by omega
            have hgx : (AV.int .u8 (st : Int) :: AV.int .u8 (mk : Int) :: u8s T)[2 + i * 5 + k]? = some (.int .u8 (x : Int)) := by
              rw [show 2 + i * 5 + k = (i * 5 + k) + 2 by omega]
              simpa using get_u8 hx
            have hrm : (x : Int).tmod ((n : Int) + 2) = ((x % (n + 2) : Nat) : Int) := by
              rw [Int.tmod_eq_emod_of_nonneg (Int.natCast_nonneg _)]; norm_cast
            have hn0 : ¬ (n : Int) + 2 = 0 := by omega
            have hxm : x % (n + 2) ≤ 10 := by have := Nat.mod_lt x (show 0 < n + 2 by omega); omega
            have hst := gRow_succ (al := al) (n := n) (T := T) (i := i) (k := k)
            have hrl := @gRow_len al n T i k
            have hps : gPart al n T i (k + 1) = gPart al n T i k ++ match gEd al n T i k with | some e => [e] | none => [] := by
              unfold gPart; rw [hst, List.append_assoc]
            have hpl2 : (gPart al n T i k).length ≤ 100 := by unfold gPart; rw [List.length_append]; omega
            have hpe := ed_len (gPart al n T i k)
            unfold gEd at hps
            rw [hxD, hevD] at hps
            generalize gPart al n T i k = R at *
            by_cases ht : x % (n + 2) < n
            · rw [if_pos ht] at hps
              simp (maxSteps := 1000000) (disch := first | omega | exact PairsOK.mk rfl | (simp only [lenW] <;> omega)) only [hkl, hk5, hi5, hgx, hn0, hrm, ht, head_nz hev, hpe, wordsN, Int.reduceGT, wordsR, ne_eq, wS_regionP, aAppend_slF, aAppend_slN, aSlice_fslH, setL_cons, setL_nil, aMakeMap_new, wordsM, aNil_ptr, aNil_fptr, Int.one_mul, bls_len, ints_len, cells_bl, one_bl, box_bl, List.length_replicate, words, Nat.reduceAdd, Nat.reduceEqDiff, Nat.reduceBEq, ↓reduceIte, reduceCtorEq, SX.exit.injEq, if_true, if_false, Int.reduceAdd, Int.reduceSub, Int.reduceMul, Int.reduceLT, Int.reduceLE, Int.reduceEq, Int.reduceNe, Int.reduceNeg, Int.reduceToNat, Nat.reduceMul, Nat.reduceLT, Nat.reduceSub, Nat.reduceLeDiff]
              refine ⟨k + 1, by omega, by omega, ?_⟩
              rw [hps, List.flatMap_append, List.length_append]
              exact ⟨[(50, .blk 50 0), (51, .blk 51 0), (52, .blk 52 0), (76, .blk 76 1), (77, .blk 77 0)], rfl, au0, au9, au10⟩
            · rw [if_neg ht, List.append_nil] at hps
              simp (maxSteps := 1000000) (disch := first | omega | exact PairsOK.mk rfl | (simp only [lenW] <;> omega)) only [hkl, hk5, hi5, hgx, hn0, hrm, ht, wordsN, Int.reduceGT, wordsR, ne_eq, wS_regionP, aAppend_slF, aAppend_slN, aSlice_fslH, setL_cons, setL_nil, aMakeMap_new, wordsM, aNil_ptr, aNil_fptr, Int.one_mul, bls_len, ints_len, cells_bl, one_bl, box_bl, List.length_replicate, words, Nat.reduceAdd, Nat.reduceEqDiff, Nat.reduceBEq, ↓reduceIte, reduceCtorEq, SX.exit.injEq, if_true, if_false, Int.reduceAdd, Int.reduceSub, Int.reduceMul, Int.reduceLT, Int.reduceLE, Int.reduceEq, Int.reduceNe, Int.reduceNeg, Int.reduceToNat, Nat.reduceMul, Nat.reduceLT, Nat.reduceSub, Nat.reduceLeDiff]
              refine ⟨k + 1, by omega, by omega, ?_⟩
              rw [hps]
              exact ⟨[(50, .blk 50 0), (51, .blk 51 0), (52, .blk 52 0), (76, .blk 76 0), (77, .blk 77 0)], rfl, au0, au9, au10⟩
          · have e : k = al.length := by omega
            subst e
            simp (maxSteps := 1000000) (disch := first | omega | exact PairsOK.mk rfl | (simp only [lenW] <;> omega)) only [hkl, wordsN, Int.reduceGT, wordsR, ne_eq, wS_regionP, aAppend_slF, aAppend_slN, aSlice_fslH, setL_cons, setL_nil, aMakeMap_new, wordsM, aNil_ptr, aNil_fptr, Int.one_mul, bls_len, ints_len, cells_bl, one_bl, box_bl, List.length_replicate, words, Nat.reduceAdd, Nat.reduceEqDiff, Nat.reduceBEq, ↓reduceIte, reduceCtorEq, SX.exit.injEq, if_true, if_false, Int.reduceAdd, Int.reduceSub, Int.reduceMul, Int.reduceLT, Int.reduceLE, Int.reduceEq, Int.reduceNe, Int.reduceNeg, Int.reduceToNat, Nat.reduceMul, Nat.reduceLT, Nat.reduceSub, Nat.reduceLeDiff]
            refine ⟨(), ?_⟩
            rw [hgs]
            exact ⟨[(50, .blk 50 0), (51, .blk 51 0), (52, .blk 52 0), (76, .blk 76 0), (77, .blk 77 0)], rfl, au0, au9, au10⟩
        rintro _ _
        simp (maxSteps := 1000000) (disch := first | omega | exact PairsOK.mk rfl | (simp only [lenW] <;> omega)) only [wordsN, Int.reduceGT, wordsR, ne_eq, wS_regionP, aAppend_slF, aAppend_slN, aSlice_fslH, setL_cons, setL_nil, aMakeMap_new, wordsM, aNil_ptr, aNil_fptr, Int.one_mul, bls_len, ints_len, cells_bl, one_bl, box_bl, List.length_replicate, words, Nat.reduceAdd, Nat.reduceEqDiff, Nat.reduceBEq, ↓reduceIte, reduceCtorEq, SX.exit.injEq, if_true, if_false, Int.reduceAdd, Int.reduceSub, Int.reduceMul, Int.reduceLT, Int.reduceLE, Int.reduceEq, Int.reduceNe, Int.reduceNeg, Int.reduceToNat, Nat.reduceMul, Nat.reduceLT, Nat.reduceSub, Nat.reduceLeDiff]
        refine ⟨i + 1, by omega, by omega, ?_⟩
        rw [hM1]
        exact ⟨[(50, .blk 50 0), (51, .blk 51 0), (52, .blk 52 0), (76, .blk 76 0), (77, .blk 77 0)], rfl, au0, au9, au10⟩
      · rw [if_neg hmv, List.append_nil] at hpt
        have hb : ¬ ((mk / 2 ^ i % 2 : Nat) : Int) = 1 := fun e => hmv (bit_iff.1 e)
        simp (maxSteps := 1000000) (disch := first | omega | exact PairsOK.mk rfl | (simp only [lenW] <;> omega)) only [hlt, aBin_shrN (k := .u8) (show i ≤ 8 by omega), aBin_and8, hb, wordsN, Int.reduceGT, wordsR, ne_eq, wS_regionP, aAppend_slF, aAppend_slN, aSlice_fslH, setL_cons, setL_nil, aMakeMap_new, wordsM, aNil_ptr, aNil_fptr, Int.one_mul, bls_len, ints_len, cells_bl, one_bl, box_bl, List.length_replicate, words, Nat.reduceAdd, Nat.reduceEqDiff, Nat.reduceBEq, ↓reduceIte, reduceCtorEq, SX.exit.injEq, if_true, if_false, Int.reduceAdd, Int.reduceSub, Int.reduceMul, Int.reduceLT, Int.reduceLE, Int.reduceEq, Int.reduceNe, Int.reduceNeg, Int.reduceToNat, Nat.reduceMul, Nat.reduceLT, Nat.reduceSub, Nat.reduceLeDiff]
        refine wS_loopX 300 (fun k : Nat => [(0, sliN al), (3, .ptr 50 0 0), (4, .ptr 51 0 0), (5, .ptr 52 0 0), (6, .int .i64 i), (7, .int .i64 k)])
          (fun k => [(50, .cells 0 (.int .u8 (st : Int) :: .int .u8 (mk : Int) :: u8s T)), (51, .cells 0 [.nilsl, .int .i64 0, .nilsl, .nilsl]), (52, .cells 0 [sliN al, .int .i64 (n : Int), .sl 77 0 0 M1.length 1, .sl 76 0 0 (gPart al n T i k).length 3]), (76, .cells 0 ((gPart al n T i k).flatMap edC)), (77, .cells 0 (ints (nz M1)))])
          (fun k => k ≤ al.length) (fun k => al.length - k) 0 2 400
          (fun _ : Unit => [(0, sliN al), (3, .ptr 50 0 0), (4, .ptr 51 0 0), (5, .ptr 52 0 0), (6, .int .i64 i)])
          (fun _ => [(50, .cells 0 (.int .u8 (st : Int) :: .int .u8 (mk : Int) :: u8s T)), (51, .cells 0 [.nilsl, .int .i64 0, .nilsl, .nilsl]), (52, .cells 0 [sliN al, .int .i64 (n : Int), .sl 77 0 0 M1.length 1, .sl 76 0 0 (gPre al n T (i + 1)).length 3]), (76, .cells 0 ((gPre al n T (i + 1)).flatMap edC)), (77, .cells 0 (ints (nz M1)))]) (fun _ => True) ?_ (Nat.zero_le _) ?_ ?_
        · rw [hg0, hpt]
          exact ⟨[(50, .blk 50 0), (51, .blk 51 0), (52, .blk 52 0), (76, .blk 76 0), (77, .blk 77 0)], rfl, au0, au9, au10⟩
        · rintro k hk
          by_cases hkl : k < al.length
          · obtain ⟨ev, hev⟩ := get_ex hkl
            have hevD : al.getD k 0 = ev := by rw [List.getD_eq_getElem?_getD, hev]; rfl
            obtain ⟨x, hx⟩ := get_ex (l := T) (i := i * 5 + k) (by omega)
            have hxD : T.getD (i * 5 + k) 0 = x := by rw [List.getD_eq_getElem?_getD, hx]; rfl
            have hx8 := hT8 x (List.mem_of_getElem? hx)
            have hk5 : (k : Int) < 5 := by omega
            have hi5 : (i : Int) < 5 := by omega
            have hgx : (AV.int .u8 (st : Int) :: AV.int .u8 (mk : Int) :: u8s T)[2 + i * 5 + k]? = some (.int .u8 (x : Int)) := by
              rw [show 2 + i * 5 + k = (i * 5 + k) + 2 by omega]
              simpa using get_u8 hx
            have hrm : (x : Int).tmod ((n : Int) + 2) = ((x % (n + 2) : Nat) : Int) := by
              rw [Int.tmod_eq_emod_of_nonneg (Int.natCast_nonneg _)]; norm_cast
            have hn0 : ¬ (n : Int) + 2 = 0 := by omega
            have hxm : x % (n + 2) ≤ 10 := by have := Nat.mod_lt x (show 0 < n + 2 by omega); omega
            have hst := gRow_succ (al := al) (n := n) (T := T) (i := i) (k := k)
            have hrl := @gRow_len al n T i k
            have hps : gPart al n T i (k + 1) = gPart al n T i k ++ match gEd al n T i k with | some e => [e] | none => [] := by
              unfold gPart; rw [hst, List.append_assoc]
            have hpl2 : (gPart al n T i k).length ≤ 100 := by unfold gPart; rw [List.length_append]; omega
            have hpe := ed_len (gPart al n T i k)
            unfold gEd at hps
            rw [hxD, hevD] at hps
            generalize gPart al n T i k = R at *
            by_cases ht : x % (n + 2) < n
            · rw [if_pos ht] at hps
              simp (maxSteps := 1000000) (disch := first | omega | exact PairsOK.mk rfl | (simp only [lenW] <;> omega)) only [hkl, hk5, hi5, hgx, hn0, hrm, ht, head_nz hev, hpe, wordsN, Int.reduceGT, wordsR, ne_eq, wS_regionP, aAppend_slF, aAppend_slN, aSlice_fslH, setL_cons, setL_nil, aMakeMap_new, wordsM, aNil_ptr, aNil_fptr, Int.one_mul, bls_len, ints_len, cells_bl, one_bl, box_bl, List.length_replicate, words, Nat.reduceAdd, Nat.reduceEqDiff, Nat.reduceBEq, ↓reduceIte, reduceCtorEq, SX.exit.injEq, if_true, if_false, Int.reduceAdd, Int.reduceSub, Int.reduceMul, Int.reduceLT, Int.reduceLE, Int.reduceEq, Int.reduceNe, Int.reduceNeg, Int.reduceToNat, Nat.reduceMul, Nat.reduceLT, Nat.reduceSub, Nat.reduceLeDiff]
              refine ⟨k + 1, by omega, by omega, ?_⟩
              rw [hps, List.flatMap_append, List.length_append]
              exact ⟨[(50, .blk 50 0), (51, .blk 51 0), (52, .blk 52 0), (76, .blk 76 1), (77, .blk 77 0)], rfl, au0, au9, au10⟩
            · rw [if_neg ht, List.append_nil] at hps
              simp (maxSteps := 1000000) (disch := first | omega | exact PairsOK.mk rfl | (simp only [lenW] <;> omega)) only [hkl, hk5, hi5, hgx, hn0, hrm, ht, wordsN, Int.reduceGT, wordsR, ne_eq, wS_regionP, aAppend_slF, aAppend_slN, aSlice_fslH, setL_cons, setL_nil, aMakeMap_new, wordsM, aNil_ptr, aNil_fptr, Int.one_mul, bls_len, ints_len, cells_bl, one_bl, box_bl, List.length_replicate, words, Nat.reduceAdd, Nat.reduceEqDiff, Nat.reduceBEq, ↓reduceIte, reduceCtorEq, SX.exit.injEq, if_true, if_false, Int.reduceAdd, Int.reduceSub, Int.reduceMul, Int.reduceLT, Int.reduceLE, Int.reduceEq, Int.reduceNe, Int.reduceNeg, Int.reduceToNat, Nat.reduceMul, Nat.reduceLT, Nat.reduceSub, Nat.reduceLeDiff]
              refine ⟨k + 1, by omega, by omega, ?_⟩
              rw [hps]
              exact ⟨[(50, .blk 50 0), (51, .blk 51 0), (52, .blk 52 0), (76, .blk 76 0), (77, .blk 77 0)], rfl, au0, au9, au10⟩
          · have e : k = al.length := by omega
            subst e
            simp (maxSteps := 1000000) (disch := first | omega | exact PairsOK.mk rfl | (simp only [lenW] <;> omega)) only [hkl, wordsN, Int.reduceGT, wordsR, ne_eq, wS_regionP, aAppend_slF, aAppend_slN, aSlice_fslH, setL_cons, setL_nil, aMakeMap_new, wordsM, aNil_ptr, aNil_fptr, Int.one_mul, bls_len, ints_len, cells_bl, one_bl, box_bl, List.length_replicate, words, Nat.reduceAdd, Nat.reduceEqDiff, Nat.reduceBEq, ↓reduceIte, reduceCtorEq, SX.exit.injEq, if_true, if_false, Int.reduceAdd, Int.reduceSub, Int.reduceMul, Int.reduceLT, Int.reduceLE, Int.reduceEq, Int.reduceNe, Int.reduceNeg, Int.reduceToNat, Nat.reduceMul, Nat.reduceLT, Nat.reduceSub, Nat.reduceLeDiff]
            refine ⟨(), ?_⟩
            rw [hgs]
            exact ⟨[(50, .blk 50 0), (51, .blk 51 0), (52, .blk 52 0), (76, .blk 76 0), (77, .blk 77 0)], rfl, au0, au9, au10⟩
        rintro _ _
        simp (maxSteps := 1000000) (disch := first | omega | exact PairsOK.mk rfl | (simp only [lenW] <;> omega)) only [wordsN, Int.reduceGT, wordsR, ne_eq, wS_regionP, aAppend_slF, aAppend_slN, aSlice_fslH, setL_cons, setL_nil, aMakeMap_new, wordsM, aNil_ptr, aNil_fptr, Int.one_mul, bls_len, ints_len, cells_bl, one_bl, box_bl, List.length_replicate, words, Nat.reduceAdd, Nat.reduceEqDiff, Nat.reduceBEq, ↓reduceIte, reduceCtorEq, SX.exit.injEq, if_true, if_false, Int.reduceAdd, Int.reduceSub, Int.reduceMul, Int.reduceLT, Int.reduceLE, Int.reduceEq, Int.reduceNe, Int.reduceNeg, Int.reduceToNat, Nat.reduceMul, Nat.reduceLT, Nat.reduceSub, Nat.reduceLeDiff]
        refine ⟨i + 1, by omega, by omega, ?_⟩
        rw [hM1]
        exact ⟨[(50, .blk 50 0), (51, .blk 51 0), (52, .blk 52 0), (76, .blk 76 0), (77, .blk 77 0)], rfl, au0, au9, au10⟩
    · have e : i = n := by omega
      subst e
      simp (maxSteps := 1000000) (disch := first | omega | exact PairsOK.mk rfl | (simp only [lenW] <;> omega)) only [hlt, wordsN, Int.reduceGT, wordsR, ne_eq, wS_regionP, aAppend_slF, aAppend_slN, aSlice_fslH, setL_cons, setL_nil, aMakeMap_new, wordsM, aNil_ptr, aNil_fptr, Int.one_mul, bls_len, ints_len, cells_bl, one_bl, box_bl, List.length_replicate, words, Nat.reduceAdd, Nat.reduceEqDiff, Nat.reduceBEq, ↓reduceIte, reduceCtorEq, SX.exit.injEq, if_true, if_false, Int.reduceAdd, Int.reduceSub, Int.reduceMul, Int.reduceLT, Int.reduceLE, Int.reduceEq, Int.reduceNe, Int.reduceNeg, Int.reduceToNat, Nat.reduceMul, Nat.reduceLT, Nat.reduceSub, Nat.reduceLeDiff]
      refine ⟨(), [(51, .blk 51 0), (52, .blk 52 0)], rfl, RO.zero, ?_, au10⟩
      refine RB.cells rfl rfl rfl (RnL.same rfl) (RB.cells rfl rfl rfl (RnL.cons (Rn.same (noRef_sliN _)) (RnL.cons (Rn.same rfl) (RnL.cons (Rn.fzm rfl rfl rfl rfl (by simp [ints]) (RnL.same (noRefs_ints _))) (RnL.cons (Rn.fzm rfl rfl rfl rfl (ed_len _) (RnL.same (noRefs_ed _))) RnL.nil)))) RB.nil)
  rintro _ _
  simp (maxSteps := 1000000) (disch := first | omega | exact PairsOK.mk rfl | (simp only [lenW] <;> omega)) only [wordsN, Int.reduceGT, wordsR, ne_eq, wS_regionP, aAppend_slF, aAppend_slN, aSlice_fslH, setL_cons, setL_nil, aMakeMap_new, wordsM, aNil_ptr, aNil_fptr, Int.one_mul, bls_len, ints_len, cells_bl, one_bl, box_bl, List.length_replicate, words, Nat.reduceAdd, Nat.reduceEqDiff, Nat.reduceBEq, ↓reduceIte, reduceCtorEq, SX.exit.injEq, if_true, if_false, Int.reduceAdd, Int.reduceSub, Int.reduceMul, Int.reduceLT, Int.reduceLE, Int.reduceEq, Int.reduceNe, Int.reduceNeg, Int.reduceToNat, Nat.reduceMul, Nat.reduceLT, Nat.reduceSub, Nat.reduceLeDiff]
  refine cp hcan ?_
  generalize canon ⟨al, n, SD.part n mk, gPre al n T n⟩ = C at *
  simp (maxSteps := 1000000) (disch := first | omega | exact PairsOK.mk rfl | (simp only [lenW] <;> omega)) only [wordsN, Int.reduceGT, wordsR, ne_eq, wS_regionP, aAppend_slF, aAppend_slN, aSlice_fslH, setL_cons, setL_nil, aMakeMap_new, wordsM, aNil_ptr, aNil_fptr, Int.one_mul, bls_len, ints_len, cells_bl, one_bl, box_bl, List.length_replicate, words, Nat.reduceAdd, Nat.reduceEqDiff, Nat.reduceBEq, ↓reduceIte, reduceCtorEq, SX.exit.injEq, if_true, if_false, Int.reduceAdd, Int.reduceSub, Int.reduceMul, Int.reduceLT, Int.reduceLE, Int.reduceEq, Int.reduceNe, Int.reduceNeg, Int.reduceToNat, Nat.reduceMul, Nat.reduceLT, Nat.reduceSub, Nat.reduceLeDiff]
  exact ⟨.inr trivial, _, rfl, Rn.same (noRef_aV _)⟩
end Go.AM.SE
namespace Go.AM.SE
open Go.Proofs Go.AM.SD
set_option maxRecDepth 100000
set_option linter.unusedSimpArgs false
set_option linter.unusedVariables false
structure Tsk where
  set : Nat
  st : Nat
  mr : Nat
  T : List Nat
  fb : Nat
  un : Nat
structure TOk (t : Tsk) : Prop where
  set : t.set < 256
  st : t.st < 256
  mr : t.mr < 256
  T : t.T.length = 25
  T8 : ∀ x ∈ t.T, x < 256
  fb : t.fb < 4294967296
  un : t.un < 256
abbrev tskV (t : Tsk) : AV := .agg (.int .u8 (t.set : Int) :: .int .u8 (t.st : Int) :: .int .u8 (t.mr : Int) :: (u8s t.T ++ [.int .u32 (t.fb : Int), .int .u8 (t.un : Int)]))
def tA (t : Tsk) : Aut := mkA (SD.part 5 t.set) t.st t.mr t.T
def tF (t : Tsk) : List Nat := SD.part (tA t).n t.fb
def tU (t : Tsk) : List Nat := SD.part 5 t.un
theorem part_lt {n b : Nat} : ∀ x ∈ SD.part n b, x < n := fun x hx => (mem_part.1 hx).1
theorem tA_wf (t : Tsk) : WfA (tA t) := mkA_wf (part_sorted _ _) part_lt
theorem tA_el (t : Tsk) : (tA t).es.length ≤ 1000000 := by
  have h := tA_wf t
  have hr := gRaw_raw (al := SD.part 5 t.set) (st := t.st) (mk := t.mr) (T := t.T) (@part_len 5 t.set)
  have h1 := cPre_len (gRaw (SD.part 5 t.set) t.st t.mr t.T) (found (gRaw (SD.part 5 t.set) t.st t.mr t.T)) (found (gRaw (SD.part 5 t.set) t.st t.mr t.T)).length
  have h2 : (tA t).es.length = (cPre (gRaw (SD.part 5 t.set) t.st t.mr t.T) (found (gRaw (SD.part 5 t.set) t.st t.mr t.T)) (found (gRaw (SD.part 5 t.set) t.st t.mr t.T)).length).length := rfl
  have h3 : (found (gRaw (SD.part 5 t.set) t.st t.mr t.T)).length ≤ 5 := h.n5
  rw [h2]
  exact Nat.le_trans h1 (Nat.le_trans (Nat.mul_le_mul h3 hr.al) (by decide))
theorem tQ (t : Tsk) : QOk (tA t) (tF t) (tU t) := ⟨part_sorted _ _, part_lt, part_sorted _ _, fun x hx => by have := part_lt x hx; omega⟩
theorem noRef_tsk (t : Tsk) : noRef (tskV t) = true := by
  simp only [noRef, noRefs, noRefs_append, noRefs_u8]; rfl
theorem u8_drop {l : List Nat} {r : List AV} {k : Nat} (h : l.length = k) : (u8s l ++ r).take k = u8s l := by
  have : (u8s l).length = k := by simp [u8s, h]
  rw [List.take_append_of_le_length (by omega), ← this, List.take_length]
set_option maxHeartbeats 16000000 in
theorem open10 (t : Tsk) (h : TOk t) : PSpec Try.prog 10 [tskV t] (.tup [aV (tA t), sliN (tF t), sliN (tU t)]) := by
  have hlu : (u8s t.T).length = 25 := by simp [u8s, h.T]
  have hM := Make32 (SD.part 5 t.set) t.st t.mr t.T (part_sorted _ _) part_lt h.st h.mr h.T h.T8
  have hE := events16 t.set h.set
  have hE2 := events16 t.un h.un
  have hn5 := (tA_wf t).n5
  have hP := part12 (tA t).n t.fb (by omega) h.fb
  have ht := u8_drop (l := t.T) (r := [.int .u32 (t.fb : Int), .int .u8 (t.un : Int)]) h.T
  have g1 : (u8s t.T ++ [AV.int .u32 (t.fb : Int), .int .u8 (t.un : Int)])[25]? = some (.int .u32 (t.fb : Int)) := by rw [List.getElem?_append_right (by omega), hlu]; rfl
  have g2 : (u8s t.T ++ [AV.int .u32 (t.fb : Int), .int .u8 (t.un : Int)])[26]? = some (.int .u8 (t.un : Int)) := by rw [List.getElem?_append_right (by omega), hlu]; rfl
  refine PSpec.of_rn 40 ok10 rfl (by rw [noRefs, noRef_tsk]; rfl) (by simp only [noRef, noRefs, noRefs_ints, noRefs_ed]; rfl) ?_
  simp (maxSteps := 1000000) (disch := first | omega | exact PairsOK.mk rfl | (simp only [lenW] <;> omega)) only [s10, wordsN, Int.reduceGT, wordsR, ne_eq, wS_regionP, aAppend_slF, aAppend_slN, aSlice_fslH, setL_cons, setL_nil, aMakeMap_new, wordsM, aNil_ptr, aNil_fptr, Int.one_mul, bls_len, ints_len, cells_bl, one_bl, box_bl, List.length_replicate, words, Nat.reduceAdd, Nat.reduceEqDiff, Nat.reduceBEq, ↓reduceIte, reduceCtorEq, SX.exit.injEq, if_true, if_false, Int.reduceAdd, Int.reduceSub, Int.reduceMul, Int.reduceLT, Int.reduceLE, Int.reduceEq, Int.reduceNe, Int.reduceNeg, Int.reduceToNat, Nat.reduceMul, Nat.reduceLT, Nat.reduceSub, Nat.reduceLeDiff]
  refine wS_regionH [] rfl (pairs_cons (a := []) (b := [50]) rfl rfl (fun x hx => by cases hx) (pairs_cons (a := []) (b := [50]) rfl rfl (fun x hx => by cases hx) pairs_nil)) ?_
  simp (maxSteps := 1000000) (disch := first | omega | exact PairsOK.mk rfl | (simp only [lenW] <;> omega)) only [wordsN, Int.reduceGT, wordsR, ne_eq, wS_regionP, aAppend_slF, aAppend_slN, aSlice_fslH, setL_cons, setL_nil, aMakeMap_new, wordsM, aNil_ptr, aNil_fptr, Int.one_mul, bls_len, ints_len, cells_bl, one_bl, box_bl, List.length_replicate, words, Nat.reduceAdd, Nat.reduceEqDiff, Nat.reduceBEq, ↓reduceIte, reduceCtorEq, SX.exit.injEq, if_true, if_false, Int.reduceAdd, Int.reduceSub, Int.reduceMul, Int.reduceLT, Int.reduceLE, Int.reduceEq, Int.reduceNe, Int.reduceNeg, Int.reduceToNat, Nat.reduceMul, Nat.reduceLT, Nat.reduceSub, Nat.reduceLeDiff]
  refine cp hE ?_
  simp (maxSteps := 1000000) (disch := first | omega | exact PairsOK.mk rfl | (simp only [lenW] <;> omega)) only [hlu, ht, wordsN, Int.reduceGT, wordsR, ne_eq, wS_regionP, aAppend_slF, aAppend_slN, aSlice_fslH, setL_cons, setL_nil, aMakeMap_new, wordsM, aNil_ptr, aNil_fptr, Int.one_mul, bls_len, ints_len, cells_bl, one_bl, box_bl, List.length_replicate, words, Nat.reduceAdd, Nat.reduceEqDiff, Nat.reduceBEq, ↓reduceIte, reduceCtorEq, SX.exit.injEq, if_true, if_false, Int.reduceAdd, Int.reduceSub, Int.reduceMul, Int.reduceLT, Int.reduceLE, Int.reduceEq, Int.reduceNe, Int.reduceNeg, Int.reduceToNat, Nat.reduceMul, Nat.reduceLT, Nat.reduceSub, Nat.reduceLeDiff]
  refine cp hM ?_
  have hA : mkA (SD.part 5 t.set) t.st t.mr t.T = tA t := rfl
  rw [hA]
  have hF : SD.part (tA t).n t.fb = tF t := rfl
  rw [hF] at hP
  have hU : SD.part 5 t.un = tU t := rfl
  rw [hU] at hE2
  generalize tA t = A at *
  generalize tF t = F at *
  generalize tU t = U at *
  simp (maxSteps := 1000000) (disch := first | omega | exact PairsOK.mk rfl | (simp only [lenW] <;> omega)) only [hlu, g1, g2, wordsN, Int.reduceGT, wordsR, ne_eq, wS_regionP, aAppend_slF, aAppend_slN, aSlice_fslH, setL_cons, setL_nil, aMakeMap_new, wordsM, aNil_ptr, aNil_fptr, Int.one_mul, bls_len, ints_len, cells_bl, one_bl, box_bl, List.length_replicate, words, Nat.reduceAdd, Nat.reduceEqDiff, Nat.reduceBEq, ↓reduceIte, reduceCtorEq, SX.exit.injEq, if_true, if_false, Int.reduceAdd, Int.reduceSub, Int.reduceMul, Int.reduceLT, Int.reduceLE, Int.reduceEq, Int.reduceNe, Int.reduceNeg, Int.reduceToNat, Nat.reduceMul, Nat.reduceLT, Nat.reduceSub, Nat.reduceLeDiff]
  refine ⟨trivial, ?_⟩
  refine cp hP ?_
  simp (maxSteps := 1000000) (disch := first | omega | exact PairsOK.mk rfl | (simp only [lenW] <;> omega)) only [hlu, g1, g2, wordsN, Int.reduceGT, wordsR, ne_eq, wS_regionP, aAppend_slF, aAppend_slN, aSlice_fslH, setL_cons, setL_nil, aMakeMap_new, wordsM, aNil_ptr, aNil_fptr, Int.one_mul, bls_len, ints_len, cells_bl, one_bl, box_bl, List.length_replicate, words, Nat.reduceAdd, Nat.reduceEqDiff, Nat.reduceBEq, ↓reduceIte, reduceCtorEq, SX.exit.injEq, if_true, if_false, Int.reduceAdd, Int.reduceSub, Int.reduceMul, Int.reduceLT, Int.reduceLE, Int.reduceEq, Int.reduceNe, Int.reduceNeg, Int.reduceToNat, Nat.reduceMul, Nat.reduceLT, Nat.reduceSub, Nat.reduceLeDiff]
  refine cp hE2 ?_
  simp (maxSteps := 1000000) (disch := first | omega | exact PairsOK.mk rfl | (simp only [lenW] <;> omega)) only [wordsN, Int.reduceGT, wordsR, ne_eq, wS_regionP, aAppend_slF, aAppend_slN, aSlice_fslH, setL_cons, setL_nil, aMakeMap_new, wordsM, aNil_ptr, aNil_fptr, Int.one_mul, bls_len, ints_len, cells_bl, one_bl, box_bl, List.length_replicate, words, Nat.reduceAdd, Nat.reduceEqDiff, Nat.reduceBEq, ↓reduceIte, reduceCtorEq, SX.exit.injEq, if_true, if_false, Int.reduceAdd, Int.reduceSub, Int.reduceMul, Int.reduceLT, Int.reduceLE, Int.reduceEq, Int.reduceNe, Int.reduceNeg, Int.reduceToNat, Nat.reduceMul, Nat.reduceLT, Nat.reduceSub, Nat.reduceLeDiff]
  refine ⟨.inr trivial, _, rfl, ?_⟩
  exact Rn.same (by simp only [noRef, noRefs, noRefs_ints, noRefs_ed]; rfl)
end Go.AM.SE
namespace Go.AM.SE
open Go.Proofs Go.AM.SD
set_option maxRecDepth 100000
set_option linter.unusedSimpArgs false
set_option linter.unusedVariables false
abbrev blF (l : LB) (n : Nat) : AV := .fsl (bls l) n 1
def o0P (n : Nat) (mk : List Nat) (left : Nat → Bool) (i : Nat) : List Int := (List.range i).map (fun i => if left i && mk.contains i then 0 else -1) ++ List.replicate (n - i) 0
theorem o0P_len {n : Nat} {mk : List Nat} {left : Nat → Bool} {i : Nat} (h : i ≤ n) : (o0P n mk left i).length = n := by unfold o0P; simp; omega
theorem o0P_set {n : Nat} {mk : List Nat} {left : Nat → Bool} {i : Nat} (h : i < n) : (o0P n mk left i).set i (if left i && mk.contains i then 0 else -1) = o0P n mk left (i + 1) := by
  unfold o0P
  rw [List.set_append_right _ _ (by simp), List.length_map, List.length_range, Nat.sub_self, show n - i = (n - (i + 1)) + 1 by omega, List.replicate_succ, List.set_cons_zero, List.range_succ, List.map_append, List.append_assoc]; rfl
theorem o0P_end {n : Nat} {mk : List Nat} {left : Nat → Bool} : o0P n mk left n = o0 n mk left := by unfold o0P o0; simp
theorem rRd_take {es : List Ed} {left : Nat → Bool} {r i : Nat} {o : List Int} {e : Ed} (h : es[i]? = some e) : rRd (es.take (i + 1)) left r o = rEd left r (rRd (es.take i) left r o) e := by
  unfold rRd
  rw [List.take_add_one, h, Option.toList, List.foldl_append]; rfl
theorem rRd_len {left : Nat → Bool} {r : Nat} (es : List Ed) (o : List Int) : (rRd es left r o).1.length = o.length := by
  have key : ∀ (es : List Ed) (s : List Int × Bool), (es.foldl (rEd left r) s).1.length = s.1.length := by
    intro es
    induction es with
    | nil => intro s; rfl
    | cons e es ih =>
      intro s
      rw [List.foldl_cons, ih]
      unfold rEd; split <;> simp
  exact key es _
theorem cntN_le {n : Nat} {o : List Int} : cntN n o ≤ n := by unfold cntN; exact Nat.le_trans List.countP_le_length (by simp)
set_option maxHeartbeats 32000000 in
theorem dist33 (a : Aut) (l : LB) (hin : InN a.n a.es a.ms) (hl : l.length = a.n) (hn : a.n ≤ 4096) (hel : a.es.length ≤ 1000000) (hml : a.ms.length ≤ 1000000) :
    HSpec Try.prog 33 [aV a, blF l a.n] .e (.sl 84 0 0 a.n 1) (hp [(84, .cells 0 (ints (rDist a.es (lf l) (a.n + 1) 1 (o0 a.n a.ms (lf l)))))]) := by
  refine HSpec.of_new 100 ok33 rfl ?_
  have hn' : (a.n : Int) ≤ 1099511627776 := by omega
  have hn8 : (8 : Int) * a.n ≤ 1099511627776 := by omega
  simp (maxSteps := 1000000) (disch := first | omega | exact PairsOK.mk rfl | (simp only [lenW] <;> omega)) only [s33, hn', hn8, ints_rep, wordsN, Int.reduceGT, wordsR, ne_eq, wS_regionP, aAppend_slF, aAppend_slN, aSlice_fslH, setL_cons, setL_nil, aMakeMap_new, wordsM, aNil_ptr, aNil_fptr, Int.one_mul, bls_len, ints_len, cells_bl, one_bl, box_bl, List.length_replicate, words, Nat.reduceAdd, Nat.reduceEqDiff, Nat.reduceBEq, ↓reduceIte, reduceCtorEq, SX.exit.injEq, if_true, if_false, Int.reduceAdd, Int.reduceSub, Int.reduceMul, Int.reduceLT, Int.reduceLE, Int.reduceEq, Int.reduceNe, Int.reduceNeg, Int.reduceToNat, Nat.reduceMul, Nat.reduceLT, Nat.reduceSub, Nat.reduceLeDiff]
  refine wS_loopX 120 (fun i : Nat => [(1, blF l a.n), (2, .ptr 50 0 0), (5, .sl 84 0 0 a.n 1), (6, .int .i64 i)])
    (fun i => [(50, .cells 0 [sliN a.al, .int .i64 (a.n : Int), sliN a.ms, egsN a.es]), (84, .cells 0 (ints (o0P a.n a.ms (lf l) i)))])
    (fun i => i ≤ a.n) (fun i => a.n - i) 0 0 160
    (fun _ : Unit => [(1, blF l a.n), (2, .ptr 50 0 0), (5, .sl 84 0 0 a.n 1)])
    (fun _ => [(50, .cells 0 [sliN a.al, .int .i64 (a.n : Int), sliN a.ms, egsN a.es]), (84, .cells 0 (ints (o0 a.n a.ms (lf l))))]) (fun _ => True) ?_ (Nat.zero_le _) ?_ ?_
  · have e : List.replicate a.n (0 : Int) = o0P a.n a.ms (lf l) 0 := by simp [o0P]
    rw [e]
    exact ⟨[(50, .blk 100 0), (84, .blk 104 0)], rfl, au0, au9, au10⟩
  · rintro i hi
    by_cases hlt : i < a.n
    · have hil : i < l.length := by omega
      have hol := o0P_len (mk := a.ms) (left := lf l) hi
      have hst := o0P_set (mk := a.ms) (left := lf l) hlt
      generalize o0P a.n a.ms (lf l) i = o at *
      have h1 : i + 1 ≤ o.length := by omega
      have hss : (o.set i (-1)).set i 0 = o.set i 0 := by rw [List.set_set]
      by_cases hli : lf l i = true
      · have hh := has15 (nz a.ms) i (by simp; omega)
        rw [mem_nz, sli_nz] at hh
        by_cases hc : a.ms.contains i = true
        · rw [hli, hc, if_pos (by rfl)] at hst
          rw [hc] at hh
          simp (maxSteps := 1000000) (disch := first | omega | exact PairsOK.mk rfl | (simp only [lenW] <;> omega)) only [hlt, h1, ints_set, head_bls hil, hli, wordsN, Int.reduceGT, wordsR, ne_eq, wS_regionP, aAppend_slF, aAppend_slN, aSlice_fslH, setL_cons, setL_nil, aMakeMap_new, wordsM, aNil_ptr, aNil_fptr, Int.one_mul, bls_len, ints_len, cells_bl, one_bl, box_bl, List.length_replicate, words, Nat.reduceAdd, Nat.reduceEqDiff, Nat.reduceBEq, ↓reduceIte, reduceCtorEq, SX.exit.injEq, if_true, if_false, Int.reduceAdd, Int.reduceSub, Int.reduceMul, Int.reduceLT, Int.reduceLE, Int.reduceEq, Int.reduceNe, Int.reduceNeg, Int.reduceToNat, Nat.reduceMul, Nat.reduceLT, Nat.reduceSub, Nat.reduceLeDiff]
          refine cp hh ?_
          simp (maxSteps := 1000000) (disch := first | omega | exact PairsOK.mk rfl | (simp only [lenW] <;> omega)) only [hlt, h1, ints_set, hss, List.length_set, wordsN, Int.reduceGT, wordsR, ne_eq, wS_regionP, aAppend_slF, aAppend_slN, aSlice_fslH, setL_cons, setL_nil, aMakeMap_new, wordsM, aNil_ptr, aNil_fptr, Int.one_mul, bls_len, ints_len, cells_bl, one_bl, box_bl, List.length_replicate, words, Nat.reduceAdd, Nat.reduceEqDiff, Nat.reduceBEq, ↓reduceIte, reduceCtorEq, SX.exit.injEq, if_true, if_false, Int.reduceAdd, Int.reduceSub, Int.reduceMul, Int.reduceLT, Int.reduceLE, Int.reduceEq, Int.reduceNe, Int.reduceNeg, Int.reduceToNat, Nat.reduceMul, Nat.reduceLT, Nat.reduceSub, Nat.reduceLeDiff]
          refine ⟨i + 1, by omega, by omega, ?_⟩
          rw [← hst]
          exact ⟨[(50, .blk 50 0), (84, .blk 84 0)], rfl, au0, au9, au10⟩
        · rw [Bool.not_eq_true] at hc
          rw [hli, hc, if_neg (by decide)] at hst
          rw [hc] at hh
          simp (maxSteps := 1000000) (disch := first | omega | exact PairsOK.mk rfl | (simp only [lenW] <;> omega)) only [hlt, h1, ints_set, head_bls hil, hli, wordsN, Int.reduceGT, wordsR, ne_eq, wS_regionP, aAppend_slF, aAppend_slN, aSlice_fslH, setL_cons, setL_nil, aMakeMap_new, wordsM, aNil_ptr, aNil_fptr, Int.one_mul, bls_len, ints_len, cells_bl, one_bl, box_bl, List.length_replicate, words, Nat.reduceAdd, Nat.reduceEqDiff, Nat.reduceBEq, ↓reduceIte, reduceCtorEq, SX.exit.injEq, if_true, if_false, Int.reduceAdd, Int.reduceSub, Int.reduceMul, Int.reduceLT, Int.reduceLE, Int.reduceEq, Int.reduceNe, Int.reduceNeg, Int.reduceToNat, Nat.reduceMul, Nat.reduceLT, Nat.reduceSub, Nat.reduceLeDiff]
          refine cp hh ?_
          simp (maxSteps := 1000000) (disch := first | omega | exact PairsOK.mk rfl | (simp only [lenW] <;> omega)) only [wordsN, Int.reduceGT, wordsR, ne_eq, wS_regionP, aAppend_slF, aAppend_slN, aSlice_fslH, setL_cons, setL_nil, aMakeMap_new, wordsM, aNil_ptr, aNil_fptr, Int.one_mul, bls_len, ints_len, cells_bl, one_bl, box_bl, List.length_replicate, words, Nat.reduceAdd, Nat.reduceEqDiff, Nat.reduceBEq, ↓reduceIte, reduceCtorEq, SX.exit.injEq, if_true, if_false, Int.reduceAdd, Int.reduceSub, Int.reduceMul, Int.reduceLT, Int.reduceLE, Int.reduceEq, Int.reduceNe, Int.reduceNeg, Int.reduceToNat, Nat.reduceMul, Nat.reduceLT, Nat.reduceSub, Nat.reduceLeDiff]
          refine ⟨i + 1, by omega, by omega, ?_⟩
          rw [← hst]
          exact ⟨[(50, .blk 50 0), (84, .blk 84 0)], rfl, au0, au9, au10⟩
      · rw [Bool.not_eq_true] at hli
        rw [hli, Bool.false_and, if_neg (by decide)] at hst
        simp (maxSteps := 1000000) (disch := first | omega | exact PairsOK.mk rfl | (simp only [lenW] <;> omega)) only [hlt, h1, ints_set, head_bls hil, hli, wordsN, Int.reduceGT, wordsR, ne_eq, wS_regionP, aAppend_slF, aAppend_slN, aSlice_fslH, setL_cons, setL_nil, aMakeMap_new, wordsM, aNil_ptr, aNil_fptr, Int.one_mul, bls_len, ints_len, cells_bl, one_bl, box_bl, List.length_replicate, words, Nat.reduceAdd, Nat.reduceEqDiff, Nat.reduceBEq, ↓reduceIte, reduceCtorEq, SX.exit.injEq, if_true, if_false, Int.reduceAdd, Int.reduceSub, Int.reduceMul, Int.reduceLT, Int.reduceLE, Int.reduceEq, Int.reduceNe, Int.reduceNeg, Int.reduceToNat, Nat.reduceMul, Nat.reduceLT, Nat.reduceSub, Nat.reduceLeDiff]
        refine ⟨i + 1, by omega, by omega, ?_⟩
        rw [← hst]
        exact ⟨[(50, .blk 50 0), (84, .blk 84 0)], rfl, au0, au9, au10⟩
    · have e : i = a.n := by omega
      subst e
      simp (maxSteps := 1000000) (disch := first | omega | exact PairsOK.mk rfl | (simp only [lenW] <;> omega)) only [hlt, wordsN, Int.reduceGT, wordsR, ne_eq, wS_regionP, aAppend_slF, aAppend_slN, aSlice_fslH, setL_cons, setL_nil, aMakeMap_new, wordsM, aNil_ptr, aNil_fptr, Int.one_mul, bls_len, ints_len, cells_bl, one_bl, box_bl, List.length_replicate, words, Nat.reduceAdd, Nat.reduceEqDiff, Nat.reduceBEq, ↓reduceIte, reduceCtorEq, SX.exit.injEq, if_true, if_false, Int.reduceAdd, Int.reduceSub, Int.reduceMul, Int.reduceLT, Int.reduceLE, Int.reduceEq, Int.reduceNe, Int.reduceNeg, Int.reduceToNat, Nat.reduceMul, Nat.reduceLT, Nat.reduceSub, Nat.reduceLeDiff]
      refine ⟨(), ?_⟩
      rw [← o0P_end]
      exact ⟨[(50, .blk 50 0), (84, .blk 84 0)], rfl, au0, au9, au10⟩
  rintro _ _
  simp (maxSteps := 1000000) (disch := first | omega | exact PairsOK.mk rfl | (simp only [lenW] <;> omega)) only [wordsN, Int.reduceGT, wordsR, ne_eq, wS_regionP, aAppend_slF, aAppend_slN, aSlice_fslH, setL_cons, setL_nil, aMakeMap_new, wordsM, aNil_ptr, aNil_fptr, Int.one_mul, bls_len, ints_len, cells_bl, one_bl, box_bl, List.length_replicate, words, Nat.reduceAdd, Nat.reduceEqDiff, Nat.reduceBEq, ↓reduceIte, reduceCtorEq, SX.exit.injEq, if_true, if_false, Int.reduceAdd, Int.reduceSub, Int.reduceMul, Int.reduceLT, Int.reduceLE, Int.reduceEq, Int.reduceNe, Int.reduceNeg, Int.reduceToNat, Nat.reduceMul, Nat.reduceLT, Nat.reduceSub, Nat.reduceLeDiff]
  have hri := RI.start (left := lf l) hin
  have hc0 : cntN a.n (o0 a.n a.ms (lf l)) ≤ a.n := cntN_le
  have hes := fun e he => hin.1 e he
  generalize o0 a.n a.ms (lf l) = o1 at *
  refine wS_loopX 180 (fun t : Nat × List Int × Bool => [(1, blF l a.n), (2, .ptr 50 0 0), (5, .sl 84 0 0 a.n 1), (7, .int .i64 ((a.n + 2 - t.1 : Nat) : Int)), (8, .bool t.2.2)])
    (fun t => [(50, .cells 0 [sliN a.al, .int .i64 (a.n : Int), sliN a.ms, egsN a.es]), (84, .cells 0 (ints t.2.1))])
    (fun t => RI a.n a.es a.ms (lf l) (a.n + 2 - t.1) t.2.1 ∧ t.1 ≤ a.n + 1 ∧ (t.2.2 = true → cntN a.n t.2.1 < t.1) ∧ (if t.2.2 then rDist a.es (lf l) t.1 (a.n + 2 - t.1) t.2.1 else t.2.1) = rDist a.es (lf l) (a.n + 1) 1 o1) (fun t => t.1) (a.n + 1, o1, true) 2 200
    (fun _ : Unit => [(5, .sl 84 0 0 a.n 1)])
    (fun _ => [(84, .cells 0 (ints (rDist a.es (lf l) (a.n + 1) 1 o1)))]) (fun _ => True) ?_ ?_ ?_ ?_
  · have e : a.n + 2 - (a.n + 1) = 1 := by omega
    dsimp only
    rw [e]
    exact ⟨[(50, .blk 50 0), (84, .blk 84 0)], rfl, au0, au9, au10⟩
  · have e : a.n + 2 - (a.n + 1) = 1 := by omega
    dsimp only
    rw [e]
    exact ⟨hri, by omega, fun _ => by omega, rfl⟩
  · rintro ⟨k, o, more⟩ ⟨hR, hk, hcn, heq⟩
    dsimp only at hR hk hcn heq ⊢
    cases more with
    | false =>
      rw [if_neg (by decide)] at heq
      simp (maxSteps := 1000000) (disch := first | omega | exact PairsOK.mk rfl | (simp only [lenW] <;> omega)) only [wordsN, Int.reduceGT, wordsR, ne_eq, wS_regionP, aAppend_slF, aAppend_slN, aSlice_fslH, setL_cons, setL_nil, aMakeMap_new, wordsM, aNil_ptr, aNil_fptr, Int.one_mul, bls_len, ints_len, cells_bl, one_bl, box_bl, List.length_replicate, words, Nat.reduceAdd, Nat.reduceEqDiff, Nat.reduceBEq, ↓reduceIte, reduceCtorEq, SX.exit.injEq, if_true, if_false, Int.reduceAdd, Int.reduceSub, Int.reduceMul, Int.reduceLT, Int.reduceLE, Int.reduceEq, Int.reduceNe, Int.reduceNeg, Int.reduceToNat, Nat.reduceMul, Nat.reduceLT, Nat.reduceSub, Nat.reduceLeDiff]
      refine ⟨(), ?_⟩
      rw [← heq]
      exact ⟨[(84, .blk 84 0)], rfl, au0, au9, au10⟩
    | true =>
      rw [if_pos rfl] at heq
      have hck := hcn rfl
      obtain ⟨k, rfl⟩ : ∃ k', k = k' + 1 := ⟨k - 1, by omega⟩
      have er : a.n + 2 - k = (a.n + 2 - (k + 1)) + 1 := by omega
      have hr1 : 1 ≤ a.n + 2 - (k + 1) := by omega
      have hrn : a.n + 2 - (k + 1) ≤ 4097 := by omega
      generalize hrr : a.n + 2 - (k + 1) = r at *
      have hj := RJ.all hr1 hin hR
      have hnx := hR.next hr1 hin
      have hmono : ∀ x, x < a.n → 0 ≤ o.getD x 0 → 0 ≤ (rRd a.es (lf l) r o).1.getD x 0 := fun x hx h0 => by rw [hj.old x hx h0]; exact h0
      have hcl : (rRd a.es (lf l) r o).2 = true → cntN a.n (rRd a.es (lf l) r o).1 < k := fun hf => by
        obtain ⟨x, hx, h1, h2⟩ := hj.flag hf
        have := cnt_lt hmono hx h1 h2; omega
      rw [rDist] at heq
      have hol := hR.len
      simp (maxSteps := 1000000) (disch := first | omega | exact PairsOK.mk rfl | (simp only [lenW] <;> omega)) only [wordsN, Int.reduceGT, wordsR, ne_eq, wS_regionP, aAppend_slF, aAppend_slN, aSlice_fslH, setL_cons, setL_nil, aMakeMap_new, wordsM, aNil_ptr, aNil_fptr, Int.one_mul, bls_len, ints_len, cells_bl, one_bl, box_bl, List.length_replicate, words, Nat.reduceAdd, Nat.reduceEqDiff, Nat.reduceBEq, ↓reduceIte, reduceCtorEq, SX.exit.injEq, if_true, if_false, Int.reduceAdd, Int.reduceSub, Int.reduceMul, Int.reduceLT, Int.reduceLE, Int.reduceEq, Int.reduceNe, Int.reduceNeg, Int.reduceToNat, Nat.reduceMul, Nat.reduceLT, Nat.reduceSub, Nat.reduceLeDiff]
      refine wS_loopX 220 (fun i : Nat => [(1, blF l a.n), (2, .ptr 50 0 0), (5, .sl 84 0 0 a.n 1), (7, .int .i64 (r : Int)), (8, .bool (rRd (a.es.take i) (lf l) r o).2), (9, .int .i64 i)])
        (fun i => [(50, .cells 0 [sliN a.al, .int .i64 (a.n : Int), sliN a.ms, egsN a.es]), (84, .cells 0 (ints (rRd (a.es.take i) (lf l) r o).1))])
        (fun i => i ≤ a.es.length) (fun i => a.es.length - i) 0 4 240
        (fun _ : Unit => [(1, blF l a.n), (2, .ptr 50 0 0), (5, .sl 84 0 0 a.n 1), (7, .int .i64 (r : Int)), (8, .bool (rRd a.es (lf l) r o).2)])
        (fun _ => [(50, .cells 0 [sliN a.al, .int .i64 (a.n : Int), sliN a.ms, egsN a.es]), (84, .cells 0 (ints (rRd a.es (lf l) r o).1))]) (fun _ => True) ?_ (Nat.zero_le _) ?_ ?_
      · exact ⟨[(50, .blk 50 0), (84, .blk 84 0)], rfl, au0, au9, au10⟩
      · rintro i hi
        by_cases hlt : i < a.es.length
        · obtain ⟨e, he⟩ := get_ex hlt
          obtain ⟨hfr, hto⟩ := hes e (List.mem_of_getElem? he)
          have hst := rRd_take (left := lf l) (r := r) (o := o) he
          have htl := rRd_len (left := lf l) (r := r) (a.es.take i) o
          generalize rRd (a.es.take i) (lf l) r o = t at *
          have hfl : e.1 < l.length := by omega
          have htl2 : e.2.2 < l.length := by omega
          have hft : e.1 < t.1.length := by omega
          have htt : e.2.2 < t.1.length := by omega
          by_cases h1 : lf l e.1 = true
          · by_cases h2 : lf l e.2.2 = true
            · by_cases h3 : t.1.getD e.1 0 < 0
              · by_cases h4 : t.1.getD e.2.2 0 = (r : Int) - 1
                · have hs2 : rEd (lf l) r t e = (t.1.set e.1 (r : Int), true) := by unfold rEd; rw [if_pos (by rw [h1, h2, decide_eq_true h3, decide_eq_true h4]; rfl)]
                  rw [hs2] at hst
                  have hf1 : e.1 + 1 ≤ t.1.length := by omega
                  simp (maxSteps := 1000000) (disch := first | omega | exact PairsOK.mk rfl | (simp only [lenW] <;> omega)) only [hlt, drop_eds he, hfr, hto, head_bls hfl, head_bls htl2, h1, h2, get_intsD hft, get_intsD htt, h3, h4, hf1, ints_set, wordsN, Int.reduceGT, wordsR, ne_eq, wS_regionP, aAppend_slF, aAppend_slN, aSlice_fslH, setL_cons, setL_nil, aMakeMap_new, wordsM, aNil_ptr, aNil_fptr, Int.one_mul, bls_len, ints_len, cells_bl, one_bl, box_bl, List.length_replicate, words, Nat.reduceAdd, Nat.reduceEqDiff, Nat.reduceBEq, ↓reduceIte, reduceCtorEq, SX.exit.injEq, if_true, if_false, Int.reduceAdd, Int.reduceSub, Int.reduceMul, Int.reduceLT, Int.reduceLE, Int.reduceEq, Int.reduceNe, Int.reduceNeg, Int.reduceToNat, Nat.reduceMul, Nat.reduceLT, Nat.reduceSub, Nat.reduceLeDiff]
                  refine ⟨i + 1, by omega, by omega, ?_⟩
                  rw [hst]
                  exact ⟨[(50, .blk 50 0), (84, .blk 84 0)], rfl, au0, au9, au10⟩
                · have hs2 : rEd (lf l) r t e = t := by unfold rEd; rw [if_neg (by rw [h1, h2, decide_eq_true h3, decide_eq_false h4]; decide)]
                  rw [hs2] at hst
                  simp (maxSteps := 1000000) (disch := first | omega | exact PairsOK.mk rfl | (simp only [lenW] <;> omega)) only [hlt, drop_eds he, hfr, hto, head_bls hfl, head_bls htl2, h1, h2, get_intsD hft, get_intsD htt, h3, h4, wordsN, Int.reduceGT, wordsR, ne_eq, wS_regionP, aAppend_slF, aAppend_slN, aSlice_fslH, setL_cons, setL_nil, aMakeMap_new, wordsM, aNil_ptr, aNil_fptr, Int.one_mul, bls_len, ints_len, cells_bl, one_bl, box_bl, List.length_replicate, words, Nat.reduceAdd, Nat.reduceEqDiff, Nat.reduceBEq, ↓reduceIte, reduceCtorEq, SX.exit.injEq, if_true, if_false, Int.reduceAdd, Int.reduceSub, Int.reduceMul, Int.reduceLT, Int.reduceLE, Int.reduceEq, Int.reduceNe, Int.reduceNeg, Int.reduceToNat, Nat.reduceMul, Nat.reduceLT, Nat.reduceSub, Nat.reduceLeDiff]
                  refine ⟨i + 1, by omega, by omega, ?_⟩
                  rw [hst]
                  exact ⟨[(50, .blk 50 0), (84, .blk 84 0)], rfl, au0, au9, au10⟩
              · have hs2 : rEd (lf l) r t e = t := by unfold rEd; rw [if_neg (by rw [h1, h2, decide_eq_false h3]; simp)]
                rw [hs2] at hst
                simp (maxSteps := 1000000) (disch := first | omega | exact PairsOK.mk rfl | (simp only [lenW] <;> omega)) only [hlt, drop_eds he, hfr, hto, head_bls hfl, head_bls htl2, h1, h2, get_intsD hft, h3, wordsN, Int.reduceGT, wordsR, ne_eq, wS_regionP, aAppend_slF, aAppend_slN, aSlice_fslH, setL_cons, setL_nil, aMakeMap_new, wordsM, aNil_ptr, aNil_fptr, Int.one_mul, bls_len, ints_len, cells_bl, one_bl, box_bl, List.length_replicate, words, Nat.reduceAdd, Nat.reduceEqDiff, Nat.reduceBEq, ↓reduceIte, reduceCtorEq, SX.exit.injEq, if_true, if_false, Int.reduceAdd, Int.reduceSub, Int.reduceMul, Int.reduceLT, Int.reduceLE, Int.reduceEq, Int.reduceNe, Int.reduceNeg, Int.reduceToNat, Nat.reduceMul, Nat.reduceLT, Nat.reduceSub, Nat.reduceLeDiff]
                refine ⟨i + 1, by omega, by omega, ?_⟩
                rw [hst]
                exact ⟨[(50, .blk 50 0), (84, .blk 84 0)], rfl, au0, au9, au10⟩
            · have hs2 : rEd (lf l) r t e = t := by unfold rEd; rw [if_neg (by simp [h2])]
              rw [hs2] at hst
              rw [Bool.not_eq_true] at h2
              simp (maxSteps := 1000000) (disch := first | omega | exact PairsOK.mk rfl | (simp only [lenW] <;> omega)) only [hlt, drop_eds he, hfr, hto, head_bls hfl, head_bls htl2, h1, h2, wordsN, Int.reduceGT, wordsR, ne_eq, wS_regionP, aAppend_slF, aAppend_slN, aSlice_fslH, setL_cons, setL_nil, aMakeMap_new, wordsM, aNil_ptr, aNil_fptr, Int.one_mul, bls_len, ints_len, cells_bl, one_bl, box_bl, List.length_replicate, words, Nat.reduceAdd, Nat.reduceEqDiff, Nat.reduceBEq, ↓reduceIte, reduceCtorEq, SX.exit.injEq, if_true, if_false, Int.reduceAdd, Int.reduceSub, Int.reduceMul, Int.reduceLT, Int.reduceLE, Int.reduceEq, Int.reduceNe, Int.reduceNeg, Int.reduceToNat, Nat.reduceMul, Nat.reduceLT, Nat.reduceSub, Nat.reduceLeDiff]
              refine ⟨i + 1, by omega, by omega, ?_⟩
              rw [hst]
              exact ⟨[(50, .blk 50 0), (84, .blk 84 0)], rfl, au0, au9, au10⟩
          · have hs2 : rEd (lf l) r t e = t := by unfold rEd; rw [if_neg (by simp [h1])]
            rw [hs2] at hst
            rw [Bool.not_eq_true] at h1
            simp (maxSteps := 1000000) (disch := first | omega | exact PairsOK.mk rfl | (simp only [lenW] <;> omega)) only [hlt, drop_eds he, hfr, hto, head_bls hfl, h1, wordsN, Int.reduceGT, wordsR, ne_eq, wS_regionP, aAppend_slF, aAppend_slN, aSlice_fslH, setL_cons, setL_nil, aMakeMap_new, wordsM, aNil_ptr, aNil_fptr, Int.one_mul, bls_len, ints_len, cells_bl, one_bl, box_bl, List.length_replicate, words, Nat.reduceAdd, Nat.reduceEqDiff, Nat.reduceBEq, ↓reduceIte, reduceCtorEq, SX.exit.injEq, if_true, if_false, Int.reduceAdd, Int.reduceSub, Int.reduceMul, Int.reduceLT, Int.reduceLE, Int.reduceEq, Int.reduceNe, Int.reduceNeg, Int.reduceToNat, Nat.reduceMul, Nat.reduceLT, Nat.reduceSub, Nat.reduceLeDiff]
            refine ⟨i + 1, by omega, by omega, ?_⟩
            rw [hst]
            exact ⟨[(50, .blk 50 0), (84, .blk 84 0)], rfl, au0, au9, au10⟩
        · have e : i = a.es.length := by omega
          subst e
          simp (maxSteps := 1000000) (disch := first | omega | exact PairsOK.mk rfl | (simp only [lenW] <;> omega)) only [hlt, wordsN, Int.reduceGT, wordsR, ne_eq, wS_regionP, aAppend_slF, aAppend_slN, aSlice_fslH, setL_cons, setL_nil, aMakeMap_new, wordsM, aNil_ptr, aNil_fptr, Int.one_mul, bls_len, ints_len, cells_bl, one_bl, box_bl, List.length_replicate, words, Nat.reduceAdd, Nat.reduceEqDiff, Nat.reduceBEq, ↓reduceIte, reduceCtorEq, SX.exit.injEq, if_true, if_false, Int.reduceAdd, Int.reduceSub, Int.reduceMul, Int.reduceLT, Int.reduceLE, Int.reduceEq, Int.reduceNe, Int.reduceNeg, Int.reduceToNat, Nat.reduceMul, Nat.reduceLT, Nat.reduceSub, Nat.reduceLeDiff]
          refine ⟨(), ?_⟩
          exact ⟨[(50, .blk 50 0), (84, .blk 84 0)], rfl, au0, au9, au10⟩
      rintro _ _
      generalize rRd a.es (lf l) r o = t at *
      simp (maxSteps := 1000000) (disch := first | omega | exact PairsOK.mk rfl | (simp only [lenW] <;> omega)) only [wordsN, Int.reduceGT, wordsR, ne_eq, wS_regionP, aAppend_slF, aAppend_slN, aSlice_fslH, setL_cons, setL_nil, aMakeMap_new, wordsM, aNil_ptr, aNil_fptr, Int.one_mul, bls_len, ints_len, cells_bl, one_bl, box_bl, List.length_replicate, words, Nat.reduceAdd, Nat.reduceEqDiff, Nat.reduceBEq, ↓reduceIte, reduceCtorEq, SX.exit.injEq, if_true, if_false, Int.reduceAdd, Int.reduceSub, Int.reduceMul, Int.reduceLT, Int.reduceLE, Int.reduceEq, Int.reduceNe, Int.reduceNeg, Int.reduceToNat, Nat.reduceMul, Nat.reduceLT, Nat.reduceSub, Nat.reduceLeDiff]
      refine ⟨(k, t.1, t.2), by dsimp only; omega, ?_, ?_⟩
      · dsimp only
        rw [er]
        exact ⟨hnx, by omega, hcl, heq⟩
      · dsimp only
        rw [er]
        exact ⟨[(50, .blk 50 0), (84, .blk 84 0)], rfl, au0, au9, au10⟩
  rintro _ _
  simp (maxSteps := 1000000) (disch := first | omega | exact PairsOK.mk rfl | (simp only [lenW] <;> omega)) only [wordsN, Int.reduceGT, wordsR, ne_eq, wS_regionP, aAppend_slF, aAppend_slN, aSlice_fslH, setL_cons, setL_nil, aMakeMap_new, wordsM, aNil_ptr, aNil_fptr, Int.one_mul, bls_len, ints_len, cells_bl, one_bl, box_bl, List.length_replicate, words, Nat.reduceAdd, Nat.reduceEqDiff, Nat.reduceBEq, ↓reduceIte, reduceCtorEq, SX.exit.injEq, if_true, if_false, Int.reduceAdd, Int.reduceSub, Int.reduceMul, Int.reduceLT, Int.reduceLE, Int.reduceEq, Int.reduceNe, Int.reduceNeg, Int.reduceToNat, Nat.reduceMul, Nat.reduceLT, Nat.reduceSub, Nat.reduceLeDiff]
  exact ⟨.inr trivial, _, rfl, ⟨[(84, .blk 84 0)], rfl, au0, au9, au10⟩⟩
end Go.AM.SE
namespace Go.AM.SE
open Go.Proofs Go.AM.SD
set_option maxRecDepth 100000
set_option linter.unusedSimpArgs false
set_option linter.unusedVariables false
def rLp (left : Nat → Bool) (unc : List Nat) (st : Nat) (e : Ed) : Bool := e.1 == st && !left e.2.2 && unc.contains e.2.1
theorem rLost_step {n : Nat} {es : List Ed} {left : Nat → Bool} {unc : List Nat} : rLost (n + 1) es left unc = rLost n es left unc ++ (rL1 es left unc n).toList := by
  unfold rLost
  rw [List.range_succ, List.filterMap_append]
  cases h : rL1 es left unc n <;> simp [h]
theorem rLost_len (n : Nat) (es : List Ed) (left : Nat → Bool) (unc : List Nat) : (rLost n es left unc).length ≤ n := by
  unfold rLost; exact Nat.le_trans (List.length_filterMap_le _ _) (by simp)
theorem find_atE {p : Ed → Bool} : ∀ {es : List Ed} {j : Nat} {e : Ed}, (∀ x ∈ es.take j, p x = false) → es[j]? = some e → p e = true → es.find? p = some e
  | [], _, _, _, h, _ => by simp at h
  | x :: es, 0, e, _, h, hp => by
    simp at h; subst h; rw [List.find?_cons, hp]
  | x :: es, j + 1, e, hn, h, hp => by
    simp at h
    rw [List.find?_cons, hn x (by simp)]
    exact find_atE (fun y hy => hn y (by rw [List.take_succ_cons]; exact List.mem_cons_of_mem _ hy)) h hp
theorem find_noE {p : Ed → Bool} {es : List Ed} (h : ∀ x ∈ es, p x = false) : es.find? p = none := by
  rw [List.find?_eq_none]; intro x hx; rw [h x hx]; decide
theorem rDist_len {es : List Ed} {left : Nat → Bool} : ∀ (k r : Nat) (o : List Int), (rDist es left k r o).length = o.length
  | 0, _, _ => rfl
  | k + 1, r, o => by
    rw [rDist]; split
    · rw [rDist_len k, rRd_len]
    · rw [rRd_len]
theorem none_take {p : Ed → Bool} {es : List Ed} {j : Nat} {e : Ed} (h : ∀ x ∈ es.take j, p x = false) (he : es[j]? = some e) (hp : p e = false) : ∀ x ∈ es.take (j + 1), p x = false := by
  intro x hx
  rw [List.take_add_one, he, Option.toList] at hx
  rcases List.mem_append.1 hx with h1 | h1
  · exact h x h1
  · simp at h1; rw [h1]; exact hp
set_option maxHeartbeats 32000000 in
theorem next19 (a : Aut) (u : List Nat) (l : LB) (rank : Int) (closed : Bool) (hin : InN a.n a.es a.ms) (hl : l.length = a.n) (hn : a.n ≤ 4096) (hel : a.es.length ≤ 1000000) (hml : a.ms.length ≤ 1000000) (hul : u.length ≤ 1000000) :
    HSpec Try.prog 19 [aV a, blF l a.n, sliN u, .int .i64 rank, .bool closed] .e (.sl 85 0 0 (rNext a.n a.es a.ms (lf l) u rank closed).length 4) (hp [(85, .cells 0 ((rNext a.n a.es a.ms (lf l) u rank closed).flatMap rmC))]) := by
  have hd := dist33 a l hin hl hn hel hml
  have hdl : (rDist a.es (lf l) (a.n + 1) 1 (o0 a.n a.ms (lf l))).length = a.n := by rw [rDist_len]; simp [o0]
  have hlen : (lostF rank (rLost a.n a.es (lf l) u)).length = (rLost a.n a.es (lf l) u).length := by unfold lostF; rw [List.length_map]
  unfold rNext
  generalize rDist a.es (lf l) (a.n + 1) 1 (o0 a.n a.ms (lf l)) = d at *
  refine HSpec.of_new 100 ok19 rfl ?_
  have hes := fun e he => hin.1 e he
  simp (maxSteps := 1000000) (disch := first | omega | exact PairsOK.mk rfl | (simp only [lenW] <;> omega)) only [s19, wordsN, Int.reduceGT, wordsR, ne_eq, wS_regionP, aAppend_slF, aAppend_slN, aSlice_fslH, setL_cons, setL_nil, aMakeMap_new, wordsM, aNil_ptr, aNil_fptr, Int.one_mul, bls_len, ints_len, cells_bl, one_bl, box_bl, List.length_replicate, words, Nat.reduceAdd, Nat.reduceEqDiff, Nat.reduceBEq, ↓reduceIte, reduceCtorEq, SX.exit.injEq, if_true, if_false, Int.reduceAdd, Int.reduceSub, Int.reduceMul, Int.reduceLT, Int.reduceLE, Int.reduceEq, Int.reduceNe, Int.reduceNeg, Int.reduceToNat, Nat.reduceMul, Nat.reduceLT, Nat.reduceSub, Nat.reduceLeDiff]
  refine wS_loopX 120 (fun i : Nat => [(1, blF l a.n), (2, sliN u), (3, .int .i64 rank), (4, .bool closed), (5, .ptr 50 0 0), (11, .sl 82 0 0 (rLost i a.es (lf l) u).length 4), (12, .int .i64 i)])
    (fun i => [(50, .cells 0 [sliN a.al, .int .i64 (a.n : Int), sliN a.ms, egsN a.es]), (82, .cells 0 ((rLost i a.es (lf l) u).flatMap (lsC rank)))])
    (fun i => i ≤ a.n) (fun i => a.n - i) 0 0 160
    (fun _ : Unit => [(1, blF l a.n), (3, .int .i64 rank), (4, .bool closed), (5, .ptr 50 0 0), (11, .sl 82 0 0 (rLost a.n a.es (lf l) u).length 4)])
    (fun _ => [(50, .cells 0 [sliN a.al, .int .i64 (a.n : Int), sliN a.ms, egsN a.es]), (82, .cells 0 ((rLost a.n a.es (lf l) u).flatMap (lsC rank)))]) (fun _ => True) ?_ (Nat.zero_le _) ?_ ?_
  · exact ⟨[(50, .blk 100 0), (82, .nil)], rfl, au0, au9, au10⟩
  · rintro i hi
    by_cases hlt : i < a.n
    · have hstep := rLost_step (n := i) (es := a.es) (left := lf l) (unc := u)
      have hol := rLost_len i a.es (lf l) u
      generalize rLost i a.es (lf l) u = o at *
      have hil : i < l.length := by omega
      have hll := ls_len rank o
      simp (maxSteps := 1000000) (disch := first | omega | exact PairsOK.mk rfl | (simp only [lenW] <;> omega)) only [hlt, wordsN, Int.reduceGT, wordsR, ne_eq, wS_regionP, aAppend_slF, aAppend_slN, aSlice_fslH, setL_cons, setL_nil, aMakeMap_new, wordsM, aNil_ptr, aNil_fptr, Int.one_mul, bls_len, ints_len, cells_bl, one_bl, box_bl, List.length_replicate, words, Nat.reduceAdd, Nat.reduceEqDiff, Nat.reduceBEq, ↓reduceIte, reduceCtorEq, SX.exit.injEq, if_true, if_false, Int.reduceAdd, Int.reduceSub, Int.reduceMul, Int.reduceLT, Int.reduceLE, Int.reduceEq, Int.reduceNe, Int.reduceNeg, Int.reduceToNat, Nat.reduceMul, Nat.reduceLT, Nat.reduceSub, Nat.reduceLeDiff]
      refine wS_loopX 180 (fun j : Nat => [(1, blF l a.n), (2, sliN u), (3, .int .i64 rank), (4, .bool closed), (5, .ptr 50 0 0), (11, .sl 82 0 0 o.length 4), (12, .int .i64 i), (13, .int .i64 j)])
        (fun j => [(50, .cells 0 [sliN a.al, .int .i64 (a.n : Int), sliN a.ms, egsN a.es]), (82, .cells 0 (o.flatMap (lsC rank)))])
        (fun j => j ≤ a.es.length ∧ (lf l i = false → j = 0) ∧ ∀ x ∈ a.es.take j, rLp (lf l) u i x = false) (fun j => a.es.length - j) 0 2 200
        (fun _ : Unit => [(1, blF l a.n), (2, sliN u), (3, .int .i64 rank), (4, .bool closed), (5, .ptr 50 0 0), (11, .sl 82 0 0 (rLost (i + 1) a.es (lf l) u).length 4), (12, .int .i64 i)])
        (fun _ => [(50, .cells 0 [sliN a.al, .int .i64 (a.n : Int), sliN a.ms, egsN a.es]), (82, .cells 0 ((rLost (i + 1) a.es (lf l) u).flatMap (lsC rank)))]) (fun _ => True) ?_ ⟨Nat.zero_le _, fun _ => rfl, fun x hx => by simp at hx⟩ ?_ ?_
      · exact ⟨[(50, .blk 50 0), (82, .blk 82 0)], rfl, au0, au9, au10⟩
      · rintro j ⟨hj, hj0, hno⟩
        by_cases hli : lf l i = true
        · by_cases hjl : j < a.es.length
          · obtain ⟨e, hee⟩ := get_ex hjl
            obtain ⟨hfr, hto⟩ := hes e (List.mem_of_getElem? hee)
            have hfl : e.1 < l.length := by omega
            have htl : e.2.2 < l.length := by omega
            have hc := has15 (nz u) e.2.1 (by simp; omega)
            rw [mem_nz, sli_nz] at hc
            by_cases h1 : e.1 = i
            · by_cases h2 : lf l e.2.2 = true
              · skip
                simp (maxSteps := 1000000) (disch := first | omega | exact PairsOK.mk rfl | (simp only [lenW] <;> omega)) only [hlt, hjl, drop_eds hee, hfr, hto, head_bls hil, hli, h1, head_bls htl, h2, wordsN, Int.reduceGT, wordsR, ne_eq, wS_regionP, aAppend_slF, aAppend_slN, aSlice_fslH, setL_cons, setL_nil, aMakeMap_new, wordsM, aNil_ptr, aNil_fptr, Int.one_mul, bls_len, ints_len, cells_bl, one_bl, box_bl, List.length_replicate, words, Nat.reduceAdd, Nat.reduceEqDiff, Nat.reduceBEq, ↓reduceIte, reduceCtorEq, SX.exit.injEq, if_true, if_false, Int.reduceAdd, Int.reduceSub, Int.reduceMul, Int.reduceLT, Int.reduceLE, Int.reduceEq, Int.reduceNe, Int.reduceNeg, Int.reduceToNat, Nat.reduceMul, Nat.reduceLT, Nat.reduceSub, Nat.reduceLeDiff]
                skip
                refine ⟨j + 1, by omega, ⟨by omega, fun h => (h : False).elim, none_take hno hee (by unfold rLp; rw [h2]; simp)⟩, ?_⟩
                exact ⟨[(50, .blk 50 0), (82, .blk 82 0)], rfl, au0, au9, au10⟩
              · rw [Bool.not_eq_true] at h2
                by_cases h3 : u.contains e.2.1 = true
                · rw [h3] at hc
                  have hfi : rL1 a.es (lf l) u i = some (i, e.2.1) := by
                    unfold rL1
                    rw [if_pos hli]
                    have : a.es.find? (rLp (lf l) u i) = some e := find_atE hno hee (by unfold rLp; rw [h1, h2, h3]; simp)
                    have t2 : (a.es.find? fun e => e.1 == i && !lf l e.2.2 && u.contains e.2.1) = some e := this
                    rw [t2]; rfl
                  rw [hfi] at hstep
                  simp (maxSteps := 1000000) (disch := first | omega | exact PairsOK.mk rfl | (simp only [lenW] <;> omega)) only [hlt, hjl, drop_eds hee, hfr, hto, head_bls hil, hli, h1, head_bls htl, h2, wordsN, Int.reduceGT, wordsR, ne_eq, wS_regionP, aAppend_slF, aAppend_slN, aSlice_fslH, setL_cons, setL_nil, aMakeMap_new, wordsM, aNil_ptr, aNil_fptr, Int.one_mul, bls_len, ints_len, cells_bl, one_bl, box_bl, List.length_replicate, words, Nat.reduceAdd, Nat.reduceEqDiff, Nat.reduceBEq, ↓reduceIte, reduceCtorEq, SX.exit.injEq, if_true, if_false, Int.reduceAdd, Int.reduceSub, Int.reduceMul, Int.reduceLT, Int.reduceLE, Int.reduceEq, Int.reduceNe, Int.reduceNeg, Int.reduceToNat, Nat.reduceMul, Nat.reduceLT, Nat.reduceSub, Nat.reduceLeDiff]
                  refine cp hc ?_
                  simp (maxSteps := 1000000) (disch := first | omega | exact PairsOK.mk rfl | (simp only [lenW] <;> omega)) only [hll, wordsN, Int.reduceGT, wordsR, ne_eq, wS_regionP, aAppend_slF, aAppend_slN, aSlice_fslH, setL_cons, setL_nil, aMakeMap_new, wordsM, aNil_ptr, aNil_fptr, Int.one_mul, bls_len, ints_len, cells_bl, one_bl, box_bl, List.length_replicate, words, Nat.reduceAdd, Nat.reduceEqDiff, Nat.reduceBEq, ↓reduceIte, reduceCtorEq, SX.exit.injEq, if_true, if_false, Int.reduceAdd, Int.reduceSub, Int.reduceMul, Int.reduceLT, Int.reduceLE, Int.reduceEq, Int.reduceNe, Int.reduceNeg, Int.reduceToNat, Nat.reduceMul, Nat.reduceLT, Nat.reduceSub, Nat.reduceLeDiff]
                  refine ⟨(), ?_⟩
                  rw [hstep, Option.toList, List.flatMap_append, List.length_append]
                  exact ⟨[(50, .blk 50 0), (82, .blk 82 1)], rfl, au0, au9, au10⟩
                · rw [Bool.not_eq_true] at h3
                  rw [h3] at hc
                  simp (maxSteps := 1000000) (disch := first | omega | exact PairsOK.mk rfl | (simp only [lenW] <;> omega)) only [hlt, hjl, drop_eds hee, hfr, hto, head_bls hil, hli, h1, head_bls htl, h2, wordsN, Int.reduceGT, wordsR, ne_eq, wS_regionP, aAppend_slF, aAppend_slN, aSlice_fslH, setL_cons, setL_nil, aMakeMap_new, wordsM, aNil_ptr, aNil_fptr, Int.one_mul, bls_len, ints_len, cells_bl, one_bl, box_bl, List.length_replicate, words, Nat.reduceAdd, Nat.reduceEqDiff, Nat.reduceBEq, ↓reduceIte, reduceCtorEq, SX.exit.injEq, if_true, if_false, Int.reduceAdd, Int.reduceSub, Int.reduceMul, Int.reduceLT, Int.reduceLE, Int.reduceEq, Int.reduceNe, Int.reduceNeg, Int.reduceToNat, Nat.reduceMul, Nat.reduceLT, Nat.reduceSub, Nat.reduceLeDiff]
                  refine cp hc ?_ ; simp (maxSteps := 1000000) (disch := first | omega | exact PairsOK.mk rfl | (simp only [lenW] <;> omega)) only [wordsN, Int.reduceGT, wordsR, ne_eq, wS_regionP, aAppend_slF, aAppend_slN, aSlice_fslH, setL_cons, setL_nil, aMakeMap_new, wordsM, aNil_ptr, aNil_fptr, Int.one_mul, bls_len, ints_len, cells_bl, one_bl, box_bl, List.length_replicate, words, Nat.reduceAdd, Nat.reduceEqDiff, Nat.reduceBEq, ↓reduceIte, reduceCtorEq, SX.exit.injEq, if_true, if_false, Int.reduceAdd, Int.reduceSub, Int.reduceMul, Int.reduceLT, Int.reduceLE, Int.reduceEq, Int.reduceNe, Int.reduceNeg, Int.reduceToNat, Nat.reduceMul, Nat.reduceLT, Nat.reduceSub, Nat.reduceLeDiff]
                  refine ⟨j + 1, by omega, ⟨by omega, fun h => (h : False).elim, none_take hno hee (by unfold rLp; rw [h3, Bool.and_false])⟩, ?_⟩
                  exact ⟨[(50, .blk 50 0), (82, .blk 82 0)], rfl, au0, au9, au10⟩
            · skip
              simp (maxSteps := 1000000) (disch := first | omega | exact PairsOK.mk rfl | (simp only [lenW] <;> omega)) only [hlt, hjl, drop_eds hee, hfr, hto, head_bls hil, hli, h1, wordsN, Int.reduceGT, wordsR, ne_eq, wS_regionP, aAppend_slF, aAppend_slN, aSlice_fslH, setL_cons, setL_nil, aMakeMap_new, wordsM, aNil_ptr, aNil_fptr, Int.one_mul, bls_len, ints_len, cells_bl, one_bl, box_bl, List.length_replicate, words, Nat.reduceAdd, Nat.reduceEqDiff, Nat.reduceBEq, ↓reduceIte, reduceCtorEq, SX.exit.injEq, if_true, if_false, Int.reduceAdd, Int.reduceSub, Int.reduceMul, Int.reduceLT, Int.reduceLE, Int.reduceEq, Int.reduceNe, Int.reduceNeg, Int.reduceToNat, Nat.reduceMul, Nat.reduceLT, Nat.reduceSub, Nat.reduceLeDiff]
              skip
              refine ⟨j + 1, by omega, ⟨by omega, fun h => (h : False).elim, none_take hno hee (by simp [rLp, h1])⟩, ?_⟩
              exact ⟨[(50, .blk 50 0), (82, .blk 82 0)], rfl, au0, au9, au10⟩
          · have e : j = a.es.length := by omega
            subst e
            rw [List.take_length] at hno
            have hfi : rL1 a.es (lf l) u i = none := by
              unfold rL1
              rw [if_pos hli]
              have t2 : (a.es.find? fun e => e.1 == i && !lf l e.2.2 && u.contains e.2.1) = none := find_noE (p := rLp (lf l) u i) hno
              rw [t2]; rfl
            rw [hfi, Option.toList, List.append_nil] at hstep
            simp (maxSteps := 1000000) (disch := first | omega | exact PairsOK.mk rfl | (simp only [lenW] <;> omega)) only [hlt, hjl, head_bls hil, hli, wordsN, Int.reduceGT, wordsR, ne_eq, wS_regionP, aAppend_slF, aAppend_slN, aSlice_fslH, setL_cons, setL_nil, aMakeMap_new, wordsM, aNil_ptr, aNil_fptr, Int.one_mul, bls_len, ints_len, cells_bl, one_bl, box_bl, List.length_replicate, words, Nat.reduceAdd, Nat.reduceEqDiff, Nat.reduceBEq, ↓reduceIte, reduceCtorEq, SX.exit.injEq, if_true, if_false, Int.reduceAdd, Int.reduceSub, Int.reduceMul, Int.reduceLT, Int.reduceLE, Int.reduceEq, Int.reduceNe, Int.reduceNeg, Int.reduceToNat, Nat.reduceMul, Nat.reduceLT, Nat.reduceSub, Nat.reduceLeDiff]
            refine ⟨(), ?_⟩
            rw [hstep]
            exact ⟨[(50, .blk 50 0), (82, .blk 82 0)], rfl, au0, au9, au10⟩
        · rw [Bool.not_eq_true] at hli
          have hfi : rL1 a.es (lf l) u i = none := by unfold rL1; rw [if_neg (by simp [hli])]
          rw [hfi, Option.toList, List.append_nil] at hstep
          simp (maxSteps := 1000000) (disch := first | omega | exact PairsOK.mk rfl | (simp only [lenW] <;> omega)) only [hlt, head_bls hil, hli, wordsN, Int.reduceGT, wordsR, ne_eq, wS_regionP, aAppend_slF, aAppend_slN, aSlice_fslH, setL_cons, setL_nil, aMakeMap_new, wordsM, aNil_ptr, aNil_fptr, Int.one_mul, bls_len, ints_len, cells_bl, one_bl, box_bl, List.length_replicate, words, Nat.reduceAdd, Nat.reduceEqDiff, Nat.reduceBEq, ↓reduceIte, reduceCtorEq, SX.exit.injEq, if_true, if_false, Int.reduceAdd, Int.reduceSub, Int.reduceMul, Int.reduceLT, Int.reduceLE, Int.reduceEq, Int.reduceNe, Int.reduceNeg, Int.reduceToNat, Nat.reduceMul, Nat.reduceLT, Nat.reduceSub, Nat.reduceLeDiff]
          refine ⟨(), ?_⟩
          rw [hstep]
          exact ⟨[(50, .blk 50 0), (82, .blk 82 0)], rfl, au0, au9, au10⟩
      rintro _ _
      simp (maxSteps := 1000000) (disch := first | omega | exact PairsOK.mk rfl | (simp only [lenW] <;> omega)) only [wordsN, Int.reduceGT, wordsR, ne_eq, wS_regionP, aAppend_slF, aAppend_slN, aSlice_fslH, setL_cons, setL_nil, aMakeMap_new, wordsM, aNil_ptr, aNil_fptr, Int.one_mul, bls_len, ints_len, cells_bl, one_bl, box_bl, List.length_replicate, words, Nat.reduceAdd, Nat.reduceEqDiff, Nat.reduceBEq, ↓reduceIte, reduceCtorEq, SX.exit.injEq, if_true, if_false, Int.reduceAdd, Int.reduceSub, Int.reduceMul, Int.reduceLT, Int.reduceLE, Int.reduceEq, Int.reduceNe, Int.reduceNeg, Int.reduceToNat, Nat.reduceMul, Nat.reduceLT, Nat.reduceSub, Nat.reduceLeDiff]
      exact ⟨i + 1, by omega, by omega, ⟨[(50, .blk 50 0), (82, .blk 82 0)], rfl, au0, au9, au10⟩⟩
    · have e : i = a.n := by omega
      subst e
      simp (maxSteps := 1000000) (disch := first | omega | exact PairsOK.mk rfl | (simp only [lenW] <;> omega)) only [hlt, wordsN, Int.reduceGT, wordsR, ne_eq, wS_regionP, aAppend_slF, aAppend_slN, aSlice_fslH, setL_cons, setL_nil, aMakeMap_new, wordsM, aNil_ptr, aNil_fptr, Int.one_mul, bls_len, ints_len, cells_bl, one_bl, box_bl, List.length_replicate, words, Nat.reduceAdd, Nat.reduceEqDiff, Nat.reduceBEq, ↓reduceIte, reduceCtorEq, SX.exit.injEq, if_true, if_false, Int.reduceAdd, Int.reduceSub, Int.reduceMul, Int.reduceLT, Int.reduceLE, Int.reduceEq, Int.reduceNe, Int.reduceNeg, Int.reduceToNat, Nat.reduceMul, Nat.reduceLT, Nat.reduceSub, Nat.reduceLeDiff]
      refine ⟨(), ?_⟩
      exact ⟨[(50, .blk 50 0), (82, .blk 82 0)], rfl, au0, au9, au10⟩
  rintro _ _
  have hol := rLost_len a.n a.es (lf l) u
  by_cases h0 : 0 < (rLost a.n a.es (lf l) u).length
  · rw [if_pos (by simp [h0]), ← ls_rm, hlen]
    generalize rLost a.n a.es (lf l) u = o at *
    simp (maxSteps := 1000000) (disch := first | omega | exact PairsOK.mk rfl | (simp only [lenW] <;> omega)) only [h0, wordsN, Int.reduceGT, wordsR, ne_eq, wS_regionP, aAppend_slF, aAppend_slN, aSlice_fslH, setL_cons, setL_nil, aMakeMap_new, wordsM, aNil_ptr, aNil_fptr, Int.one_mul, bls_len, ints_len, cells_bl, one_bl, box_bl, List.length_replicate, words, Nat.reduceAdd, Nat.reduceEqDiff, Nat.reduceBEq, ↓reduceIte, reduceCtorEq, SX.exit.injEq, if_true, if_false, Int.reduceAdd, Int.reduceSub, Int.reduceMul, Int.reduceLT, Int.reduceLE, Int.reduceEq, Int.reduceNe, Int.reduceNeg, Int.reduceToNat, Nat.reduceMul, Nat.reduceLT, Nat.reduceSub, Nat.reduceLeDiff]
    exact ⟨.inr trivial, _, rfl, ⟨[(85, .blk 82 0)], rfl, au0, au9, au10⟩⟩
  · cases closed with
    | true =>
      rw [if_pos (by simp), ← ls_rm, hlen]
      generalize rLost a.n a.es (lf l) u = o at *
      simp (maxSteps := 1000000) (disch := first | omega | exact PairsOK.mk rfl | (simp only [lenW] <;> omega)) only [h0, wordsN, Int.reduceGT, wordsR, ne_eq, wS_regionP, aAppend_slF, aAppend_slN, aSlice_fslH, setL_cons, setL_nil, aMakeMap_new, wordsM, aNil_ptr, aNil_fptr, Int.one_mul, bls_len, ints_len, cells_bl, one_bl, box_bl, List.length_replicate, words, Nat.reduceAdd, Nat.reduceEqDiff, Nat.reduceBEq, ↓reduceIte, reduceCtorEq, SX.exit.injEq, if_true, if_false, Int.reduceAdd, Int.reduceSub, Int.reduceMul, Int.reduceLT, Int.reduceLE, Int.reduceEq, Int.reduceNe, Int.reduceNeg, Int.reduceToNat, Nat.reduceMul, Nat.reduceLT, Nat.reduceSub, Nat.reduceLeDiff]
      exact ⟨.inr trivial, _, rfl, ⟨[(85, .blk 82 0)], rfl, au0, au9, au10⟩⟩
    | false =>
      rw [if_neg (by simp [h0])]
      have h00 : rLost a.n a.es (lf l) u = [] := List.eq_nil_of_length_eq_zero (by omega)
      rw [h00]
      simp (maxSteps := 1000000) (disch := first | omega | exact PairsOK.mk rfl | (simp only [lenW] <;> omega)) only [h0, wordsN, Int.reduceGT, wordsR, ne_eq, wS_regionP, aAppend_slF, aAppend_slN, aSlice_fslH, setL_cons, setL_nil, aMakeMap_new, wordsM, aNil_ptr, aNil_fptr, Int.one_mul, bls_len, ints_len, cells_bl, one_bl, box_bl, List.length_replicate, words, Nat.reduceAdd, Nat.reduceEqDiff, Nat.reduceBEq, ↓reduceIte, reduceCtorEq, SX.exit.injEq, if_true, if_false, Int.reduceAdd, Int.reduceSub, Int.reduceMul, Int.reduceLT, Int.reduceLE, Int.reduceEq, Int.reduceNe, Int.reduceNeg, Int.reduceToNat, Nat.reduceMul, Nat.reduceLT, Nat.reduceSub, Nat.reduceLeDiff]
      refine ch (HSpec.of_O (b := 84) (by (try simp only [noRefs, noRefs_u8, noRefs_keysI, noRefs_back, noRefs_ints, noRefs_eg, noRefs_ed, noRefs_rm, noRefs_ls, noRefs_bls, noRef, Bool.and_self, Bool.and_true]) <;> rfl) hd (by repeat (first | exact Fresh.e | exact Fresh.le (by assumption) (by omega) | refine Fresh.set ?_ (by omega) (by omega))) rfl) ?_
      rw [← bk_rm, blkF_eq, List.length_map, hdl]
      simp (maxSteps := 1000000) (disch := first | omega | exact PairsOK.mk rfl | (simp only [lenW] <;> omega)) only [wordsN, Int.reduceGT, wordsR, ne_eq, wS_regionP, aAppend_slF, aAppend_slN, aSlice_fslH, setL_cons, setL_nil, aMakeMap_new, wordsM, aNil_ptr, aNil_fptr, Int.one_mul, bls_len, ints_len, cells_bl, one_bl, box_bl, List.length_replicate, words, Nat.reduceAdd, Nat.reduceEqDiff, Nat.reduceBEq, ↓reduceIte, reduceCtorEq, SX.exit.injEq, if_true, if_false, Int.reduceAdd, Int.reduceSub, Int.reduceMul, Int.reduceLT, Int.reduceLE, Int.reduceEq, Int.reduceNe, Int.reduceNeg, Int.reduceToNat, Nat.reduceMul, Nat.reduceLT, Nat.reduceSub, Nat.reduceLeDiff]
      refine wS_loopX 260 (fun i : Nat => [(1, blF l a.n), (3, .int .i64 rank), (5, .ptr 50 0 0), (11, .sl 85 0 0 (blkP (lf l) d i).length 4), (15, .sl 84 0 0 a.n 1), (16, .int .i64 i)])
        (fun i => [(50, .cells 0 [sliN a.al, .int .i64 (a.n : Int), sliN a.ms, egsN a.es]), (84, .cells 0 (ints d)), (85, .cells 0 ((blkP (lf l) d i).flatMap (bkC rank)))])
        (fun i => i ≤ a.n) (fun i => a.n - i) 0 4 280
        (fun _ : Unit => [(11, .sl 85 0 0 (blkP (lf l) d a.n).length 4)])
        (fun _ => [(85, .cells 0 ((blkP (lf l) d a.n).flatMap (bkC rank)))]) (fun _ => True) ?_ (Nat.zero_le _) ?_ ?_
      · exact ⟨[(50, .blk 50 0), (84, .blk 84 0), (85, .blk 82 0)], rfl, au0, au9, au10⟩
      · rintro i hi
        by_cases hlt : i < a.n
        · have hst := blkP_take (left := lf l) (d := d) (i := i)
          have hol := blkP_len (lf l) d i
          generalize blkP (lf l) d i = o at *
          have hil : i < l.length := by omega
          have hid : i < d.length := by omega
          have hll := bk_len rank o
          by_cases h1 : lf l i = true
          · by_cases h2 : d.getD i 0 < 0
            · rw [if_pos (by rw [h1, decide_eq_true h2]; rfl)] at hst
              simp (maxSteps := 1000000) (disch := first | omega | exact PairsOK.mk rfl | (simp only [lenW] <;> omega)) only [hlt, get_intsD hid, head_bls hil, h1, h2, hll, wordsN, Int.reduceGT, wordsR, ne_eq, wS_regionP, aAppend_slF, aAppend_slN, aSlice_fslH, setL_cons, setL_nil, aMakeMap_new, wordsM, aNil_ptr, aNil_fptr, Int.one_mul, bls_len, ints_len, cells_bl, one_bl, box_bl, List.length_replicate, words, Nat.reduceAdd, Nat.reduceEqDiff, Nat.reduceBEq, ↓reduceIte, reduceCtorEq, SX.exit.injEq, if_true, if_false, Int.reduceAdd, Int.reduceSub, Int.reduceMul, Int.reduceLT, Int.reduceLE, Int.reduceEq, Int.reduceNe, Int.reduceNeg, Int.reduceToNat, Nat.reduceMul, Nat.reduceLT, Nat.reduceSub, Nat.reduceLeDiff]
              refine ⟨i + 1, by omega, by omega, ?_⟩
              rw [hst, List.flatMap_append, List.length_append]
              exact ⟨[(50, .blk 50 0), (84, .blk 84 0), (85, .blk 85 1)], rfl, au0, au9, au10⟩
            · rw [if_neg (by rw [h1, decide_eq_false h2]; decide), List.append_nil] at hst
              simp (maxSteps := 1000000) (disch := first | omega | exact PairsOK.mk rfl | (simp only [lenW] <;> omega)) only [hlt, get_intsD hid, head_bls hil, h1, h2, wordsN, Int.reduceGT, wordsR, ne_eq, wS_regionP, aAppend_slF, aAppend_slN, aSlice_fslH, setL_cons, setL_nil, aMakeMap_new, wordsM, aNil_ptr, aNil_fptr, Int.one_mul, bls_len, ints_len, cells_bl, one_bl, box_bl, List.length_replicate, words, Nat.reduceAdd, Nat.reduceEqDiff, Nat.reduceBEq, ↓reduceIte, reduceCtorEq, SX.exit.injEq, if_true, if_false, Int.reduceAdd, Int.reduceSub, Int.reduceMul, Int.reduceLT, Int.reduceLE, Int.reduceEq, Int.reduceNe, Int.reduceNeg, Int.reduceToNat, Nat.reduceMul, Nat.reduceLT, Nat.reduceSub, Nat.reduceLeDiff]
              refine ⟨i + 1, by omega, by omega, ?_⟩
              rw [hst]; exact ⟨[(50, .blk 50 0), (84, .blk 84 0), (85, .blk 85 0)], rfl, au0, au9, au10⟩
          · rw [if_neg (by simp [h1]), List.append_nil] at hst
            rw [Bool.not_eq_true] at h1
            simp (maxSteps := 1000000) (disch := first | omega | exact PairsOK.mk rfl | (simp only [lenW] <;> omega)) only [hlt, head_bls hil, h1, wordsN, Int.reduceGT, wordsR, ne_eq, wS_regionP, aAppend_slF, aAppend_slN, aSlice_fslH, setL_cons, setL_nil, aMakeMap_new, wordsM, aNil_ptr, aNil_fptr, Int.one_mul, bls_len, ints_len, cells_bl, one_bl, box_bl, List.length_replicate, words, Nat.reduceAdd, Nat.reduceEqDiff, Nat.reduceBEq, ↓reduceIte, reduceCtorEq, SX.exit.injEq, if_true, if_false, Int.reduceAdd, Int.reduceSub, Int.reduceMul, Int.reduceLT, Int.reduceLE, Int.reduceEq, Int.reduceNe, Int.reduceNeg, Int.reduceToNat, Nat.reduceMul, Nat.reduceLT, Nat.reduceSub, Nat.reduceLeDiff]
            refine ⟨i + 1, by omega, by omega, ?_⟩
            rw [hst]; exact ⟨[(50, .blk 50 0), (84, .blk 84 0), (85, .blk 85 0)], rfl, au0, au9, au10⟩
        · have e : i = a.n := by omega
          subst e
          simp (maxSteps := 1000000) (disch := first | omega | exact PairsOK.mk rfl | (simp only [lenW] <;> omega)) only [hlt, wordsN, Int.reduceGT, wordsR, ne_eq, wS_regionP, aAppend_slF, aAppend_slN, aSlice_fslH, setL_cons, setL_nil, aMakeMap_new, wordsM, aNil_ptr, aNil_fptr, Int.one_mul, bls_len, ints_len, cells_bl, one_bl, box_bl, List.length_replicate, words, Nat.reduceAdd, Nat.reduceEqDiff, Nat.reduceBEq, ↓reduceIte, reduceCtorEq, SX.exit.injEq, if_true, if_false, Int.reduceAdd, Int.reduceSub, Int.reduceMul, Int.reduceLT, Int.reduceLE, Int.reduceEq, Int.reduceNe, Int.reduceNeg, Int.reduceToNat, Nat.reduceMul, Nat.reduceLT, Nat.reduceSub, Nat.reduceLeDiff]
          refine ⟨(), ?_⟩
          exact ⟨[(85, .blk 85 0)], rfl, au0, au9, au10⟩
      rintro _ _
      simp (maxSteps := 1000000) (disch := first | omega | exact PairsOK.mk rfl | (simp only [lenW] <;> omega)) only [wordsN, Int.reduceGT, wordsR, ne_eq, wS_regionP, aAppend_slF, aAppend_slN, aSlice_fslH, setL_cons, setL_nil, aMakeMap_new, wordsM, aNil_ptr, aNil_fptr, Int.one_mul, bls_len, ints_len, cells_bl, one_bl, box_bl, List.length_replicate, words, Nat.reduceAdd, Nat.reduceEqDiff, Nat.reduceBEq, ↓reduceIte, reduceCtorEq, SX.exit.injEq, if_true, if_false, Int.reduceAdd, Int.reduceSub, Int.reduceMul, Int.reduceLT, Int.reduceLE, Int.reduceEq, Int.reduceNe, Int.reduceNeg, Int.reduceToNat, Nat.reduceMul, Nat.reduceLT, Nat.reduceSub, Nat.reduceLeDiff]
      exact ⟨.inr trivial, _, rfl, ⟨[(85, .blk 85 0)], rfl, au0, au9, au10⟩⟩
end Go.AM.SE
namespace Go.AM.SE
open Go.Proofs Go.AM.SD
set_option maxRecDepth 100000
set_option linter.unusedSimpArgs false
set_option linter.unusedVariables false
abbrev tyTo : Ty := .arr 5 (.arr 5 (.int .u8))
abbrev tyGr : Ty := .st (.pair (.int .u8) (.pair (.int .u8) (.pair tyTo .unit)))
abbrev tyTask : Ty := .st (.pair (.int .u8) (.pair tyGr (.pair (.int .u32) (.pair (.int .u8) .unit))))
theorem u8_wf {n : Int} (h : (Lit.int .u8 n).wf = true) : 0 ≤ n ∧ n < 256 := by
  simp [Lit.wf, IntKind.min, IntKind.max, IntKind.signed, IntKind.bits] at h
  omega
theorem u32_wf {n : Int} (h : (Lit.int .u32 n).wf = true) : 0 ≤ n ∧ n < 4294967296 := by
  simp [Lit.wf, IntKind.min, IntKind.max, IntKind.signed, IntKind.bits] at h
  omega
theorem i64_wf {n : Int} (h : (Lit.int .i64 n).wf = true) : -9223372036854775808 ≤ n ∧ n ≤ 9223372036854775807 := by
  simp [Lit.wf, IntKind.min, IntKind.max, IntKind.signed, IntKind.bits] at h
  omega
theorem u8s_in {l : List Int} (h : ∀ x ∈ l, (Lit.int .u8 x).wf = true) : l.flatMap (Ty.cells (.int .u8)) = u8s (l.map Int.toNat) := by
  induction l with
  | nil => rfl
  | cons x l ih =>
    have h1 := u8_wf (h x (by simp))
    rw [List.flatMap_cons, ih fun y hy => h y (by simp [hy])]
    simp only [Ty.cells, u8s, List.map_cons, List.singleton_append]
    rw [Int.toNat_of_nonneg h1.1]
abbrev ty5 : Ty := .arr 5 (.int .u8)
theorem to_in {w : tyTo.D} (h : tyTo.wf w) : ∃ l : List Nat, l.length = 25 ∧ (∀ x ∈ l, x < 256) ∧ tyTo.cells w = u8s l := by
  obtain ⟨h1, h2⟩ := h
  have key : ∀ l : List (List Int), (∀ x ∈ l, ty5.wf x) → ∃ r : List Nat, r.length = l.length * 5 ∧ (∀ x ∈ r, x < 256) ∧ l.flatMap ty5.cells = u8s r := by
    intro l
    induction l with
    | nil => intro _; exact ⟨[], rfl, (fun x hx => by cases hx), rfl⟩
    | cons a l ih =>
      intro hl
      obtain ⟨r, g1, g2, g3⟩ := ih fun y hy => hl y (by simp [hy])
      obtain ⟨a1, a2⟩ := hl a (by simp)
      refine ⟨(show List Int from a).map Int.toNat ++ r, ?_, ?_, ?_⟩
      · rw [List.length_append, List.length_map, a1, g1, List.length_cons, Nat.succ_mul]; omega
      · intro x hx
        rcases List.mem_append.1 hx with hx | hx
        · obtain ⟨y, hy, rfl⟩ := List.mem_map.1 hx
          have := u8_wf (a2 y hy)
          omega
        · exact g2 x hx
      · rw [List.flatMap_cons, g3]
        have : ty5.cells a = u8s ((show List Int from a).map Int.toNat) := u8s_in a2
        rw [this]
        simp [u8s]
  obtain ⟨r, g1, g2, g3⟩ := key w h2
  exact ⟨r, by rw [g1, h1], g2, g3⟩
theorem tsk_in {d : tyTask.D} (h : tyTask.wf d) : ∃ t : Tsk, TOk t ∧ tyTask.val d = tskV t := by
  obtain ⟨a, ⟨b, c, w, u1⟩, f, g, u2⟩ := d
  obtain ⟨h1, ⟨h2, h3, h4, _⟩, h5, h6, _⟩ := h
  dsimp only at h1 h2 h3 h4 h5 h6
  obtain ⟨T, t1, t2, t3⟩ := to_in h4
  have e1 := u8_wf h1
  have e2 := u8_wf h2
  have e3 := u8_wf h3
  have e5 := u32_wf h5
  have e6 := u8_wf h6
  refine ⟨⟨a.toNat, b.toNat, c.toNat, T, f.toNat, g.toNat⟩, ⟨by dsimp only; omega, by dsimp only; omega, by dsimp only; omega, t1, t2, by dsimp only; omega, by dsimp only; omega⟩, ?_⟩
  show AV.agg _ = _
  congr 1
  simp only [Ty.cells] at t3 ⊢
  rw [t3, Int.toNat_of_nonneg e1.1, Int.toNat_of_nonneg e2.1, Int.toNat_of_nonneg e3.1, Int.toNat_of_nonneg e5.1, Int.toNat_of_nonneg e6.1]
  simp only [List.singleton_append, List.append_nil, List.cons_append, List.nil_append]
end Go.AM.SE
namespace Go.AM.SE
open Go.Proofs Go.AM.SD
end Go.AM.SE
namespace Go.AM.SE
open Go.Proofs Go.AM.SD
set_option maxRecDepth 100000
set_option linter.unusedSimpArgs false
set_option linter.unusedVariables false
theorem left0_map {n : Nat} {F : List Nat} : (List.range n).map (fun x => !F.contains x) = left0 n F := by
  refine List.ext_getElem (by simp [left0_len]) fun i h1 h2 => ?_
  have hi : i < n := by simpa using h1
  have e : (left0 n F)[i] = lf (left0 n F) i := by simp [lf, h2]
  rw [e, Bool.eq_iff_iff, lf_left0]
  simp [hi]
def lfP (n : Nat) (F : List Nat) (i : Nat) : LB := (List.range i).map (fun x => !F.contains x) ++ List.replicate (n - i) false
theorem lfP_len {n i : Nat} {F : List Nat} (h : i ≤ n) : (lfP n F i).length = n := by unfold lfP; simp; omega
theorem lfP_set {n i : Nat} {F : List Nat} (h : i < n) : (lfP n F i).set i (!F.contains i) = lfP n F (i + 1) := by
  unfold lfP
  rw [List.set_append_right _ _ (by simp), List.length_map, List.length_range, Nat.sub_self, show n - i = (n - (i + 1)) + 1 by omega, List.replicate_succ, List.set_cons_zero, List.range_succ, List.map_append, List.append_assoc]; rfl
theorem lfP_end {n : Nat} {F : List Nat} : lfP n F n = left0 n F := by unfold lfP; rw [Nat.sub_self, left0_map]; simp
theorem pNext_len {a : Aut} {l : LB} {u : List Nat} {rank : Int} (h : WfA a) (hel : a.es.length ≤ 1000000) : (pNext a.n a.es a.ms (lf l) u rank true).length ≤ 1000000 := by
  have hn5 := h.n5
  unfold pNext; split
  · unfold lostF; rw [List.length_map]; exact Nat.le_trans (pLost_len _ _ _) hel
  · rw [blkF_eq, List.length_map]; exact Nat.le_trans (blkP_len _ _ _) (by rw [pDist_len h.inN h.nd]; omega)
set_option maxHeartbeats 32000000 in
theorem law5 (t : Tsk) (ho : TOk t) (rank : Int) (hrk : -9223372036854775808 ≤ rank ∧ rank ≤ 9223372036854775807) :
    W2 Try.prog ⟨s5.n, 0⟩ s5.body (fun e B => (e = .normal ∨ e = .ret) ∧ resV B.T B.h s5.res = some [.bool true]) ⟨argT 0 [tskV t, .int .i64 rank], .e⟩ := by
  refine (wpC.toW (n := 40) (Q := fun e T h _ => (e = .normal ∨ e = .ret) ∧ resV T h s5.res = some [.bool true]) (show wS Try.prog ⟨s5.n, 0⟩ s5.body [] 40 _ _ _ from ?_)).mono fun e B ⟨_, h⟩ => h
  have hlu : (u8s t.T).length = 25 := by simp [u8s, ho.T]
  have h30 : (AV.int .u8 (t.set : Int) :: .int .u8 (t.st : Int) :: .int .u8 (t.mr : Int) :: (u8s t.T ++ [.int .u32 (t.fb : Int), .int .u8 (t.un : Int)])).length = 30 := by simp [hlu]
  have ht30 : (AV.int .u8 (t.set : Int) :: .int .u8 (t.st : Int) :: .int .u8 (t.mr : Int) :: (u8s t.T ++ [.int .u32 (t.fb : Int), .int .u8 (t.un : Int)])).take 30 = AV.int .u8 (t.set : Int) :: .int .u8 (t.st : Int) :: .int .u8 (t.mr : Int) :: (u8s t.T ++ [.int .u32 (t.fb : Int), .int .u8 (t.un : Int)]) := List.take_of_length_le (by omega)
  have hop := open10 t ho
  have hw := tA_wf t
  have hel := tA_el t
  have hq := tQ t
  simp (maxSteps := 1000000) (disch := first | omega | exact PairsOK.mk rfl | (simp only [lenW] <;> omega)) only [s5, wordsN, Int.reduceGT, wordsR, ne_eq, wS_regionP, aAppend_slF, aAppend_slN, aSlice_fslH, setL_cons, setL_nil, aMakeMap_new, wordsM, aNil_ptr, aNil_fptr, Int.one_mul, bls_len, ints_len, cells_bl, one_bl, box_bl, List.length_replicate, words, Nat.reduceAdd, Nat.reduceEqDiff, Nat.reduceBEq, ↓reduceIte, reduceCtorEq, SX.exit.injEq, if_true, if_false, Int.reduceAdd, Int.reduceSub, Int.reduceMul, Int.reduceLT, Int.reduceLE, Int.reduceEq, Int.reduceNe, Int.reduceNeg, Int.reduceToNat, Nat.reduceMul, Nat.reduceLT, Nat.reduceSub, Nat.reduceLeDiff]
  refine cp known9 ?_
  simp (maxSteps := 1000000) (disch := first | omega | exact PairsOK.mk rfl | (simp only [lenW] <;> omega)) only [h30, ht30, wordsN, Int.reduceGT, wordsR, ne_eq, wS_regionP, aAppend_slF, aAppend_slN, aSlice_fslH, setL_cons, setL_nil, aMakeMap_new, wordsM, aNil_ptr, aNil_fptr, Int.one_mul, bls_len, ints_len, cells_bl, one_bl, box_bl, List.length_replicate, words, Nat.reduceAdd, Nat.reduceEqDiff, Nat.reduceBEq, ↓reduceIte, reduceCtorEq, SX.exit.injEq, if_true, if_false, Int.reduceAdd, Int.reduceSub, Int.reduceMul, Int.reduceLT, Int.reduceLE, Int.reduceEq, Int.reduceNe, Int.reduceNeg, Int.reduceToNat, Nat.reduceMul, Nat.reduceLT, Nat.reduceSub, Nat.reduceLeDiff]
  refine cp hop ?_
  generalize tA t = A at *
  generalize tF t = F at *
  generalize tU t = U at *
  have hn5 := hw.n5
  have hF5 := sorted_len hq.fS hq.fn
  have hU5 := sorted_len hq.uS hq.un
  have hms : A.ms.length ≤ A.n := nodup_len A.n A.ms hw.nd hw.msn
  simp (maxSteps := 1000000) (disch := first | omega | exact PairsOK.mk rfl | (simp only [lenW] <;> omega)) only [wordsN, Int.reduceGT, wordsR, ne_eq, wS_regionP, aAppend_slF, aAppend_slN, aSlice_fslH, setL_cons, setL_nil, aMakeMap_new, wordsM, aNil_ptr, aNil_fptr, Int.one_mul, bls_len, ints_len, cells_bl, one_bl, box_bl, List.length_replicate, words, Nat.reduceAdd, Nat.reduceEqDiff, Nat.reduceBEq, ↓reduceIte, reduceCtorEq, SX.exit.injEq, if_true, if_false, Int.reduceAdd, Int.reduceSub, Int.reduceMul, Int.reduceLT, Int.reduceLE, Int.reduceEq, Int.reduceNe, Int.reduceNeg, Int.reduceToNat, Nat.reduceMul, Nat.reduceLT, Nat.reduceSub, Nat.reduceLeDiff]
  by_cases hr : rank < 1
  · refine cp (Next17r A F U rank hw hq hel hr) ?_
    simp (maxSteps := 1000000) (disch := first | omega | exact PairsOK.mk rfl | (simp only [lenW] <;> omega)) only [hr, wordsN, Int.reduceGT, wordsR, ne_eq, wS_regionP, aAppend_slF, aAppend_slN, aSlice_fslH, setL_cons, setL_nil, aMakeMap_new, wordsM, aNil_ptr, aNil_fptr, Int.one_mul, bls_len, ints_len, cells_bl, one_bl, box_bl, List.length_replicate, words, Nat.reduceAdd, Nat.reduceEqDiff, Nat.reduceBEq, ↓reduceIte, reduceCtorEq, SX.exit.injEq, if_true, if_false, Int.reduceAdd, Int.reduceSub, Int.reduceMul, Int.reduceLT, Int.reduceLE, Int.reduceEq, Int.reduceNe, Int.reduceNeg, Int.reduceToNat, Nat.reduceMul, Nat.reduceLT, Nat.reduceSub, Nat.reduceLeDiff]
    exact ⟨.inr trivial, rfl⟩
  · refine cp (Next17 A F U rank hw hq hel (by omega)) ?_
    have hn' : (A.n : Int) ≤ 1099511627776 := by omega
    have hx := next19 A U (left0 A.n F) rank false hw.inN left0_len (by omega) hel (by omega) (by omega)
    have hpl := pNext_len (l := left0 A.n F) (u := U) (rank := rank) hw hel
    have heq := pNext_eq (left := lf (left0 A.n F)) (unc := U) (rank := rank) (all := true) hw.inN hw.nd hw.srt
    rw [Bool.not_true] at heq
    rw [heq] at hpl ⊢
    generalize hR : rNext A.n A.es A.ms (lf (left0 A.n F)) U rank false = R at *
    simp (maxSteps := 1000000) (disch := first | omega | exact PairsOK.mk rfl | (simp only [lenW] <;> omega)) only [hr, hn', reps, wordsN, Int.reduceGT, wordsR, ne_eq, wS_regionP, aAppend_slF, aAppend_slN, aSlice_fslH, setL_cons, setL_nil, aMakeMap_new, wordsM, aNil_ptr, aNil_fptr, Int.one_mul, bls_len, ints_len, cells_bl, one_bl, box_bl, List.length_replicate, words, Nat.reduceAdd, Nat.reduceEqDiff, Nat.reduceBEq, ↓reduceIte, reduceCtorEq, SX.exit.injEq, if_true, if_false, Int.reduceAdd, Int.reduceSub, Int.reduceMul, Int.reduceLT, Int.reduceLE, Int.reduceEq, Int.reduceNe, Int.reduceNeg, Int.reduceToNat, Nat.reduceMul, Nat.reduceLT, Nat.reduceSub, Nat.reduceLeDiff]
    refine wS_loopX 100 (fun i : Nat => [(1, .int .i64 rank), (5, .ptr 50 0 0), (6, sliN F), (7, sliN U), (8, rms R), (9, .int .i64 0), (10, .sl 60 0 0 A.n 1), (11, .int .i64 i)])
      (fun i => [(50, .cells 0 [sliN A.al, .int .i64 (A.n : Int), sliN A.ms, egsN A.es]), (60, .cells 0 (bls (lfP A.n F i)))])
      (fun i => i ≤ A.n) (fun i => A.n - i) 0 0 120
      (fun _ : Unit => [(1, .int .i64 rank), (5, .ptr 50 0 0), (7, sliN U), (8, rms R), (9, .int .i64 0), (10, .sl 60 0 0 A.n 1)])
      (fun _ => [(50, .cells 0 [sliN A.al, .int .i64 (A.n : Int), sliN A.ms, egsN A.es]), (60, .cells 0 (bls (left0 A.n F)))]) (fun _ => True) ?_ (Nat.zero_le _) ?_ ?_
    · have e : List.replicate A.n false = lfP A.n F 0 := by simp [lfP]
      rw [e]
      exact ⟨[(50, .blk 50 0), (60, .blk 68 0)], rfl, au0, au9, au10⟩
    · rintro i hi
      by_cases hlt : i < A.n
      · have hst := lfP_set (F := F) hlt
        have hln := lfP_len (F := F) hi
        generalize lfP A.n F i = o at *
        have hil : i < o.length := by omega
        have hi1 : i + 1 ≤ o.length := by omega
        have hc := has15 (nz F) i (by simp; omega)
        rw [mem_nz, sli_nz] at hc
        simp (maxSteps := 1000000) (disch := first | omega | exact PairsOK.mk rfl | (simp only [lenW] <;> omega)) only [hlt, wordsN, Int.reduceGT, wordsR, ne_eq, wS_regionP, aAppend_slF, aAppend_slN, aSlice_fslH, setL_cons, setL_nil, aMakeMap_new, wordsM, aNil_ptr, aNil_fptr, Int.one_mul, bls_len, ints_len, cells_bl, one_bl, box_bl, List.length_replicate, words, Nat.reduceAdd, Nat.reduceEqDiff, Nat.reduceBEq, ↓reduceIte, reduceCtorEq, SX.exit.injEq, if_true, if_false, Int.reduceAdd, Int.reduceSub, Int.reduceMul, Int.reduceLT, Int.reduceLE, Int.reduceEq, Int.reduceNe, Int.reduceNeg, Int.reduceToNat, Nat.reduceMul, Nat.reduceLT, Nat.reduceSub, Nat.reduceLeDiff]
        refine cp hc ?_
        cases hb : F.contains i with
        | true =>
          rw [hb] at hst
          simp (maxSteps := 1000000) (disch := first | omega | exact PairsOK.mk rfl | (simp only [lenW] <;> omega)) only [hlt, hi1, bls_set, wordsN, Int.reduceGT, wordsR, ne_eq, wS_regionP, aAppend_slF, aAppend_slN, aSlice_fslH, setL_cons, setL_nil, aMakeMap_new, wordsM, aNil_ptr, aNil_fptr, Int.one_mul, bls_len, ints_len, cells_bl, one_bl, box_bl, List.length_replicate, words, Nat.reduceAdd, Nat.reduceEqDiff, Nat.reduceBEq, ↓reduceIte, reduceCtorEq, SX.exit.injEq, if_true, if_false, Int.reduceAdd, Int.reduceSub, Int.reduceMul, Int.reduceLT, Int.reduceLE, Int.reduceEq, Int.reduceNe, Int.reduceNeg, Int.reduceToNat, Nat.reduceMul, Nat.reduceLT, Nat.reduceSub, Nat.reduceLeDiff]
          refine ⟨i + 1, by omega, by omega, ?_⟩
          rw [← hst]
          exact ⟨[(50, .blk 50 0), (60, .blk 60 0)], rfl, au0, au9, au10⟩
        | false =>
          rw [hb] at hst
          simp (maxSteps := 1000000) (disch := first | omega | exact PairsOK.mk rfl | (simp only [lenW] <;> omega)) only [hlt, hi1, bls_set, wordsN, Int.reduceGT, wordsR, ne_eq, wS_regionP, aAppend_slF, aAppend_slN, aSlice_fslH, setL_cons, setL_nil, aMakeMap_new, wordsM, aNil_ptr, aNil_fptr, Int.one_mul, bls_len, ints_len, cells_bl, one_bl, box_bl, List.length_replicate, words, Nat.reduceAdd, Nat.reduceEqDiff, Nat.reduceBEq, ↓reduceIte, reduceCtorEq, SX.exit.injEq, if_true, if_false, Int.reduceAdd, Int.reduceSub, Int.reduceMul, Int.reduceLT, Int.reduceLE, Int.reduceEq, Int.reduceNe, Int.reduceNeg, Int.reduceToNat, Nat.reduceMul, Nat.reduceLT, Nat.reduceSub, Nat.reduceLeDiff]
          refine ⟨i + 1, by omega, by omega, ?_⟩
          rw [← hst]
          exact ⟨[(50, .blk 50 0), (60, .blk 60 0)], rfl, au0, au9, au10⟩
      · have e : i = A.n := by omega
        subst e
        simp (maxSteps := 1000000) (disch := first | omega | exact PairsOK.mk rfl | (simp only [lenW] <;> omega)) only [hlt, wordsN, Int.reduceGT, wordsR, ne_eq, wS_regionP, aAppend_slF, aAppend_slN, aSlice_fslH, setL_cons, setL_nil, aMakeMap_new, wordsM, aNil_ptr, aNil_fptr, Int.one_mul, bls_len, ints_len, cells_bl, one_bl, box_bl, List.length_replicate, words, Nat.reduceAdd, Nat.reduceEqDiff, Nat.reduceBEq, ↓reduceIte, reduceCtorEq, SX.exit.injEq, if_true, if_false, Int.reduceAdd, Int.reduceSub, Int.reduceMul, Int.reduceLT, Int.reduceLE, Int.reduceEq, Int.reduceNe, Int.reduceNeg, Int.reduceToNat, Nat.reduceMul, Nat.reduceLT, Nat.reduceSub, Nat.reduceLeDiff]
        refine ⟨(), ?_⟩
        rw [← lfP_end]
        exact ⟨[(50, .blk 50 0), (60, .blk 60 0)], rfl, au0, au9, au10⟩
    rintro _ _
    simp (maxSteps := 1000000) (disch := first | omega | exact PairsOK.mk rfl | (simp only [lenW] <;> omega)) only [wordsN, Int.reduceGT, wordsR, ne_eq, wS_regionP, aAppend_slF, aAppend_slN, aSlice_fslH, setL_cons, setL_nil, aMakeMap_new, wordsM, aNil_ptr, aNil_fptr, Int.one_mul, bls_len, ints_len, cells_bl, one_bl, box_bl, List.length_replicate, words, Nat.reduceAdd, Nat.reduceEqDiff, Nat.reduceBEq, ↓reduceIte, reduceCtorEq, SX.exit.injEq, if_true, if_false, Int.reduceAdd, Int.reduceSub, Int.reduceMul, Int.reduceLT, Int.reduceLE, Int.reduceEq, Int.reduceNe, Int.reduceNeg, Int.reduceToNat, Nat.reduceMul, Nat.reduceLT, Nat.reduceSub, Nat.reduceLeDiff]
    refine ch (HSpec.of_F (FrzL.cons (FrzTo.same _) (FrzL.cons (FrzTo.all (g := 0) (cs := bls (left0 A.n F)) (by first | (simp (disch := omega) only [get_same, get_ne, hp_cons]; done) | (simp (disch := omega) only [get_same, get_ne, hp_cons]; rfl)) (by rw [bls_len, left0_len, Nat.mul_one])) (FrzL.cons (FrzTo.same _) (FrzL.cons (FrzTo.same _) (FrzL.cons (FrzTo.same _) FrzL.nil))))) (FSpec.of_new hx (by (try simp only [noRefs, noRefs_u8, noRefs_keysI, noRefs_back, noRefs_ints, noRefs_eg, noRefs_ed, noRefs_rm, noRefs_ls, noRefs_bls, noRef, Bool.and_self, Bool.and_true]) <;> rfl) (flat_rm _) (rm_len _) rfl)) ?_
    simp (maxSteps := 1000000) (disch := first | omega | exact PairsOK.mk rfl | (simp only [lenW] <;> omega)) only [wordsN, Int.reduceGT, wordsR, ne_eq, wS_regionP, aAppend_slF, aAppend_slN, aSlice_fslH, setL_cons, setL_nil, aMakeMap_new, wordsM, aNil_ptr, aNil_fptr, Int.one_mul, bls_len, ints_len, cells_bl, one_bl, box_bl, List.length_replicate, words, Nat.reduceAdd, Nat.reduceEqDiff, Nat.reduceBEq, ↓reduceIte, reduceCtorEq, SX.exit.injEq, if_true, if_false, Int.reduceAdd, Int.reduceSub, Int.reduceMul, Int.reduceLT, Int.reduceLE, Int.reduceEq, Int.reduceNe, Int.reduceNeg, Int.reduceToNat, Nat.reduceMul, Nat.reduceLT, Nat.reduceSub, Nat.reduceLeDiff]
    refine cp (sameRems18 R R hpl) ?_
    rw [decide_eq_true rfl]
    simp (maxSteps := 1000000) (disch := first | omega | exact PairsOK.mk rfl | (simp only [lenW] <;> omega)) only [wordsN, Int.reduceGT, wordsR, ne_eq, wS_regionP, aAppend_slF, aAppend_slN, aSlice_fslH, setL_cons, setL_nil, aMakeMap_new, wordsM, aNil_ptr, aNil_fptr, Int.one_mul, bls_len, ints_len, cells_bl, one_bl, box_bl, List.length_replicate, words, Nat.reduceAdd, Nat.reduceEqDiff, Nat.reduceBEq, ↓reduceIte, reduceCtorEq, SX.exit.injEq, if_true, if_false, Int.reduceAdd, Int.reduceSub, Int.reduceMul, Int.reduceLT, Int.reduceLE, Int.reduceEq, Int.reduceNe, Int.reduceNeg, Int.reduceToNat, Nat.reduceMul, Nat.reduceLT, Nat.reduceSub, Nat.reduceLeDiff]
    exact ⟨.inr trivial, rfl⟩
theorem law5_in (d0 : tyTask.D) (d1 : (Ty.int .i64).D) (h0 : tyTask.wf d0) (h1 : (Ty.int .i64).wf d1) :
    W2 Try.prog ⟨s5.n, 0⟩ s5.body (fun e B => (e = .normal ∨ e = .ret) ∧ resV B.T B.h s5.res = some [.bool true]) ⟨argT 0 [tyTask.val d0, (Ty.int .i64).val d1], .e⟩ := by
  obtain ⟨t, ht, e0⟩ := tsk_in h0
  rw [e0]
  exact law5 t ht d1 (i64_wf h1)
end Go.AM.SE
