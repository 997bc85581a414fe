/- A part of the proof of SynthesisResultsSaid: lemmas on the way (AmEo, AmEp, AmEr, AmEs, AmEq, AmEt, AmEu, AmEv, AmEw, AmEx, AmEy, AmEz). Conditions: none of ours. -/
import Derived.Test.YtnfcjlgmkjiehaaAmZ8
set_option linter.unusedSectionVars false
namespace Go.AM.SE
open Go.Proofs Go.AM.SD
set_option maxRecDepth 100000
set_option linter.unusedSimpArgs false
set_option linter.unusedVariables false
def u8s (l : List Nat) : List AV := l.map fun x : Nat => .int .u8 (x : Int)
theorem noRefs_u8 (l : List Nat) : noRefs (u8s l) = true := noRefs_mapS (fun _ => rfl) l
theorem get_u8 {l : List Nat} {i x : Nat} (h : l[i]? = some x) : (u8s l)[i]? = some (.int .u8 (x : Int)) := by simp [u8s, h]
def gEd (al : List Nat) (n : Nat) (T : List Nat) (i k : Nat) : Option Ed := if T.getD (i * 5 + k) 0 % (n + 2) < n then some (i, al.getD k 0, T.getD (i * 5 + k) 0 % (n + 2)) else none
def gRow (al : List Nat) (n : Nat) (T : List Nat) (i k : Nat) : List Ed := (List.range k).filterMap (gEd al n T i)
def gPre (al : List Nat) (n : Nat) (T : List Nat) (i : Nat) : List Ed := (List.range i).flatMap fun i => gRow al n T i al.length
def gPart (al : List Nat) (n : Nat) (T : List Nat) (i k : Nat) : List Ed := gPre al n T i ++ gRow al n T i k
def gRaw (al : List Nat) (st mk : Nat) (T : List Nat) : Aut := if 250 ≤ st then ⟨al, 0, [], []⟩ else ⟨al, 1 + st % 5, SD.part (1 + st % 5) mk, gPre al (1 + st % 5) T (1 + st % 5)⟩
theorem gRow_mem {al : List Nat} {n : Nat} {T : List Nat} {i k : Nat} {e : Ed} (h : e ∈ gRow al n T i k) : e.1 = i ∧ e.2.2 < n := by
  unfold gRow at h
  obtain ⟨j, _, hj⟩ := List.mem_filterMap.1 h
  unfold gEd at hj
  split at hj
  · rename_i h1; cases hj; exact ⟨rfl, h1⟩
  · cases hj
theorem gRow_succ {al : List Nat} {n : Nat} {T : List Nat} {i k : Nat} : gRow al n T i (k + 1) = gRow al n T i k ++ match gEd al n T i k with | some e => [e] | none => [] := by
  unfold gRow
  rw [List.range_succ, List.filterMap_append]
  congr 1
  cases e : gEd al n T i k <;> simp [e]
theorem gRow_len {al : List Nat} {n : Nat} {T : List Nat} {i k : Nat} : (gRow al n T i k).length ≤ k := by
  unfold gRow; exact Nat.le_trans (List.length_filterMap_le _ _) (by simp)
theorem gPre_len {al : List Nat} {n : Nat} {T : List Nat} (hal : al.length ≤ 5) : ∀ i, (gPre al n T i).length ≤ i * 5
  | 0 => by simp [gPre]
  | i + 1 => by
    have h1 := gPre_len (n := n) (T := T) hal i
    have h2 := @gRow_len al n T i al.length
    unfold gPre at h1 ⊢
    rw [List.range_succ, List.flatMap_append, List.length_append, Nat.succ_mul, List.flatMap_cons, List.flatMap_nil, List.append_nil]
    omega
theorem gPre_succ {al : List Nat} {n : Nat} {T : List Nat} {i : Nat} : gPre al n T (i + 1) = gPart al n T i al.length := by
  unfold gPart gPre
  rw [List.range_succ, List.flatMap_append, List.flatMap_cons, List.flatMap_nil, List.append_nil]
theorem gRaw_raw {al : List Nat} {st mk : Nat} {T : List Nat} (hal : al.length ≤ 5) : Raw (gRaw al st mk T) := by
  unfold gRaw
  split
  · exact ⟨by simp, by simp, by simp, by dsimp only; omega, by simp⟩
  · have h5 : 1 + st % 5 ≤ 5 := by omega
    refine ⟨fun e he => ?_, h5, ?_, by dsimp only; omega, ?_⟩
    · unfold gPre at he
      obtain ⟨i, hi, he⟩ := List.mem_flatMap.1 he
      have := List.mem_range.1 hi
      obtain ⟨h1, h2⟩ := gRow_mem he
      exact ⟨by rw [h1]; exact this, h2⟩
    · have := gPre_len (n := 1 + st % 5) (T := T) hal (1 + st % 5)
      dsimp only; omega
    · have := @part_len (1 + st % 5) mk
      dsimp only; omega
def mkA (al : List Nat) (st mk : Nat) (T : List Nat) : Aut := canon (gRaw al st mk T)
theorem mkA_wf {al : List Nat} {st mk : Nat} {T : List Nat} (hs : al.Pairwise (· < ·)) (h5 : ∀ x ∈ al, x < 5) : WfA (mkA al st mk T) := by
  have hal : al.length ≤ 5 := sorted_len hs h5
  have hr := gRaw_raw (st := st) (mk := mk) (T := T) hal
  have ha : (gRaw al st mk T).al = al := by unfold gRaw; split <;> rfl
  exact canon_wf (by rw [ha]; exact hs) (by rw [ha]; exact h5) hr.n5 hr.esn
abbrev grV (st mk : Nat) (T : List Nat) : AV := .agg (.int .u8 (st : Int) :: .int .u8 (mk : Int) :: u8s T)
theorem _root_.Go.AM.au9 {p : Prop} (h : p := by repeat' (first | exact RB.nil | (refine RnL.same ?_; first | rfl | (simp only [noRef, noRefs, noRefs_append, Bool.and_self, Bool.and_true, Bool.true_and, noRefs_ints, noRefs_u8, noRefs_eg, noRefs_ed, noRefs_rm, noRefs_ls, noRefs_bk, noRefs_bls, noRef_sli, noRef_sliN, noRef_egs, noRef_egsN, noRefs_keysI, noRefs_back, noRefs_rowE]; done)) | exact RnM.keyM rfl | exact RnL.nil | exact (True.intro : RnM _ _ _ [] []) | refine RnL.cons ?_ ?_ | (refine Rn.same ?_; first | rfl | (simp only [noRef, noRefs, noRefs_append, Bool.and_self, Bool.and_true, Bool.true_and, noRefs_ints, noRefs_u8, noRefs_eg, noRefs_ed, noRefs_rm, noRefs_ls, noRefs_bk, noRefs_bls, noRef_sli, noRef_sliN, noRef_egs, noRef_egsN, noRefs_keysI, noRefs_back, noRefs_rowE]; done)) | exact Rn.x1 rfl rfl | exact Rn.x2 rfl rfl | exact Rn.x3 rfl rfl | exact Rn.x4 rfl rfl | exact Rn.x5 rfl | exact Rn.x6 rfl | exact Rn.x7 rfl | refine RB.newnil rfl rfl ?_ | refine RB.cells rfl rfl rfl ?_ ?_ | refine RB.map rfl rfl rfl ?_ ?_ | refine RB.cellsB rfl rfl ?_ ?_ | refine RB.mapB rfl rfl ?_ ?_)) : p := h
theorem _root_.Go.AM.au10 {p : Prop} (h : p := by repeat (first | exact RT.nil | (refine RT.cons ?_ ?_; · (first | exact Rn.any | exact Rn.x1 rfl rfl | exact Rn.x2 rfl rfl | exact Rn.x3 rfl rfl | exact Rn.x4 rfl rfl | exact Rn.x5 rfl | exact Rn.x6 rfl | exact Rn.x7 rfl | (refine Rn.slot ?_ ?_; (first | rfl | (rw [Int.natCast_add]; rfl)); (first | rfl | (simp only [noRef, noRefs, noRefs_append, Bool.and_self, Bool.and_true, Bool.true_and, noRefs_ints, noRefs_u8, noRefs_eg, noRefs_ed, noRefs_rm, noRefs_ls, noRefs_bk, noRefs_bls, noRef_sli, noRef_sliN, noRef_egs, noRef_egsN, noRefs_keysI, noRefs_back, noRefs_rowE]; done))) | (refine Rn.fn ?_ ?_ <;> (repeat' (first | exact RnL.nil | refine RnL.cons ?_ ?_ | exact Rn.same rfl | exact Rn.x6 rfl | exact Rn.x2 rfl rfl | exact Rn.x5 rfl | exact Rn.x1 rfl rfl))))))) : p := h
set_option maxHeartbeats 32000000 in
theorem Make32 (al : List Nat) (st mk : Nat) (T : List Nat) (hs : al.Pairwise (· < ·)) (h5 : ∀ x ∈ al, x < 5) (hst : st < 256) (hmk : mk < 256) (hT : T.length = 25) (hT8 : ∀ x ∈ T, x < 256) :
    PSpec Try.prog 32 [sliN al, grV st mk T] (aV (mkA al st mk T)) := by
  have hal : al.length ≤ 5 := sorted_len hs h5
  have hlu : (u8s T).length = 25 := by simp [u8s, hT]
  have hcan := canon46 (gRaw al st mk T) (gRaw_raw hal)
  refine PSpec.of_rn 40 ok32 rfl (by (try simp only [noRefs, noRefs_u8, noRefs_keysI, noRefs_back, noRefs_ints, noRefs_eg, noRefs_ed, noRefs_rm, noRefs_ls, noRefs_bls, noRef, Bool.and_self, Bool.and_true]) <;> rfl) (noRef_aV _) ?_
  unfold mkA
  by_cases h0 : 250 ≤ st
  · have h0' : (250 : Int) ≤ (st : Int) := by omega
    have hr : gRaw al st mk T = ⟨al, 0, [], []⟩ := if_pos h0
    have hc : canon (gRaw al st mk T) = ⟨al, 0, [], []⟩ := by rw [hr]; rfl
    rw [hc]
    simp (maxSteps := 1000000) (disch := first | omega | exact PairsOK.mk rfl | (simp only [lenW] <;> omega)) only [s32, h0', Int.reduceGT, ne_eq, List.length_replicate, wD, Nat.reduceAdd, Nat.reduceEqDiff, Nat.reduceBEq, ↓reduceIte, reduceCtorEq, SX.exit.injEq, if_true, if_false, Int.reduceAdd, Int.reduceSub, Int.reduceMul, Int.reduceLT, Int.reduceLE, Int.reduceEq, Int.reduceNe, Int.reduceNeg, Int.reduceToNat, Nat.reduceMul, Nat.reduceLT, Nat.reduceSub, Nat.reduceLeDiff]
    refine cp (empty45 al (by omega)) ?_
    simp (maxSteps := 1000000) (disch := first | omega | exact PairsOK.mk rfl | (simp only [lenW] <;> omega)) only [Int.reduceGT, ne_eq, List.length_replicate, wD, Nat.reduceAdd, Nat.reduceEqDiff, Nat.reduceBEq, ↓reduceIte, reduceCtorEq, SX.exit.injEq, if_true, if_false, Int.reduceAdd, Int.reduceSub, Int.reduceMul, Int.reduceLT, Int.reduceLE, Int.reduceEq, Int.reduceNe, Int.reduceNeg, Int.reduceToNat, Nat.reduceMul, Nat.reduceLT, Nat.reduceSub, Nat.reduceLeDiff]
    refine ⟨.inr trivial, _, rfl, ?_⟩
    exact Rn.agg (RnL.cons (Rn.same (noRef_sliN _)) (RnL.cons (Rn.same rfl) (RnL.cons Rn.nilK (RnL.cons Rn.nilK RnL.nil))))
  have h0' : ¬ (250 : Int) ≤ (st : Int) := by omega
  have hr : gRaw al st mk T = ⟨al, 1 + st % 5, SD.part (1 + st % 5) mk, gPre al (1 + st % 5) T (1 + st % 5)⟩ := if_neg h0
  rw [hr] at hcan ⊢
  have hn5 : 1 + st % 5 ≤ 5 := by omega
  obtain ⟨n, hN⟩ : ∃ n, n = 1 + st % 5 := ⟨_, rfl⟩
  rw [← hN] at hr hcan hn5 ⊢
  have hnn : (1 : Int) + ((st % 5 : Nat) : Int) = (n : Int) := by omega
  simp (maxSteps := 1000000) (disch := first | omega | exact PairsOK.mk rfl | (simp only [lenW] <;> omega)) only [s32, h0', Int.reduceGT, ne_eq, List.length_replicate, wD, Nat.reduceAdd, Nat.reduceEqDiff, Nat.reduceBEq, ↓reduceIte, reduceCtorEq, SX.exit.injEq, if_true, if_false, Int.reduceAdd, Int.reduceSub, Int.reduceMul, Int.reduceLT, Int.reduceLE, Int.reduceEq, Int.reduceNe, Int.reduceNeg, Int.reduceToNat, Nat.reduceMul, Nat.reduceLT, Nat.reduceSub, Nat.reduceLeDiff]
  refine cp (empty45 al (by omega)) ?_
  have htm : (st : Int).tmod 5 = ((st % 5 : Nat) : Int) := by
    rw [Int.tmod_eq_emod_of_nonneg (Int.natCast_nonneg _)]; norm_cast
  simp (maxSteps := 1000000) (disch := first | omega | exact PairsOK.mk rfl | (simp only [lenW] <;> omega)) only [htm, hnn, Int.reduceGT, ne_eq, List.length_replicate, wD, Nat.reduceAdd, Nat.reduceEqDiff, Nat.reduceBEq, ↓reduceIte, reduceCtorEq, SX.exit.injEq, if_true, if_false, Int.reduceAdd, Int.reduceSub, Int.reduceMul, Int.reduceLT, Int.reduceLE, Int.reduceEq, Int.reduceNe, Int.reduceNeg, Int.reduceToNat, Nat.reduceMul, Nat.reduceLT, Nat.reduceSub, Nat.reduceLeDiff]
  refine wS_loopX 100 (fun i : Nat => [(0, sliN al), (3, .ptr 50 0 0), (4, .ptr 51 0 0), (5, .ptr 52 0 0), (6, .int .i64 i)])
    (fun i => [(50, .cells 0 (.int .u8 (st : Int) :: .int .u8 (mk : Int) :: u8s T)), (51, .cells 0 [.nilsl, .int .i64 0, .nilsl, .nilsl]), (52, .cells 0 [sliN al, .int .i64 (n : Int), .sl 77 0 0 (SD.part i mk).length 1, .sl 76 0 0 (gPre al n T i).length 3]), (76, .cells 0 ((gPre al n T i).flatMap edC)), (77, .cells 0 (ints (nz (SD.part i mk))))])
    (fun i => i ≤ n) (fun i => n - i) 0 0 160
    (fun _ : Unit => [(4, .ptr 51 0 0), (5, .ptr 52 0 0)])
    (fun _ => [(51, .cells 0 [.nilsl, .int .i64 0, .nilsl, .nilsl]), (52, .cells 0 [sliN al, .int .i64 (n : Int), sliN (SD.part n mk), egsN (gPre al n T n)])]) (fun _ => True) ?_ (Nat.zero_le _) ?_ ?_
  · exact ⟨[(50, .blk 40 0), (51, .blk 41 0), (52, .blk 47 0), (76, .nil), (77, .nil)], rfl, au0, au9, au10⟩
  · rintro i hi
    by_cases hlt : i < n
    · have hpt := part_take (n := n) (b := mk) (i := i)
      have hpl := @part_len i mk
      have hgl := gPre_len (n := n) (T := T) hal i
      have hg0 : gPart al n T i 0 = gPre al n T i := by simp [gPart, gRow]
      have hgs := gPre_succ (al := al) (n := n) (T := T) (i := i)
      have hed0 := ed_len (gPre al n T i)
      generalize hM1 : SD.part (i + 1) mk = M1 at *
      generalize hM : SD.part i mk = M at *
      by_cases hmv : mk.testBit i = true
      · rw [if_pos hmv] at hpt
        have hb := bit_iff.2 hmv
        simp (maxSteps := 1000000) (disch := first | omega | exact PairsOK.mk rfl | (simp only [lenW] <;> omega)) only [hlt, aBin_shrN (k := .u8) (show i ≤ 8 by omega), aBin_and8, hb, Int.reduceGT, ne_eq, List.length_replicate, wD, Nat.reduceAdd, Nat.reduceEqDiff, Nat.reduceBEq, ↓reduceIte, reduceCtorEq, SX.exit.injEq, if_true, if_false, Int.reduceAdd, Int.reduceSub, Int.reduceMul, Int.reduceLT, Int.reduceLE, Int.reduceEq, Int.reduceNe, Int.reduceNeg, Int.reduceToNat, Nat.reduceMul, Nat.reduceLT, Nat.reduceSub, Nat.reduceLeDiff]
        refine wS_loopX 300 (fun k : Nat => [(0, sliN al), (3, .ptr 50 0 0), (4, .ptr 51 0 0), (5, .ptr 52 0 0), (6, .int .i64 i), (7, .int .i64 k)])
          (fun k => [(50, .cells 0 (.int .u8 (st : Int) :: .int .u8 (mk : Int) :: u8s T)), (51, .cells 0 [.nilsl, .int .i64 0, .nilsl, .nilsl]), (52, .cells 0 [sliN al, .int .i64 (n : Int), .sl 77 0 0 M1.length 1, .sl 76 0 0 (gPart al n T i k).length 3]), (76, .cells 0 ((gPart al n T i k).flatMap edC)), (77, .cells 0 (ints (nz M1)))])
          (fun k => k ≤ al.length) (fun k => al.length - k) 0 2 400
          (fun _ : Unit => [(0, sliN al), (3, .ptr 50 0 0), (4, .ptr 51 0 0), (5, .ptr 52 0 0), (6, .int .i64 i)])
          (fun _ => [(50, .cells 0 (.int .u8 (st : Int) :: .int .u8 (mk : Int) :: u8s T)), (51, .cells 0 [.nilsl, .int .i64 0, .nilsl, .nilsl]), (52, .cells 0 [sliN al, .int .i64 (n : Int), .sl 77 0 0 M1.length 1, .sl 76 0 0 (gPre al n T (i + 1)).length 3]), (76, .cells 0 ((gPre al n T (i + 1)).flatMap edC)), (77, .cells 0 (ints (nz M1)))]) (fun _ => True) ?_ (Nat.zero_le _) ?_ ?_
        · rw [hg0, hpt, List.length_append, nz_append, ints_append]
          exact ⟨[(50, .blk 50 0), (51, .blk 51 0), (52, .blk 52 0), (76, .blk 76 0), (77, .blk 77 1)], rfl, au0, au9, au10⟩
        · rintro k hk
          by_cases hkl : k < al.length
          · obtain ⟨ev, hev⟩ := get_ex hkl
            have hevD : al.getD k 0 = ev := by rw [List.getD_eq_getElem?_getD, hev]; rfl
            obtain ⟨x, hx⟩ := get_ex (l := T) (i := i * 5 + k) (by omega)
            have hxD : T.getD (i * 5 + k) 0 = x := by rw [List.getD_eq_getElem?_getD, hx]; rfl
            have hx8 := hT8 x (List.mem_of_getElem? hx)
            have hk5 : (k : Int) < 5 := by omega
            have hi5 : (i : Int) < 5 := by omega
            have hgx : (AV.int .u8 (st : Int) :: AV.int .u8 (mk : Int) :: u8s T)[2 + i * 5 + k]? = some (.int .u8 (x : Int)) := by
              rw [show 2 + i * 5 + k = (i * 5 + k) + 2 by omega]
              simpa using get_u8 hx
            have hrm : (x : Int).tmod ((n : Int) + 2) = ((x % (n + 2) : Nat) : Int) := by
              rw [Int.tmod_eq_emod_of_nonneg (Int.natCast_nonneg _)]; norm_cast
            have hn0 : ¬ (n : Int) + 2 = 0 := by omega
            have hxm : x % (n + 2) ≤ 10 := by have := Nat.mod_lt x (show 0 < n + 2 by omega); omega
            have hst := gRow_succ (al := al) (n := n) (T := T) (i := i) (k := k)
            have hrl := @gRow_len al n T i k
            have hps : gPart al n T i (k + 1) = gPart al n T i k ++ match gEd al n T i k with | some e => [e] | none => [] := by
              unfold gPart; rw [hst, List.append_assoc]
            have hpl2 : (gPart al n T i k).length ≤ 100 := by unfold gPart; rw [List.length_append]; omega
            have hpe := ed_len (gPart al n T i k)
            unfold gEd at hps
            rw [hxD, hevD] at hps
            generalize gPart al n T i k = R at *
            by_cases ht : x % (n + 2) < n
            · rw [if_pos ht] at hps
              simp (maxSteps := 1000000) (disch := first | omega | exact PairsOK.mk rfl | (simp only [lenW] <;> omega)) only [hkl, hk5, hi5, hgx, hn0, hrm, ht, head_nz hev, hpe, Int.reduceGT, ne_eq, List.length_replicate, wD, Nat.reduceAdd, Nat.reduceEqDiff, Nat.reduceBEq, ↓reduceIte, reduceCtorEq, SX.exit.injEq, if_true, if_false, Int.reduceAdd, Int.reduceSub, Int.reduceMul, Int.reduceLT, Int.reduceLE, Int.reduceEq, Int.reduceNe, Int.reduceNeg, Int.reduceToNat, Nat.reduceMul, Nat.reduceLT, Nat.reduceSub, Nat.reduceLeDiff]
              refine ⟨k + 1, by omega, by omega, ?_⟩
              rw [hps, List.flatMap_append, List.length_append]
              exact ⟨[(50, .blk 50 0), (51, .blk 51 0), (52, .blk 52 0), (76, .blk 76 1), (77, .blk 77 0)], rfl, au0, au9, au10⟩
            · rw [if_neg ht, List.append_nil] at hps
              simp (maxSteps := 1000000) (disch := first | omega | exact PairsOK.mk rfl | (simp only [lenW] <;> omega)) only [hkl, hk5, hi5, hgx, hn0, hrm, ht, Int.reduceGT, ne_eq, List.length_replicate, wD, Nat.reduceAdd, Nat.reduceEqDiff, Nat.reduceBEq, ↓reduceIte, reduceCtorEq, SX.exit.injEq, if_true, if_false, Int.reduceAdd, Int.reduceSub, Int.reduceMul, Int.reduceLT, Int.reduceLE, Int.reduceEq, Int.reduceNe, Int.reduceNeg, Int.reduceToNat, Nat.reduceMul, Nat.reduceLT, Nat.reduceSub, Nat.reduceLeDiff]
              refine ⟨k + 1, by omega, by omega, ?_⟩
              rw [hps]
              exact ⟨[(50, .blk 50 0), (51, .blk 51 0), (52, .blk 52 0), (76, .blk 76 0), (77, .blk 77 0)], rfl, au0, au9, au10⟩
          · have e : k = al.length := by omega
            subst e
            simp (maxSteps := 1000000) (disch := first | omega | exact PairsOK.mk rfl | (simp only [lenW] <;> omega)) only [hkl, Int.reduceGT, ne_eq, List.length_replicate, wD, Nat.reduceAdd, Nat.reduceEqDiff, Nat.reduceBEq, ↓reduceIte, reduceCtorEq, SX.exit.injEq, if_true, if_false, Int.reduceAdd, Int.reduceSub, Int.reduceMul, Int.reduceLT, Int.reduceLE, Int.reduceEq, Int.reduceNe, Int.reduceNeg, Int.reduceToNat, Nat.reduceMul, Nat.reduceLT, Nat.reduceSub, Nat.reduceLeDiff]
            refine ⟨(), ?_⟩
            rw [hgs]
            exact ⟨[(50, .blk 50 0), (51, .blk 51 0), (52, .blk 52 0), (76, .blk 76 0), (77, .blk 77 0)], rfl, au0, au9, au10⟩
        rintro _ _
        simp (maxSteps := 1000000) (disch := first | omega | exact PairsOK.mk rfl | (simp only [lenW] <;> omega)) only [Int.reduceGT, ne_eq, List.length_replicate, wD, Nat.reduceAdd, Nat.reduceEqDiff, Nat.reduceBEq, ↓reduceIte, reduceCtorEq, SX.exit.injEq, if_true, if_false, Int.reduceAdd, Int.reduceSub, Int.reduceMul, Int.reduceLT, Int.reduceLE, Int.reduceEq, Int.reduceNe, Int.reduceNeg, Int.reduceToNat, Nat.reduceMul, Nat.reduceLT, Nat.reduceSub, Nat.reduceLeDiff]
        refine ⟨i + 1, by omega, by omega, ?_⟩
        rw [hM1]
        exact ⟨[(50, .blk 50 0), (51, .blk 51 0), (52, .blk 52 0), (76, .blk 76 0), (77, .blk 77 0)], rfl, au0, au9, au10⟩
      · rw [if_neg hmv, List.append_nil] at hpt
        have hb : ¬ ((mk / 2 ^ i % 2 : Nat) : Int) = 1 := fun e => hmv (bit_iff.1 e)
        simp (maxSteps := 1000000) (disch := first | omega | exact PairsOK.mk rfl | (simp only [lenW] <;> omega)) only [hlt, aBin_shrN (k := .u8) (show i ≤ 8 by omega), aBin_and8, hb, Int.reduceGT, ne_eq, List.length_replicate, wD, Nat.reduceAdd, Nat.reduceEqDiff, Nat.reduceBEq, ↓reduceIte, reduceCtorEq, SX.exit.injEq, if_true, if_false, Int.reduceAdd, Int.reduceSub, Int.reduceMul, Int.reduceLT, Int.reduceLE, Int.reduceEq, Int.reduceNe, Int.reduceNeg, Int.reduceToNat, Nat.reduceMul, Nat.reduceLT, Nat.reduceSub, Nat.reduceLeDiff]
        refine wS_loopX 300 (fun k : Nat => [(0, sliN al), (3, .ptr 50 0 0), (4, .ptr 51 0 0), (5, .ptr 52 0 0), (6, .int .i64 i), (7, .int .i64 k)])
          (fun k => [(50, .cells 0 (.int .u8 (st : Int) :: .int .u8 (mk : Int) :: u8s T)), (51, .cells 0 [.nilsl, .int .i64 0, .nilsl, .nilsl]), (52, .cells 0 [sliN al, .int .i64 (n : Int), .sl 77 0 0 M1.length 1, .sl 76 0 0 (gPart al n T i k).length 3]), (76, .cells 0 ((gPart al n T i k).flatMap edC)), (77, .cells 0 (ints (nz M1)))])
          (fun k => k ≤ al.length) (fun k => al.length - k) 0 2 400
          (fun _ : Unit => [(0, sliN al), (3, .ptr 50 0 0), (4, .ptr 51 0 0), (5, .ptr 52 0 0), (6, .int .i64 i)])
          (fun _ => [(50, .cells 0 (.int .u8 (st : Int) :: .int .u8 (mk : Int) :: u8s T)), (51, .cells 0 [.nilsl, .int .i64 0, .nilsl, .nilsl]), (52, .cells 0 [sliN al, .int .i64 (n : Int), .sl 77 0 0 M1.length 1, .sl 76 0 0 (gPre al n T (i + 1)).length 3]), (76, .cells 0 ((gPre al n T (i + 1)).flatMap edC)), (77, .cells 0 (ints (nz M1)))]) (fun _ => True) ?_ (Nat.zero_le _) ?_ ?_
        · rw [hg0, hpt]
          exact ⟨[(50, .blk 50 0), (51, .blk 51 0), (52, .blk 52 0), (76, .blk 76 0), (77, .blk 77 0)], rfl, au0, au9, au10⟩
        · rintro k hk
          by_cases hkl : k < al.length
          · obtain ⟨ev, hev⟩ := get_ex hkl
            have hevD : al.getD k 0 = ev := by rw [List.getD_eq_getElem?_getD, hev]; rfl
            obtain ⟨x, hx⟩ := get_ex (l := T) (i := i * 5 + k) (by omega)
            have hxD : T.getD (i * 5 + k) 0 = x := by rw [List.getD_eq_getElem?_getD, hx]; rfl
            have hx8 := hT8 x (List.mem_of_getElem? hx)
            have hk5 : (k : Int) < 5 := by omega
            have hi5 : (i : Int) < 5 := by omega
            have hgx : (AV.int .u8 (st : Int) :: AV.int .u8 (mk : Int) :: u8s T)[2 + i * 5 + k]? = some (.int .u8 (x : Int)) := by
              rw [show 2 + i * 5 + k = (i * 5 + k) + 2 by omega]
              simpa using get_u8 hx
            have hrm : (x : Int).tmod ((n : Int) + 2) = ((x % (n + 2) : Nat) : Int) := by
              rw [Int.tmod_eq_emod_of_nonneg (Int.natCast_nonneg _)]; norm_cast
            have hn0 : ¬ (n : Int) + 2 = 0 := by omega
            have hxm : x % (n + 2) ≤ 10 := by have := Nat.mod_lt x (show 0 < n + 2 by omega); omega
            have hst := gRow_succ (al := al) (n := n) (T := T) (i := i) (k := k)
            have hrl := @gRow_len al n T i k
            have hps : gPart al n T i (k + 1) = gPart al n T i k ++ match gEd al n T i k with | some e => [e] | none => [] := by
              unfold gPart; rw [hst, List.append_assoc]
            have hpl2 : (gPart al n T i k).length ≤ 100 := by unfold gPart; rw [List.length_append]; omega
            have hpe := ed_len (gPart al n T i k)
            unfold gEd at hps
            rw [hxD, hevD] at hps
            generalize gPart al n T i k = R at *
            by_cases ht : x % (n + 2) < n
            · rw [if_pos ht] at hps
              simp (maxSteps := 1000000) (disch := first | omega | exact PairsOK.mk rfl | (simp only [lenW] <;> omega)) only [hkl, hk5, hi5, hgx, hn0, hrm, ht, head_nz hev, hpe, Int.reduceGT, ne_eq, List.length_replicate, wD, Nat.reduceAdd, Nat.reduceEqDiff, Nat.reduceBEq, ↓reduceIte, reduceCtorEq, SX.exit.injEq, if_true, if_false, Int.reduceAdd, Int.reduceSub, Int.reduceMul, Int.reduceLT, Int.reduceLE, Int.reduceEq, Int.reduceNe, Int.reduceNeg, Int.reduceToNat, Nat.reduceMul, Nat.reduceLT, Nat.reduceSub, Nat.reduceLeDiff]
              refine ⟨k + 1, by omega, by omega, ?_⟩
              rw [hps, List.flatMap_append, List.length_append]
              exact ⟨[(50, .blk 50 0), (51, .blk 51 0), (52, .blk 52 0), (76, .blk 76 1), (77, .blk 77 0)], rfl, au0, au9, au10⟩
            · rw [if_neg ht, List.append_nil] at hps
              simp (maxSteps := 1000000) (disch := first | omega | exact PairsOK.mk rfl | (simp only [lenW] <;> omega)) only [hkl, hk5, hi5, hgx, hn0, hrm, ht, Int.reduceGT, ne_eq, List.length_replicate, wD, Nat.reduceAdd, Nat.reduceEqDiff, Nat.reduceBEq, ↓reduceIte, reduceCtorEq, SX.exit.injEq, if_true, if_false, Int.reduceAdd, Int.reduceSub, Int.reduceMul, Int.reduceLT, Int.reduceLE, Int.reduceEq, Int.reduceNe, Int.reduceNeg, Int.reduceToNat, Nat.reduceMul, Nat.reduceLT, Nat.reduceSub, Nat.reduceLeDiff]
              refine ⟨k + 1, by omega, by omega, ?_⟩
              rw [hps]
              exact ⟨[(50, .blk 50 0), (51, .blk 51 0), (52, .blk 52 0), (76, .blk 76 0), (77, .blk 77 0)], rfl, au0, au9, au10⟩
          · have e : k = al.length := by omega
            subst e
            simp (maxSteps := 1000000) (disch := first | omega | exact PairsOK.mk rfl | (simp only [lenW] <;> omega)) only [hkl, Int.reduceGT, ne_eq, List.length_replicate, wD, Nat.reduceAdd, Nat.reduceEqDiff, Nat.reduceBEq, ↓reduceIte, reduceCtorEq, SX.exit.injEq, if_true, if_false, Int.reduceAdd, Int.reduceSub, Int.reduceMul, Int.reduceLT, Int.reduceLE, Int.reduceEq, Int.reduceNe, Int.reduceNeg, Int.reduceToNat, Nat.reduceMul, Nat.reduceLT, Nat.reduceSub, Nat.reduceLeDiff]
            refine ⟨(), ?_⟩
            rw [hgs]
            exact ⟨[(50, .blk 50 0), (51, .blk 51 0), (52, .blk 52 0), (76, .blk 76 0), (77, .blk 77 0)], rfl, au0, au9, au10⟩
        rintro _ _
        simp (maxSteps := 1000000) (disch := first | omega | exact PairsOK.mk rfl | (simp only [lenW] <;> omega)) only [Int.reduceGT, ne_eq, List.length_replicate, wD, Nat.reduceAdd, Nat.reduceEqDiff, Nat.reduceBEq, ↓reduceIte, reduceCtorEq, SX.exit.injEq, if_true, if_false, Int.reduceAdd, Int.reduceSub, Int.reduceMul, Int.reduceLT, Int.reduceLE, Int.reduceEq, Int.reduceNe, Int.reduceNeg, Int.reduceToNat, Nat.reduceMul, Nat.reduceLT, Nat.reduceSub, Nat.reduceLeDiff]
        refine ⟨i + 1, by omega, by omega, ?_⟩
        rw [hM1]
        exact ⟨[(50, .blk 50 0), (51, .blk 51 0), (52, .blk 52 0), (76, .blk 76 0), (77, .blk 77 0)], rfl, au0, au9, au10⟩
    · have e : i = n := by omega
      subst e
      simp (maxSteps := 1000000) (disch := first | omega | exact PairsOK.mk rfl | (simp only [lenW] <;> omega)) only [hlt, Int.reduceGT, ne_eq, List.length_replicate, wD, Nat.reduceAdd, Nat.reduceEqDiff, Nat.reduceBEq, ↓reduceIte, reduceCtorEq, SX.exit.injEq, if_true, if_false, Int.reduceAdd, Int.reduceSub, Int.reduceMul, Int.reduceLT, Int.reduceLE, Int.reduceEq, Int.reduceNe, Int.reduceNeg, Int.reduceToNat, Nat.reduceMul, Nat.reduceLT, Nat.reduceSub, Nat.reduceLeDiff]
      refine ⟨(), [(51, .blk 51 0), (52, .blk 52 0)], rfl, RO.zero, ?_, au10⟩
      refine RB.cells rfl rfl rfl (RnL.same rfl) (RB.cells rfl rfl rfl (RnL.cons (Rn.same (noRef_sliN _)) (RnL.cons (Rn.same rfl) (RnL.cons (Rn.fzm rfl rfl rfl rfl (by simp [ints]) (RnL.same (noRefs_ints _))) (RnL.cons (Rn.fzm rfl rfl rfl rfl (ed_len _) (RnL.same (noRefs_ed _))) RnL.nil)))) RB.nil)
  rintro _ _
  simp (maxSteps := 1000000) (disch := first | omega | exact PairsOK.mk rfl | (simp only [lenW] <;> omega)) only [Int.reduceGT, ne_eq, List.length_replicate, wD, Nat.reduceAdd, Nat.reduceEqDiff, Nat.reduceBEq, ↓reduceIte, reduceCtorEq, SX.exit.injEq, if_true, if_false, Int.reduceAdd, Int.reduceSub, Int.reduceMul, Int.reduceLT, Int.reduceLE, Int.reduceEq, Int.reduceNe, Int.reduceNeg, Int.reduceToNat, Nat.reduceMul, Nat.reduceLT, Nat.reduceSub, Nat.reduceLeDiff]
  refine cp hcan ?_
  generalize canon ⟨al, n, SD.part n mk, gPre al n T n⟩ = C at *
  simp (maxSteps := 1000000) (disch := first | omega | exact PairsOK.mk rfl | (simp only [lenW] <;> omega)) only [Int.reduceGT, ne_eq, List.length_replicate, wD, Nat.reduceAdd, Nat.reduceEqDiff, Nat.reduceBEq, ↓reduceIte, reduceCtorEq, SX.exit.injEq, if_true, if_false, Int.reduceAdd, Int.reduceSub, Int.reduceMul, Int.reduceLT, Int.reduceLE, Int.reduceEq, Int.reduceNe, Int.reduceNeg, Int.reduceToNat, Nat.reduceMul, Nat.reduceLT, Nat.reduceSub, Nat.reduceLeDiff]
  exact ⟨.inr trivial, _, rfl, Rn.same (noRef_aV _)⟩
end Go.AM.SE
namespace Go.AM.SE
open Go.Proofs Go.AM.SD
set_option maxRecDepth 100000
set_option linter.unusedSimpArgs false
set_option linter.unusedVariables false
structure Tsk where
  set : Nat
  st : Nat
  mr : Nat
  T : List Nat
  fb : Nat
  un : Nat
structure TOk (t : Tsk) : Prop where
  set : t.set < 256
  st : t.st < 256
  mr : t.mr < 256
  T : t.T.length = 25
  T8 : ∀ x ∈ t.T, x < 256
  fb : t.fb < 4294967296
  un : t.un < 256
abbrev tskV (t : Tsk) : AV := .agg (.int .u8 (t.set : Int) :: .int .u8 (t.st : Int) :: .int .u8 (t.mr : Int) :: (u8s t.T ++ [.int .u32 (t.fb : Int), .int .u8 (t.un : Int)]))
def tA (t : Tsk) : Aut := mkA (SD.part 5 t.set) t.st t.mr t.T
def tF (t : Tsk) : List Nat := SD.part (tA t).n t.fb
def tU (t : Tsk) : List Nat := SD.part 5 t.un
theorem part_lt {n b : Nat} : ∀ x ∈ SD.part n b, x < n := fun x hx => (mem_part.1 hx).1
theorem tA_wf (t : Tsk) : WfA (tA t) := mkA_wf (part_sorted _ _) part_lt
theorem tA_el (t : Tsk) : (tA t).es.length ≤ 1000000 := by
  have h := tA_wf t
  have hr := gRaw_raw (al := SD.part 5 t.set) (st := t.st) (mk := t.mr) (T := t.T) (@part_len 5 t.set)
  have h1 := cPre_len (gRaw (SD.part 5 t.set) t.st t.mr t.T) (found (gRaw (SD.part 5 t.set) t.st t.mr t.T)) (found (gRaw (SD.part 5 t.set) t.st t.mr t.T)).length
  have h2 : (tA t).es.length = (cPre (gRaw (SD.part 5 t.set) t.st t.mr t.T) (found (gRaw (SD.part 5 t.set) t.st t.mr t.T)) (found (gRaw (SD.part 5 t.set) t.st t.mr t.T)).length).length := rfl
  have h3 : (found (gRaw (SD.part 5 t.set) t.st t.mr t.T)).length ≤ 5 := h.n5
  rw [h2]
  exact Nat.le_trans h1 (Nat.le_trans (Nat.mul_le_mul h3 hr.al) (by decide))
theorem tQ (t : Tsk) : QOk (tA t) (tF t) (tU t) := ⟨part_sorted _ _, part_lt, part_sorted _ _, fun x hx => by have := part_lt x hx; omega⟩
theorem noRef_tsk (t : Tsk) : noRef (tskV t) = true := by
  simp only [noRef, noRefs, noRefs_append, noRefs_u8]; rfl
theorem u8_drop {l : List Nat} {r : List AV} {k : Nat} (h : l.length = k) : (u8s l ++ r).take k = u8s l := by
  have : (u8s l).length = k := by simp [u8s, h]
  rw [List.take_append_of_le_length (by omega), ← this, List.take_length]
set_option maxHeartbeats 16000000 in
theorem open10 (t : Tsk) (h : TOk t) : PSpec Try.prog 10 [tskV t] (.tup [aV (tA t), sliN (tF t), sliN (tU t)]) := by
  have hlu : (u8s t.T).length = 25 := by simp [u8s, h.T]
  have hM := Make32 (SD.part 5 t.set) t.st t.mr t.T (part_sorted _ _) part_lt h.st h.mr h.T h.T8
  have hE := events16 t.set h.set
  have hE2 := events16 t.un h.un
  have hn5 := (tA_wf t).n5
  have hP := part12 (tA t).n t.fb (by omega) h.fb
  have ht := u8_drop (l := t.T) (r := [.int .u32 (t.fb : Int), .int .u8 (t.un : Int)]) h.T
  have g1 : (u8s t.T ++ [AV.int .u32 (t.fb : Int), .int .u8 (t.un : Int)])[25]? = some (.int .u32 (t.fb : Int)) := by rw [List.getElem?_append_right (by omega), hlu]; rfl
  have g2 : (u8s t.T ++ [AV.int .u32 (t.fb : Int), .int .u8 (t.un : Int)])[26]? = some (.int .u8 (t.un : Int)) := by rw [List.getElem?_append_right (by omega), hlu]; rfl
  refine PSpec.of_rn 40 ok10 rfl (by rw [noRefs, noRef_tsk]; rfl) (by simp only [noRef, noRefs, noRefs_ints, noRefs_ed]; rfl) ?_
  simp (maxSteps := 1000000) (disch := first | omega | exact PairsOK.mk rfl | (simp only [lenW] <;> omega)) only [s10, Int.reduceGT, ne_eq, List.length_replicate, wD, Nat.reduceAdd, Nat.reduceEqDiff, Nat.reduceBEq, ↓reduceIte, reduceCtorEq, SX.exit.injEq, if_true, if_false, Int.reduceAdd, Int.reduceSub, Int.reduceMul, Int.reduceLT, Int.reduceLE, Int.reduceEq, Int.reduceNe, Int.reduceNeg, Int.reduceToNat, Nat.reduceMul, Nat.reduceLT, Nat.reduceSub, Nat.reduceLeDiff]
  refine wS_regionH [] rfl (pairs_cons (a := []) (b := [50]) rfl rfl (fun x hx => by cases hx) (pairs_cons (a := []) (b := [50]) rfl rfl (fun x hx => by cases hx) pairs_nil)) ?_
  simp (maxSteps := 1000000) (disch := first | omega | exact PairsOK.mk rfl | (simp only [lenW] <;> omega)) only [Int.reduceGT, ne_eq, List.length_replicate, wD, Nat.reduceAdd, Nat.reduceEqDiff, Nat.reduceBEq, ↓reduceIte, reduceCtorEq, SX.exit.injEq, if_true, if_false, Int.reduceAdd, Int.reduceSub, Int.reduceMul, Int.reduceLT, Int.reduceLE, Int.reduceEq, Int.reduceNe, Int.reduceNeg, Int.reduceToNat, Nat.reduceMul, Nat.reduceLT, Nat.reduceSub, Nat.reduceLeDiff]
  refine cp hE ?_
  simp (maxSteps := 1000000) (disch := first | omega | exact PairsOK.mk rfl | (simp only [lenW] <;> omega)) only [hlu, ht, Int.reduceGT, ne_eq, List.length_replicate, wD, Nat.reduceAdd, Nat.reduceEqDiff, Nat.reduceBEq, ↓reduceIte, reduceCtorEq, SX.exit.injEq, if_true, if_false, Int.reduceAdd, Int.reduceSub, Int.reduceMul, Int.reduceLT, Int.reduceLE, Int.reduceEq, Int.reduceNe, Int.reduceNeg, Int.reduceToNat, Nat.reduceMul, Nat.reduceLT, Nat.reduceSub, Nat.reduceLeDiff]
  refine cp hM ?_
  have hA : mkA (SD.part 5 t.set) t.st t.mr t.T = tA t := rfl
  rw [hA]
  have hF : SD.part (tA t).n t.fb = tF t := rfl
  rw [hF] at hP
  have hU : SD.part 5 t.un = tU t := rfl
  rw [hU] at hE2
  generalize tA t = A at *
  generalize tF t = F at *
  generalize tU t = U at *
  simp (maxSteps := 1000000) (disch := first | omega | exact PairsOK.mk rfl | (simp only [lenW] <;> omega)) only [hlu, g1, g2, Int.reduceGT, ne_eq, List.length_replicate, wD, Nat.reduceAdd, Nat.reduceEqDiff, Nat.reduceBEq, ↓reduceIte, reduceCtorEq, SX.exit.injEq, if_true, if_false, Int.reduceAdd, Int.reduceSub, Int.reduceMul, Int.reduceLT, Int.reduceLE, Int.reduceEq, Int.reduceNe, Int.reduceNeg, Int.reduceToNat, Nat.reduceMul, Nat.reduceLT, Nat.reduceSub, Nat.reduceLeDiff]
  refine ⟨trivial, ?_⟩
  refine cp hP ?_
  simp (maxSteps := 1000000) (disch := first | omega | exact PairsOK.mk rfl | (simp only [lenW] <;> omega)) only [hlu, g1, g2, Int.reduceGT, ne_eq, List.length_replicate, wD, Nat.reduceAdd, Nat.reduceEqDiff, Nat.reduceBEq, ↓reduceIte, reduceCtorEq, SX.exit.injEq, if_true, if_false, Int.reduceAdd, Int.reduceSub, Int.reduceMul, Int.reduceLT, Int.reduceLE, Int.reduceEq, Int.reduceNe, Int.reduceNeg, Int.reduceToNat, Nat.reduceMul, Nat.reduceLT, Nat.reduceSub, Nat.reduceLeDiff]
  refine cp hE2 ?_
  simp (maxSteps := 1000000) (disch := first | omega | exact PairsOK.mk rfl | (simp only [lenW] <;> omega)) only [Int.reduceGT, ne_eq, List.length_replicate, wD, Nat.reduceAdd, Nat.reduceEqDiff, Nat.reduceBEq, ↓reduceIte, reduceCtorEq, SX.exit.injEq, if_true, if_false, Int.reduceAdd, Int.reduceSub, Int.reduceMul, Int.reduceLT, Int.reduceLE, Int.reduceEq, Int.reduceNe, Int.reduceNeg, Int.reduceToNat, Nat.reduceMul, Nat.reduceLT, Nat.reduceSub, Nat.reduceLeDiff]
  refine ⟨.inr trivial, _, rfl, ?_⟩
  exact Rn.same (by simp only [noRef, noRefs, noRefs_ints, noRefs_ed]; rfl)
end Go.AM.SE
namespace Go.AM.SE
open Go.Proofs Go.AM.SD
set_option maxRecDepth 100000
set_option linter.unusedSimpArgs false
set_option linter.unusedVariables false
abbrev blF (l : LB) (n : Nat) : AV := .fsl (bls l) n 1
def o0P (n : Nat) (mk : List Nat) (left : Nat → Bool) (i : Nat) : List Int := (List.range i).map (fun i => if left i && mk.contains i then 0 else -1) ++ List.replicate (n - i) 0
theorem o0P_len {n : Nat} {mk : List Nat} {left : Nat → Bool} {i : Nat} (h : i ≤ n) : (o0P n mk left i).length = n := by unfold o0P; simp; omega
theorem o0P_set {n : Nat} {mk : List Nat} {left : Nat → Bool} {i : Nat} (h : i < n) : (o0P n mk left i).set i (if left i && mk.contains i then 0 else -1) = o0P n mk left (i + 1) := by
  unfold o0P
  rw [List.set_append_right _ _ (by simp), List.length_map, List.length_range, Nat.sub_self, show n - i = (n - (i + 1)) + 1 by omega, List.replicate_succ, List.set_cons_zero, List.range_succ, List.map_append, List.append_assoc]; rfl
theorem o0P_end {n : Nat} {mk : List Nat} {left : Nat → Bool} : o0P n mk left n = o0 n mk left := by unfold o0P o0; simp
theorem rRd_take {es : List Ed} {left : Nat → Bool} {r i : Nat} {o : List Int} {e : Ed} (h : es[i]? = some e) : rRd (es.take (i + 1)) left r o = rEd left r (rRd (es.take i) left r o) e := by
  unfold rRd
  rw [List.take_add_one, h, Option.toList, List.foldl_append]; rfl
theorem rRd_len {left : Nat → Bool} {r : Nat} (es : List Ed) (o : List Int) : (rRd es left r o).1.length = o.length := by
  have key : ∀ (es : List Ed) (s : List Int × Bool), (es.foldl (rEd left r) s).1.length = s.1.length := by
    intro es
    induction es with
    | nil => intro s; rfl
    | cons e es ih =>
      intro s
      rw [List.foldl_cons, ih]
      unfold rEd; split <;> simp
  exact key es _
theorem cntN_le {n : Nat} {o : List Int} : cntN n o ≤ n := by unfold cntN; exact Nat.le_trans List.countP_le_length (by simp)
set_option maxHeartbeats 32000000 in
theorem dist33 (a : Aut) (l : LB) (hin : InN a.n a.es a.ms) (hl : l.length = a.n) (hn : a.n ≤ 4096) (hel : a.es.length ≤ 1000000) (hml : a.ms.length ≤ 1000000) :
    HSpec Try.prog 33 [aV a, blF l a.n] .e (.sl 84 0 0 a.n 1) (hp [(84, .cells 0 (ints (rDist a.es (lf l) (a.n + 1) 1 (o0 a.n a.ms (lf l)))))]) := by
  refine HSpec.of_new 100 ok33 rfl ?_
  have hn' : (a.n : Int) ≤ 1099511627776 := by omega
  have hn8 : (8 : Int) * a.n ≤ 1099511627776 := by omega
  simp (maxSteps := 1000000) (disch := first | omega | exact PairsOK.mk rfl | (simp only [lenW] <;> omega)) only [s33, hn', hn8, ints_rep, Int.reduceGT, ne_eq, List.length_replicate, wD, Nat.reduceAdd, Nat.reduceEqDiff, Nat.reduceBEq, ↓reduceIte, reduceCtorEq, SX.exit.injEq, if_true, if_false, Int.reduceAdd, Int.reduceSub, Int.reduceMul, Int.reduceLT, Int.reduceLE, Int.reduceEq, Int.reduceNe, Int.reduceNeg, Int.reduceToNat, Nat.reduceMul, Nat.reduceLT, Nat.reduceSub, Nat.reduceLeDiff]
  refine wS_loopX 120 (fun i : Nat => [(1, blF l a.n), (2, .ptr 50 0 0), (5, .sl 84 0 0 a.n 1), (6, .int .i64 i)])
    (fun i => [(50, .cells 0 [sliN a.al, .int .i64 (a.n : Int), sliN a.ms, egsN a.es]), (84, .cells 0 (ints (o0P a.n a.ms (lf l) i)))])
    (fun i => i ≤ a.n) (fun i => a.n - i) 0 0 160
    (fun _ : Unit => [(1, blF l a.n), (2, .ptr 50 0 0), (5, .sl 84 0 0 a.n 1)])
    (fun _ => [(50, .cells 0 [sliN a.al, .int .i64 (a.n : Int), sliN a.ms, egsN a.es]), (84, .cells 0 (ints (o0 a.n a.ms (lf l))))]) (fun _ => True) ?_ (Nat.zero_le _) ?_ ?_
  · have e : List.replicate a.n (0 : Int) = o0P a.n a.ms (lf l) 0 := by simp [o0P]
    rw [e]
    exact ⟨[(50, .blk 100 0), (84, .blk 104 0)], rfl, au0, au9, au10⟩
  · rintro i hi
    by_cases hlt : i < a.n
    · have hil : i < l.length := by omega
      have hol := o0P_len (mk := a.ms) (left := lf l) hi
      have hst := o0P_set (mk := a.ms) (left := lf l) hlt
      generalize o0P a.n a.ms (lf l) i = o at *
      have h1 : i + 1 ≤ o.length := by omega
      have hss : (o.set i (-1)).set i 0 = o.set i 0 := by rw [List.set_set]
      by_cases hli : lf l i = true
      · have hh := has15 (nz a.ms) i (by simp; omega)
        rw [mem_nz, sli_nz] at hh
        by_cases hc : a.ms.contains i = true
        · rw [hli, hc, if_pos (by rfl)] at hst
          rw [hc] at hh
          simp (maxSteps := 1000000) (disch := first | omega | exact PairsOK.mk rfl | (simp only [lenW] <;> omega)) only [hlt, h1, ints_set, head_bls hil, hli, Int.reduceGT, ne_eq, List.length_replicate, wD, Nat.reduceAdd, Nat.reduceEqDiff, Nat.reduceBEq, ↓reduceIte, reduceCtorEq, SX.exit.injEq, if_true, if_false, Int.reduceAdd, Int.reduceSub, Int.reduceMul, Int.reduceLT, Int.reduceLE, Int.reduceEq, Int.reduceNe, Int.reduceNeg, Int.reduceToNat, Nat.reduceMul, Nat.reduceLT, Nat.reduceSub, Nat.reduceLeDiff]
          refine cp hh ?_
          simp (maxSteps := 1000000) (disch := first | omega | exact PairsOK.mk rfl | (simp only [lenW] <;> omega)) only [hlt, h1, ints_set, hss, List.length_set, Int.reduceGT, ne_eq, List.length_replicate, wD, Nat.reduceAdd, Nat.reduceEqDiff, Nat.reduceBEq, ↓reduceIte, reduceCtorEq, SX.exit.injEq, if_true, if_false, Int.reduceAdd, Int.reduceSub, Int.reduceMul, Int.reduceLT, Int.reduceLE, Int.reduceEq, Int.reduceNe, Int.reduceNeg, Int.reduceToNat, Nat.reduceMul, Nat.reduceLT, Nat.reduceSub, Nat.reduceLeDiff]
          refine ⟨i + 1, by omega, by omega, ?_⟩
          rw [← hst]
          exact ⟨[(50, .blk 50 0), (84, .blk 84 0)], rfl, au0, au9, au10⟩
        · rw [Bool.not_eq_true] at hc
          rw [hli, hc, if_neg (by decide)] at hst
          rw [hc] at hh
          simp (maxSteps := 1000000) (disch := first | omega | exact PairsOK.mk rfl | (simp only [lenW] <;> omega)) only [hlt, h1, ints_set, head_bls hil, hli, Int.reduceGT, ne_eq, List.length_replicate, wD, Nat.reduceAdd, Nat.reduceEqDiff, Nat.reduceBEq, ↓reduceIte, reduceCtorEq, SX.exit.injEq, if_true, if_false, Int.reduceAdd, Int.reduceSub, Int.reduceMul, Int.reduceLT, Int.reduceLE, Int.reduceEq, Int.reduceNe, Int.reduceNeg, Int.reduceToNat, Nat.reduceMul, Nat.reduceLT, Nat.reduceSub, Nat.reduceLeDiff]
          refine cp hh ?_
          simp (maxSteps := 1000000) (disch := first | omega | exact PairsOK.mk rfl | (simp only [lenW] <;> omega)) only [Int.reduceGT, ne_eq, List.length_replicate, wD, Nat.reduceAdd, Nat.reduceEqDiff, Nat.reduceBEq, ↓reduceIte, reduceCtorEq, SX.exit.injEq, if_true, if_false, Int.reduceAdd, Int.reduceSub, Int.reduceMul, Int.reduceLT, Int.reduceLE, Int.reduceEq, Int.reduceNe, Int.reduceNeg, Int.reduceToNat, Nat.reduceMul, Nat.reduceLT, Nat.reduceSub, Nat.reduceLeDiff]
          refine ⟨i + 1, by omega, by omega, ?_⟩
          rw [← hst]
          exact ⟨[(50, .blk 50 0), (84, .blk 84 0)], rfl, au0, au9, au10⟩
      · rw [Bool.not_eq_true] at hli
        rw [hli, Bool.false_and, if_neg (by decide)] at hst
        simp (maxSteps := 1000000) (disch := first | omega | exact PairsOK.mk rfl | (simp only [lenW] <;> omega)) only [hlt, h1, ints_set, head_bls hil, hli, Int.reduceGT, ne_eq, List.length_replicate, wD, Nat.reduceAdd, Nat.reduceEqDiff, Nat.reduceBEq, ↓reduceIte, reduceCtorEq, SX.exit.injEq, if_true, if_false, Int.reduceAdd, Int.reduceSub, Int.reduceMul, Int.reduceLT, Int.reduceLE, Int.reduceEq, Int.reduceNe, Int.reduceNeg, Int.reduceToNat, Nat.reduceMul, Nat.reduceLT, Nat.reduceSub, Nat.reduceLeDiff]
        refine ⟨i + 1, by omega, by omega, ?_⟩
        rw [← hst]
        exact ⟨[(50, .blk 50 0), (84, .blk 84 0)], rfl, au0, au9, au10⟩
    · have e : i = a.n := by omega
      subst e
      simp (maxSteps := 1000000) (disch := first | omega | exact PairsOK.mk rfl | (simp only [lenW] <;> omega)) only [hlt, Int.reduceGT, ne_eq, List.length_replicate, wD, Nat.reduceAdd, Nat.reduceEqDiff, Nat.reduceBEq, ↓reduceIte, reduceCtorEq, SX.exit.injEq, if_true, if_false, Int.reduceAdd, Int.reduceSub, Int.reduceMul, Int.reduceLT, Int.reduceLE, Int.reduceEq, Int.reduceNe, Int.reduceNeg, Int.reduceToNat, Nat.reduceMul, Nat.reduceLT, Nat.reduceSub, Nat.reduceLeDiff]
      refine ⟨(), ?_⟩
      rw [← o0P_end]
      exact ⟨[(50, .blk 50 0), (84, .blk 84 0)], rfl, au0, au9, au10⟩
  rintro _ _
  simp (maxSteps := 1000000) (disch := first | omega | exact PairsOK.mk rfl | (simp only [lenW] <;> omega)) only [Int.reduceGT, ne_eq, List.length_replicate, wD, Nat.reduceAdd, Nat.reduceEqDiff, Nat.reduceBEq, ↓reduceIte, reduceCtorEq, SX.exit.injEq, if_true, if_false, Int.reduceAdd, Int.reduceSub, Int.reduceMul, Int.reduceLT, Int.reduceLE, Int.reduceEq, Int.reduceNe, Int.reduceNeg, Int.reduceToNat, Nat.reduceMul, Nat.reduceLT, Nat.reduceSub, Nat.reduceLeDiff]
  have hri := RI.start (left := lf l) hin
  have hc0 : cntN a.n (o0 a.n a.ms (lf l)) ≤ a.n := cntN_le
  have hes := fun e he => hin.1 e he
  generalize o0 a.n a.ms (lf l) = o1 at *
  refine wS_loopX 180 (fun t : Nat × List Int × Bool => [(1, blF l a.n), (2, .ptr 50 0 0), (5, .sl 84 0 0 a.n 1), (7, .int .i64 ((a.n + 2 - t.1 : Nat) : Int)), (8, .bool t.2.2)])
    (fun t => [(50, .cells 0 [sliN a.al, .int .i64 (a.n : Int), sliN a.ms, egsN a.es]), (84, .cells 0 (ints t.2.1))])
    (fun t => RI a.n a.es a.ms (lf l) (a.n + 2 - t.1) t.2.1 ∧ t.1 ≤ a.n + 1 ∧ (t.2.2 = true → cntN a.n t.2.1 < t.1) ∧ (if t.2.2 then rDist a.es (lf l) t.1 (a.n + 2 - t.1) t.2.1 else t.2.1) = rDist a.es (lf l) (a.n + 1) 1 o1) (fun t => t.1) (a.n + 1, o1, true) 2 200
    (fun _ : Unit => [(5, .sl 84 0 0 a.n 1)])
    (fun _ => [(84, .cells 0 (ints (rDist a.es (lf l) (a.n + 1) 1 o1)))]) (fun _ => True) ?_ ?_ ?_ ?_
  · have e : a.n + 2 - (a.n + 1) = 1 := by omega
    dsimp only
    rw [e]
    exact ⟨[(50, .blk 50 0), (84, .blk 84 0)], rfl, au0, au9, au10⟩
  · have e : a.n + 2 - (a.n + 1) = 1 := by omega
    dsimp only
    rw [e]
    exact ⟨hri, by omega, fun _ => by omega, rfl⟩
  · rintro ⟨k, o, more⟩ ⟨hR, hk, hcn, heq⟩
    dsimp only at hR hk hcn heq ⊢
    cases more with
    | false =>
      rw [if_neg (by decide)] at heq
      simp (maxSteps := 1000000) (disch := first | omega | exact PairsOK.mk rfl | (simp only [lenW] <;> omega)) only [Int.reduceGT, ne_eq, List.length_replicate, wD, Nat.reduceAdd, Nat.reduceEqDiff, Nat.reduceBEq, ↓reduceIte, reduceCtorEq, SX.exit.injEq, if_true, if_false, Int.reduceAdd, Int.reduceSub, Int.reduceMul, Int.reduceLT, Int.reduceLE, Int.reduceEq, Int.reduceNe, Int.reduceNeg, Int.reduceToNat, Nat.reduceMul, Nat.reduceLT, Nat.reduceSub, Nat.reduceLeDiff]
      refine ⟨(), ?_⟩
      rw [← heq]
      exact ⟨[(84, .blk 84 0)], rfl, au0, au9, au10⟩
    | true =>
      rw [if_pos rfl] at heq
      have hck := hcn rfl
      obtain ⟨k, rfl⟩ : ∃ k', k = k' + 1 := ⟨k - 1, by omega⟩
      have er : a.n + 2 - k = (a.n + 2 - (k + 1)) + 1 := by omega
      have hr1 : 1 ≤ a.n + 2 - (k + 1) := by omega
      have hrn : a.n + 2 - (k + 1) ≤ 4097 := by omega
      generalize hrr : a.n + 2 - (k + 1) = r at *
      have hj := RJ.all hr1 hin hR
      have hnx := hR.next hr1 hin
      have hmono : ∀ x, x < a.n → 0 ≤ o.getD x 0 → 0 ≤ (rRd a.es (lf l) r o).1.getD x 0 := fun x hx h0 => by rw [hj.old x hx h0]; exact h0
      have hcl : (rRd a.es (lf l) r o).2 = true → cntN a.n (rRd a.es (lf l) r o).1 < k := fun hf => by
        obtain ⟨x, hx, h1, h2⟩ := hj.flag hf
        have := cnt_lt hmono hx h1 h2; omega
      rw [rDist] at heq
      have hol := hR.len
      simp (maxSteps := 1000000) (disch := first | omega | exact PairsOK.mk rfl | (simp only [lenW] <;> omega)) only [Int.reduceGT, ne_eq, List.length_replicate, wD, Nat.reduceAdd, Nat.reduceEqDiff, Nat.reduceBEq, ↓reduceIte, reduceCtorEq, SX.exit.injEq, if_true, if_false, Int.reduceAdd, Int.reduceSub, Int.reduceMul, Int.reduceLT, Int.reduceLE, Int.reduceEq, Int.reduceNe, Int.reduceNeg, Int.reduceToNat, Nat.reduceMul, Nat.reduceLT, Nat.reduceSub, Nat.reduceLeDiff]
      refine wS_loopX 220 (fun i : Nat => [(1, blF l a.n), (2, .ptr 50 0 0), (5, .sl 84 0 0 a.n 1), (7, .int .i64 (r : Int)), (8, .bool (rRd (a.es.take i) (lf l) r o).2), (9, .int .i64 i)])
        (fun i => [(50, .cells 0 [sliN a.al, .int .i64 (a.n : Int), sliN a.ms, egsN a.es]), (84, .cells 0 (ints (rRd (a.es.take i) (lf l) r o).1))])
        (fun i => i ≤ a.es.length) (fun i => a.es.length - i) 0 4 240
        (fun _ : Unit => [(1, blF l a.n), (2, .ptr 50 0 0), (5, .sl 84 0 0 a.n 1), (7, .int .i64 (r : Int)), (8, .bool (rRd a.es (lf l) r o).2)])
        (fun _ => [(50, .cells 0 [sliN a.al, .int .i64 (a.n : Int), sliN a.ms, egsN a.es]), (84, .cells 0 (ints (rRd a.es (lf l) r o).1))]) (fun _ => True) ?_ (Nat.zero_le _) ?_ ?_
      · exact ⟨[(50, .blk 50 0), (84, .blk 84 0)], rfl, au0, au9, au10⟩
      · rintro i hi
        by_cases hlt : i < a.es.length
        · obtain ⟨e, he⟩ := get_ex hlt
          obtain ⟨hfr, hto⟩ := hes e (List.mem_of_getElem? he)
          have hst := rRd_take (left := lf l) (r := r) (o := o) he
          have htl := rRd_len (left := lf l) (r := r) (a.es.take i) o
          generalize rRd (a.es.take i) (lf l) r o = t at *
          have hfl : e.1 < l.length := by omega
          have htl2 : e.2.2 < l.length := by omega
          have hft : e.1 < t.1.length := by omega
          have htt : e.2.2 < t.1.length := by omega
          by_cases h1 : lf l e.1 = true
          · by_cases h2 : lf l e.2.2 = true
            · by_cases h3 : t.1.getD e.1 0 < 0
              · by_cases h4 : t.1.getD e.2.2 0 = (r : Int) - 1
                · have hs2 : rEd (lf l) r t e = (t.1.set e.1 (r : Int), true) := by unfold rEd; rw [if_pos (by rw [h1, h2, decide_eq_true h3, decide_eq_true h4]; rfl)]
                  rw [hs2] at hst
                  have hf1 : e.1 + 1 ≤ t.1.length := by omega
                  simp (maxSteps := 1000000) (disch := first | omega | exact PairsOK.mk rfl | (simp only [lenW] <;> omega)) only [hlt, drop_eds he, hfr, hto, head_bls hfl, head_bls htl2, h1, h2, get_intsD hft, get_intsD htt, h3, h4, hf1, ints_set, Int.reduceGT, ne_eq, List.length_replicate, wD, Nat.reduceAdd, Nat.reduceEqDiff, Nat.reduceBEq, ↓reduceIte, reduceCtorEq, SX.exit.injEq, if_true, if_false, Int.reduceAdd, Int.reduceSub, Int.reduceMul, Int.reduceLT, Int.reduceLE, Int.reduceEq, Int.reduceNe, Int.reduceNeg, Int.reduceToNat, Nat.reduceMul, Nat.reduceLT, Nat.reduceSub, Nat.reduceLeDiff]
                  refine ⟨i + 1, by omega, by omega, ?_⟩
                  rw [hst]
                  exact ⟨[(50, .blk 50 0), (84, .blk 84 0)], rfl, au0, au9, au10⟩
                · have hs2 : rEd (lf l) r t e = t := by unfold rEd; rw [if_neg (by rw [h1, h2, decide_eq_true h3, decide_eq_false h4]; decide)]
                  rw [hs2] at hst
                  simp (maxSteps := 1000000) (disch := first | omega | exact PairsOK.mk rfl | (simp only [lenW] <;> omega)) only [hlt, drop_eds he, hfr, hto, head_bls hfl, head_bls htl2, h1, h2, get_intsD hft, get_intsD htt, h3, h4, Int.reduceGT, ne_eq, List.length_replicate, wD, Nat.reduceAdd, Nat.reduceEqDiff, Nat.reduceBEq, ↓reduceIte, reduceCtorEq, SX.exit.injEq, if_true, if_false, Int.reduceAdd, Int.reduceSub, Int.reduceMul, Int.reduceLT, Int.reduceLE, Int.reduceEq, Int.reduceNe, Int.reduceNeg, Int.reduceToNat, Nat.reduceMul, Nat.reduceLT, Nat.reduceSub, Nat.reduceLeDiff]
                  refine ⟨i + 1, by omega, by omega, ?_⟩
                  rw [hst]
                  exact ⟨[(50, .blk 50 0), (84, .blk 84 0)], rfl, au0, au9, au10⟩
              · have hs2 : rEd (lf l) r t e = t := by unfold rEd; rw [if_neg (by rw [h1, h2, decide_eq_false h3]; simp)]
                rw [hs2] at hst
                simp (maxSteps := 1000000) (disch := first | omega | exact PairsOK.mk rfl | (simp only [lenW] <;> omega)) only [hlt, drop_eds he, hfr, hto, head_bls hfl, head_bls htl2, h1, h2, get_intsD hft, h3, Int.reduceGT, ne_eq, List.length_replicate, wD, Nat.reduceAdd, Nat.reduceEqDiff, Nat.reduceBEq, ↓reduceIte, reduceCtorEq, SX.exit.injEq, if_true, if_false, Int.reduceAdd, Int.reduceSub, Int.reduceMul, Int.reduceLT, Int.reduceLE, Int.reduceEq, Int.reduceNe, Int.reduceNeg, Int.reduceToNat, Nat.reduceMul, Nat.reduceLT, Nat.reduceSub, Nat.reduceLeDiff]
                refine ⟨i + 1, by omega, by omega, ?_⟩
                rw [hst]
                exact ⟨[(50, .blk 50 0), (84, .blk 84 0)], rfl, au0, au9, au10⟩
            · have hs2 : rEd (lf l) r t e = t := by unfold rEd; rw [if_neg (by simp [h2])]
              rw [hs2] at hst
              rw [Bool.not_eq_true] at h2
              simp (maxSteps := 1000000) (disch := first | omega | exact PairsOK.mk rfl | (simp only [lenW] <;> omega)) only [hlt, drop_eds he, hfr, hto, head_bls hfl, head_bls htl2, h1, h2, Int.reduceGT, ne_eq, List.length_replicate, wD, Nat.reduceAdd, Nat.reduceEqDiff, Nat.reduceBEq, ↓reduceIte, reduceCtorEq, SX.exit.injEq, if_true, if_false, Int.reduceAdd, Int.reduceSub, Int.reduceMul, Int.reduceLT, Int.reduceLE, Int.reduceEq, Int.reduceNe, Int.reduceNeg, Int.reduceToNat, Nat.reduceMul, Nat.reduceLT, Nat.reduceSub, Nat.reduceLeDiff]
              refine ⟨i + 1, by omega, by omega, ?_⟩
              rw [hst]
              exact ⟨[(50, .blk 50 0), (84, .blk 84 0)], rfl, au0, au9, au10⟩
          · have hs2 : rEd (lf l) r t e = t := by unfold rEd; rw [if_neg (by simp [h1])]
            rw [hs2] at hst
            rw [Bool.not_eq_true] at h1
            simp (maxSteps := 1000000) (disch := first | omega | exact PairsOK.mk rfl | (simp only [lenW] <;> omega)) only [hlt, drop_eds he, hfr, hto, head_bls hfl, h1, Int.reduceGT, ne_eq, List.length_replicate, wD, Nat.reduceAdd, Nat.reduceEqDiff, Nat.reduceBEq, ↓reduceIte, reduceCtorEq, SX.exit.injEq, if_true, if_false, Int.reduceAdd, Int.reduceSub, Int.reduceMul, Int.reduceLT, Int.reduceLE, Int.reduceEq, Int.reduceNe, Int.reduceNeg, Int.reduceToNat, Nat.reduceMul, Nat.reduceLT, Nat.reduceSub, Nat.reduceLeDiff]
            refine ⟨i + 1, by omega, by omega, ?_⟩
            rw [hst]
            exact ⟨[(50, .blk 50 0), (84, .blk 84 0)], rfl, au0, au9, au10⟩
        · have e : i = a.es.length := by omega
          subst e
          simp (maxSteps := 1000000) (disch := first | omega | exact PairsOK.mk rfl | (simp only [lenW] <;> omega)) only [hlt, Int.reduceGT, ne_eq, List.length_replicate, wD, Nat.reduceAdd, Nat.reduceEqDiff, Nat.reduceBEq, ↓reduceIte, reduceCtorEq, SX.exit.injEq, if_true, if_false, Int.reduceAdd, Int.reduceSub, Int.reduceMul, Int.reduceLT, Int.reduceLE, Int.reduceEq, Int.reduceNe, Int.reduceNeg, Int.reduceToNat, Nat.reduceMul, Nat.reduceLT, Nat.reduceSub, Nat.reduceLeDiff]
          refine ⟨(), ?_⟩
          exact ⟨[(50, .blk 50 0), (84, .blk 84 0)], rfl, au0, au9, au10⟩
      rintro _ _
      generalize rRd a.es (lf l) r o = t at *
      simp (maxSteps := 1000000) (disch := first | omega | exact PairsOK.mk rfl | (simp only [lenW] <;> omega)) only [Int.reduceGT, ne_eq, List.length_replicate, wD, Nat.reduceAdd, Nat.reduceEqDiff, Nat.reduceBEq, ↓reduceIte, reduceCtorEq, SX.exit.injEq, if_true, if_false, Int.reduceAdd, Int.reduceSub, Int.reduceMul, Int.reduceLT, Int.reduceLE, Int.reduceEq, Int.reduceNe, Int.reduceNeg, Int.reduceToNat, Nat.reduceMul, Nat.reduceLT, Nat.reduceSub, Nat.reduceLeDiff]
      refine ⟨(k, t.1, t.2), by dsimp only; omega, ?_, ?_⟩
      · dsimp only
        rw [er]
        exact ⟨hnx, by omega, hcl, heq⟩
      · dsimp only
        rw [er]
        exact ⟨[(50, .blk 50 0), (84, .blk 84 0)], rfl, au0, au9, au10⟩
  rintro _ _
  simp (maxSteps := 1000000) (disch := first | omega | exact PairsOK.mk rfl | (simp only [lenW] <;> omega)) only [Int.reduceGT, ne_eq, List.length_replicate, wD, Nat.reduceAdd, Nat.reduceEqDiff, Nat.reduceBEq, ↓reduceIte, reduceCtorEq, SX.exit.injEq, if_true, if_false, Int.reduceAdd, Int.reduceSub, Int.reduceMul, Int.reduceLT, Int.reduceLE, Int.reduceEq, Int.reduceNe, Int.reduceNeg, Int.reduceToNat, Nat.reduceMul, Nat.reduceLT, Nat.reduceSub, Nat.reduceLeDiff]
  exact ⟨.inr trivial, _, rfl, ⟨[(84, .blk 84 0)], rfl, au0, au9, au10⟩⟩
end Go.AM.SE
namespace Go.AM.SE
open Go.Proofs Go.AM.SD
set_option maxRecDepth 100000
set_option linter.unusedSimpArgs false
set_option linter.unusedVariables false
def rLp (left : Nat → Bool) (unc : List Nat) (st : Nat) (e : Ed) : Bool := e.1 == st && !left e.2.2 && unc.contains e.2.1
theorem rLost_step {n : Nat} {es : List Ed} {left : Nat → Bool} {unc : List Nat} : rLost (n + 1) es left unc = rLost n es left unc ++ (rL1 es left unc n).toList := by
  unfold rLost
  rw [List.range_succ, List.filterMap_append]
  cases h : rL1 es left unc n <;> simp [h]
theorem rLost_len (n : Nat) (es : List Ed) (left : Nat → Bool) (unc : List Nat) : (rLost n es left unc).length ≤ n := by
  unfold rLost; exact Nat.le_trans (List.length_filterMap_le _ _) (by simp)
theorem find_atE {p : Ed → Bool} : ∀ {es : List Ed} {j : Nat} {e : Ed}, (∀ x ∈ es.take j, p x = false) → es[j]? = some e → p e = true → es.find? p = some e
  | [], _, _, _, h, _ => by simp at h
  | x :: es, 0, e, _, h, hp => by
    simp at h; subst h; rw [List.find?_cons, hp]
  | x :: es, j + 1, e, hn, h, hp => by
    simp at h
    rw [List.find?_cons, hn x (by simp)]
    exact find_atE (fun y hy => hn y (by rw [List.take_succ_cons]; exact List.mem_cons_of_mem _ hy)) h hp
theorem find_noE {p : Ed → Bool} {es : List Ed} (h : ∀ x ∈ es, p x = false) : es.find? p = none := by
  rw [List.find?_eq_none]; intro x hx; rw [h x hx]; decide
theorem rDist_len {es : List Ed} {left : Nat → Bool} : ∀ (k r : Nat) (o : List Int), (rDist es left k r o).length = o.length
  | 0, _, _ => rfl
  | k + 1, r, o => by
    rw [rDist]; split
    · rw [rDist_len k, rRd_len]
    · rw [rRd_len]
theorem none_take {p : Ed → Bool} {es : List Ed} {j : Nat} {e : Ed} (h : ∀ x ∈ es.take j, p x = false) (he : es[j]? = some e) (hp : p e = false) : ∀ x ∈ es.take (j + 1), p x = false := by
  intro x hx
  rw [List.take_add_one, he, Option.toList] at hx
  rcases List.mem_append.1 hx with h1 | h1
  · exact h x h1
  · simp at h1; rw [h1]; exact hp
set_option maxHeartbeats 32000000 in
theorem next19 (a : Aut) (u : List Nat) (l : LB) (rank : Int) (closed : Bool) (hin : InN a.n a.es a.ms) (hl : l.length = a.n) (hn : a.n ≤ 4096) (hel : a.es.length ≤ 1000000) (hml : a.ms.length ≤ 1000000) (hul : u.length ≤ 1000000) :
    HSpec Try.prog 19 [aV a, blF l a.n, sliN u, .int .i64 rank, .bool closed] .e (.sl 85 0 0 (rNext a.n a.es a.ms (lf l) u rank closed).length 4) (hp [(85, .cells 0 ((rNext a.n a.es a.ms (lf l) u rank closed).flatMap rmC))]) := by
  have hd := dist33 a l hin hl hn hel hml
  have hdl : (rDist a.es (lf l) (a.n + 1) 1 (o0 a.n a.ms (lf l))).length = a.n := by rw [rDist_len]; simp [o0]
  have hlen : (lostF rank (rLost a.n a.es (lf l) u)).length = (rLost a.n a.es (lf l) u).length := by unfold lostF; rw [List.length_map]
  unfold rNext
  generalize rDist a.es (lf l) (a.n + 1) 1 (o0 a.n a.ms (lf l)) = d at *
  refine HSpec.of_new 100 ok19 rfl ?_
  have hes := fun e he => hin.1 e he
  simp (maxSteps := 1000000) (disch := first | omega | exact PairsOK.mk rfl | (simp only [lenW] <;> omega)) only [s19, Int.reduceGT, ne_eq, List.length_replicate, wD, Nat.reduceAdd, Nat.reduceEqDiff, Nat.reduceBEq, ↓reduceIte, reduceCtorEq, SX.exit.injEq, if_true, if_false, Int.reduceAdd, Int.reduceSub, Int.reduceMul, Int.reduceLT, Int.reduceLE, Int.reduceEq, Int.reduceNe, Int.reduceNeg, Int.reduceToNat, Nat.reduceMul, Nat.reduceLT, Nat.reduceSub, Nat.reduceLeDiff]
  refine wS_loopX 120 (fun i : Nat => [(1, blF l a.n), (2, sliN u), (3, .int .i64 rank), (4, .bool closed), (5, .ptr 50 0 0), (11, .sl 82 0 0 (rLost i a.es (lf l) u).length 4), (12, .int .i64 i)])
    (fun i => [(50, .cells 0 [sliN a.al, .int .i64 (a.n : Int), sliN a.ms, egsN a.es]), (82, .cells 0 ((rLost i a.es (lf l) u).flatMap (lsC rank)))])
    (fun i => i ≤ a.n) (fun i => a.n - i) 0 0 160
    (fun _ : Unit => [(1, blF l a.n), (3, .int .i64 rank), (4, .bool closed), (5, .ptr 50 0 0), (11, .sl 82 0 0 (rLost a.n a.es (lf l) u).length 4)])
    (fun _ => [(50, .cells 0 [sliN a.al, .int .i64 (a.n : Int), sliN a.ms, egsN a.es]), (82, .cells 0 ((rLost a.n a.es (lf l) u).flatMap (lsC rank)))]) (fun _ => True) ?_ (Nat.zero_le _) ?_ ?_
  · exact ⟨[(50, .blk 100 0), (82, .nil)], rfl, au0, au9, au10⟩
  · rintro i hi
    by_cases hlt : i < a.n
    · have hstep := rLost_step (n := i) (es := a.es) (left := lf l) (unc := u)
      have hol := rLost_len i a.es (lf l) u
      generalize rLost i a.es (lf l) u = o at *
      have hil : i < l.length := by omega
      have hll := ls_len rank o
      simp (maxSteps := 1000000) (disch := first | omega | exact PairsOK.mk rfl | (simp only [lenW] <;> omega)) only [hlt, Int.reduceGT, ne_eq, List.length_replicate, wD, Nat.reduceAdd, Nat.reduceEqDiff, Nat.reduceBEq, ↓reduceIte, reduceCtorEq, SX.exit.injEq, if_true, if_false, Int.reduceAdd, Int.reduceSub, Int.reduceMul, Int.reduceLT, Int.reduceLE, Int.reduceEq, Int.reduceNe, Int.reduceNeg, Int.reduceToNat, Nat.reduceMul, Nat.reduceLT, Nat.reduceSub, Nat.reduceLeDiff]
      refine wS_loopX 180 (fun j : Nat => [(1, blF l a.n), (2, sliN u), (3, .int .i64 rank), (4, .bool closed), (5, .ptr 50 0 0), (11, .sl 82 0 0 o.length 4), (12, .int .i64 i), (13, .int .i64 j)])
        (fun j => [(50, .cells 0 [sliN a.al, .int .i64 (a.n : Int), sliN a.ms, egsN a.es]), (82, .cells 0 (o.flatMap (lsC rank)))])
        (fun j => j ≤ a.es.length ∧ (lf l i = false → j = 0) ∧ ∀ x ∈ a.es.take j, rLp (lf l) u i x = false) (fun j => a.es.length - j) 0 2 200
        (fun _ : Unit => [(1, blF l a.n), (2, sliN u), (3, .int .i64 rank), (4, .bool closed), (5, .ptr 50 0 0), (11, .sl 82 0 0 (rLost (i + 1) a.es (lf l) u).length 4), (12, .int .i64 i)])
        (fun _ => [(50, .cells 0 [sliN a.al, .int .i64 (a.n : Int), sliN a.ms, egsN a.es]), (82, .cells 0 ((rLost (i + 1) a.es (lf l) u).flatMap (lsC rank)))]) (fun _ => True) ?_ ⟨Nat.zero_le _, fun _ => rfl, fun x hx => by simp at hx⟩ ?_ ?_
      · exact ⟨[(50, .blk 50 0), (82, .blk 82 0)], rfl, au0, au9, au10⟩
      · rintro j ⟨hj, hj0, hno⟩
        by_cases hli : lf l i = true
        · by_cases hjl : j < a.es.length
          · obtain ⟨e, hee⟩ := get_ex hjl
            obtain ⟨hfr, hto⟩ := hes e (List.mem_of_getElem? hee)
            have hfl : e.1 < l.length := by omega
            have htl : e.2.2 < l.length := by omega
            have hc := has15 (nz u) e.2.1 (by simp; omega)
            rw [mem_nz, sli_nz] at hc
            by_cases h1 : e.1 = i
            · by_cases h2 : lf l e.2.2 = true
              · skip
                simp (maxSteps := 1000000) (disch := first | omega | exact PairsOK.mk rfl | (simp only [lenW] <;> omega)) only [hlt, hjl, drop_eds hee, hfr, hto, head_bls hil, hli, h1, head_bls htl, h2, Int.reduceGT, ne_eq, List.length_replicate, wD, Nat.reduceAdd, Nat.reduceEqDiff, Nat.reduceBEq, ↓reduceIte, reduceCtorEq, SX.exit.injEq, if_true, if_false, Int.reduceAdd, Int.reduceSub, Int.reduceMul, Int.reduceLT, Int.reduceLE, Int.reduceEq, Int.reduceNe, Int.reduceNeg, Int.reduceToNat, Nat.reduceMul, Nat.reduceLT, Nat.reduceSub, Nat.reduceLeDiff]
                skip
                refine ⟨j + 1, by omega, ⟨by omega, fun h => (h : False).elim, none_take hno hee (by unfold rLp; rw [h2]; simp)⟩, ?_⟩
                exact ⟨[(50, .blk 50 0), (82, .blk 82 0)], rfl, au0, au9, au10⟩
              · rw [Bool.not_eq_true] at h2
                by_cases h3 : u.contains e.2.1 = true
                · rw [h3] at hc
                  have hfi : rL1 a.es (lf l) u i = some (i, e.2.1) := by
                    unfold rL1
                    rw [if_pos hli]
                    have : a.es.find? (rLp (lf l) u i) = some e := find_atE hno hee (by unfold rLp; rw [h1, h2, h3]; simp)
                    have t2 : (a.es.find? fun e => e.1 == i && !lf l e.2.2 && u.contains e.2.1) = some e := this
                    rw [t2]; rfl
                  rw [hfi] at hstep
                  simp (maxSteps := 1000000) (disch := first | omega | exact PairsOK.mk rfl | (simp only [lenW] <;> omega)) only [hlt, hjl, drop_eds hee, hfr, hto, head_bls hil, hli, h1, head_bls htl, h2, Int.reduceGT, ne_eq, List.length_replicate, wD, Nat.reduceAdd, Nat.reduceEqDiff, Nat.reduceBEq, ↓reduceIte, reduceCtorEq, SX.exit.injEq, if_true, if_false, Int.reduceAdd, Int.reduceSub, Int.reduceMul, Int.reduceLT, Int.reduceLE, Int.reduceEq, Int.reduceNe, Int.reduceNeg, Int.reduceToNat, Nat.reduceMul, Nat.reduceLT, Nat.reduceSub, Nat.reduceLeDiff]
                  refine cp hc ?_
                  simp (maxSteps := 1000000) (disch := first | omega | exact PairsOK.mk rfl | (simp only [lenW] <;> omega)) only [hll, Int.reduceGT, ne_eq, List.length_replicate, wD, Nat.reduceAdd, Nat.reduceEqDiff, Nat.reduceBEq, ↓reduceIte, reduceCtorEq, SX.exit.injEq, if_true, if_false, Int.reduceAdd, Int.reduceSub, Int.reduceMul, Int.reduceLT, Int.reduceLE, Int.reduceEq, Int.reduceNe, Int.reduceNeg, Int.reduceToNat, Nat.reduceMul, Nat.reduceLT, Nat.reduceSub, Nat.reduceLeDiff]
                  refine ⟨(), ?_⟩
                  rw [hstep, Option.toList, List.flatMap_append, List.length_append]
                  exact ⟨[(50, .blk 50 0), (82, .blk 82 1)], rfl, au0, au9, au10⟩
                · rw [Bool.not_eq_true] at h3
                  rw [h3] at hc
                  simp (maxSteps := 1000000) (disch := first | omega | exact PairsOK.mk rfl | (simp only [lenW] <;> omega)) only [hlt, hjl, drop_eds hee, hfr, hto, head_bls hil, hli, h1, head_bls htl, h2, Int.reduceGT, ne_eq, List.length_replicate, wD, Nat.reduceAdd, Nat.reduceEqDiff, Nat.reduceBEq, ↓reduceIte, reduceCtorEq, SX.exit.injEq, if_true, if_false, Int.reduceAdd, Int.reduceSub, Int.reduceMul, Int.reduceLT, Int.reduceLE, Int.reduceEq, Int.reduceNe, Int.reduceNeg, Int.reduceToNat, Nat.reduceMul, Nat.reduceLT, Nat.reduceSub, Nat.reduceLeDiff]
                  refine cp hc ?_ ; simp (maxSteps := 1000000) (disch := first | omega | exact PairsOK.mk rfl | (simp only [lenW] <;> omega)) only [Int.reduceGT, ne_eq, List.length_replicate, wD, Nat.reduceAdd, Nat.reduceEqDiff, Nat.reduceBEq, ↓reduceIte, reduceCtorEq, SX.exit.injEq, if_true, if_false, Int.reduceAdd, Int.reduceSub, Int.reduceMul, Int.reduceLT, Int.reduceLE, Int.reduceEq, Int.reduceNe, Int.reduceNeg, Int.reduceToNat, Nat.reduceMul, Nat.reduceLT, Nat.reduceSub, Nat.reduceLeDiff]
                  refine ⟨j + 1, by omega, ⟨by omega, fun h => (h : False).elim, none_take hno hee (by unfold rLp; rw [h3, Bool.and_false])⟩, ?_⟩
                  exact ⟨[(50, .blk 50 0), (82, .blk 82 0)], rfl, au0, au9, au10⟩
            · skip
              simp (maxSteps := 1000000) (disch := first | omega | exact PairsOK.mk rfl | (simp only [lenW] <;> omega)) only [hlt, hjl, drop_eds hee, hfr, hto, head_bls hil, hli, h1, Int.reduceGT, ne_eq, List.length_replicate, wD, Nat.reduceAdd, Nat.reduceEqDiff, Nat.reduceBEq, ↓reduceIte, reduceCtorEq, SX.exit.injEq, if_true, if_false, Int.reduceAdd, Int.reduceSub, Int.reduceMul, Int.reduceLT, Int.reduceLE, Int.reduceEq, Int.reduceNe, Int.reduceNeg, Int.reduceToNat, Nat.reduceMul, Nat.reduceLT, Nat.reduceSub, Nat.reduceLeDiff]
              skip
              refine ⟨j + 1, by omega, ⟨by omega, fun h => (h : False).elim, none_take hno hee (by simp [rLp, h1])⟩, ?_⟩
              exact ⟨[(50, .blk 50 0), (82, .blk 82 0)], rfl, au0, au9, au10⟩
          · have e : j = a.es.length := by omega
            subst e
            rw [List.take_length] at hno
            have hfi : rL1 a.es (lf l) u i = none := by
              unfold rL1
              rw [if_pos hli]
              have t2 : (a.es.find? fun e => e.1 == i && !lf l e.2.2 && u.contains e.2.1) = none := find_noE (p := rLp (lf l) u i) hno
              rw [t2]; rfl
            rw [hfi, Option.toList, List.append_nil] at hstep
            simp (maxSteps := 1000000) (disch := first | omega | exact PairsOK.mk rfl | (simp only [lenW] <;> omega)) only [hlt, hjl, head_bls hil, hli, Int.reduceGT, ne_eq, List.length_replicate, wD, Nat.reduceAdd, Nat.reduceEqDiff, Nat.reduceBEq, ↓reduceIte, reduceCtorEq, SX.exit.injEq, if_true, if_false, Int.reduceAdd, Int.reduceSub, Int.reduceMul, Int.reduceLT, Int.reduceLE, Int.reduceEq, Int.reduceNe, Int.reduceNeg, Int.reduceToNat, Nat.reduceMul, Nat.reduceLT, Nat.reduceSub, Nat.reduceLeDiff]
            refine ⟨(), ?_⟩
            rw [hstep]
            exact ⟨[(50, .blk 50 0), (82, .blk 82 0)], rfl, au0, au9, au10⟩
        · rw [Bool.not_eq_true] at hli
          have hfi : rL1 a.es (lf l) u i = none := by unfold rL1; rw [if_neg (by simp [hli])]
          rw [hfi, Option.toList, List.append_nil] at hstep
          simp (maxSteps := 1000000) (disch := first | omega | exact PairsOK.mk rfl | (simp only [lenW] <;> omega)) only [hlt, head_bls hil, hli, Int.reduceGT, ne_eq, List.length_replicate, wD, Nat.reduceAdd, Nat.reduceEqDiff, Nat.reduceBEq, ↓reduceIte, reduceCtorEq, SX.exit.injEq, if_true, if_false, Int.reduceAdd, Int.reduceSub, Int.reduceMul, Int.reduceLT, Int.reduceLE, Int.reduceEq, Int.reduceNe, Int.reduceNeg, Int.reduceToNat, Nat.reduceMul, Nat.reduceLT, Nat.reduceSub, Nat.reduceLeDiff]
          refine ⟨(), ?_⟩
          rw [hstep]
          exact ⟨[(50, .blk 50 0), (82, .blk 82 0)], rfl, au0, au9, au10⟩
      rintro _ _
      simp (maxSteps := 1000000) (disch := first | omega | exact PairsOK.mk rfl | (simp only [lenW] <;> omega)) only [Int.reduceGT, ne_eq, List.length_replicate, wD, Nat.reduceAdd, Nat.reduceEqDiff, Nat.reduceBEq, ↓reduceIte, reduceCtorEq, SX.exit.injEq, if_true, if_false, Int.reduceAdd, Int.reduceSub, Int.reduceMul, Int.reduceLT, Int.reduceLE, Int.reduceEq, Int.reduceNe, Int.reduceNeg, Int.reduceToNat, Nat.reduceMul, Nat.reduceLT, Nat.reduceSub, Nat.reduceLeDiff]
      exact ⟨i + 1, by omega, by omega, ⟨[(50, .blk 50 0), (82, .blk 82 0)], rfl, au0, au9, au10⟩⟩
    · have e : i = a.n := by omega
      subst e
      simp (maxSteps := 1000000) (disch := first | omega | exact PairsOK.mk rfl | (simp only [lenW] <;> omega)) only [hlt, Int.reduceGT, ne_eq, List.length_replicate, wD, Nat.reduceAdd, Nat.reduceEqDiff, Nat.reduceBEq, ↓reduceIte, reduceCtorEq, SX.exit.injEq, if_true, if_false, Int.reduceAdd, Int.reduceSub, Int.reduceMul, Int.reduceLT, Int.reduceLE, Int.reduceEq, Int.reduceNe, Int.reduceNeg, Int.reduceToNat, Nat.reduceMul, Nat.reduceLT, Nat.reduceSub, Nat.reduceLeDiff]
      refine ⟨(), ?_⟩
      exact ⟨[(50, .blk 50 0), (82, .blk 82 0)], rfl, au0, au9, au10⟩
  rintro _ _
  have hol := rLost_len a.n a.es (lf l) u
  by_cases h0 : 0 < (rLost a.n a.es (lf l) u).length
  · rw [if_pos (by simp [h0]), ← ls_rm, hlen]
    generalize rLost a.n a.es (lf l) u = o at *
    simp (maxSteps := 1000000) (disch := first | omega | exact PairsOK.mk rfl | (simp only [lenW] <;> omega)) only [h0, Int.reduceGT, ne_eq, List.length_replicate, wD, Nat.reduceAdd, Nat.reduceEqDiff, Nat.reduceBEq, ↓reduceIte, reduceCtorEq, SX.exit.injEq, if_true, if_false, Int.reduceAdd, Int.reduceSub, Int.reduceMul, Int.reduceLT, Int.reduceLE, Int.reduceEq, Int.reduceNe, Int.reduceNeg, Int.reduceToNat, Nat.reduceMul, Nat.reduceLT, Nat.reduceSub, Nat.reduceLeDiff]
    exact ⟨.inr trivial, _, rfl, ⟨[(85, .blk 82 0)], rfl, au0, au9, au10⟩⟩
  · cases closed with
    | true =>
      rw [if_pos (by simp), ← ls_rm, hlen]
      generalize rLost a.n a.es (lf l) u = o at *
      simp (maxSteps := 1000000) (disch := first | omega | exact PairsOK.mk rfl | (simp only [lenW] <;> omega)) only [h0, Int.reduceGT, ne_eq, List.length_replicate, wD, Nat.reduceAdd, Nat.reduceEqDiff, Nat.reduceBEq, ↓reduceIte, reduceCtorEq, SX.exit.injEq, if_true, if_false, Int.reduceAdd, Int.reduceSub, Int.reduceMul, Int.reduceLT, Int.reduceLE, Int.reduceEq, Int.reduceNe, Int.reduceNeg, Int.reduceToNat, Nat.reduceMul, Nat.reduceLT, Nat.reduceSub, Nat.reduceLeDiff]
      exact ⟨.inr trivial, _, rfl, ⟨[(85, .blk 82 0)], rfl, au0, au9, au10⟩⟩
    | false =>
      rw [if_neg (by simp [h0])]
      have h00 : rLost a.n a.es (lf l) u = [] := List.eq_nil_of_length_eq_zero (by omega)
      rw [h00]
      simp (maxSteps := 1000000) (disch := first | omega | exact PairsOK.mk rfl | (simp only [lenW] <;> omega)) only [h0, Int.reduceGT, ne_eq, List.length_replicate, wD, Nat.reduceAdd, Nat.reduceEqDiff, Nat.reduceBEq, ↓reduceIte, reduceCtorEq, SX.exit.injEq, if_true, if_false, Int.reduceAdd, Int.reduceSub, Int.reduceMul, Int.reduceLT, Int.reduceLE, Int.reduceEq, Int.reduceNe, Int.reduceNeg, Int.reduceToNat, Nat.reduceMul, Nat.reduceLT, Nat.reduceSub, Nat.reduceLeDiff]
      refine ch (HSpec.of_O (b := 84) (by (try simp only [noRefs, noRefs_u8, noRefs_keysI, noRefs_back, noRefs_ints, noRefs_eg, noRefs_ed, noRefs_rm, noRefs_ls, noRefs_bls, noRef, Bool.and_self, Bool.and_true]) <;> rfl) hd (by repeat (first | exact Fresh.e | exact Fresh.le (by assumption) (by omega) | refine Fresh.set ?_ (by omega) (by omega))) rfl) ?_
      rw [← bk_rm, blkF_eq, List.length_map, hdl]
      simp (maxSteps := 1000000) (disch := first | omega | exact PairsOK.mk rfl | (simp only [lenW] <;> omega)) only [Int.reduceGT, ne_eq, List.length_replicate, wD, Nat.reduceAdd, Nat.reduceEqDiff, Nat.reduceBEq, ↓reduceIte, reduceCtorEq, SX.exit.injEq, if_true, if_false, Int.reduceAdd, Int.reduceSub, Int.reduceMul, Int.reduceLT, Int.reduceLE, Int.reduceEq, Int.reduceNe, Int.reduceNeg, Int.reduceToNat, Nat.reduceMul, Nat.reduceLT, Nat.reduceSub, Nat.reduceLeDiff]
      refine wS_loopX 260 (fun i : Nat => [(1, blF l a.n), (3, .int .i64 rank), (5, .ptr 50 0 0), (11, .sl 85 0 0 (blkP (lf l) d i).length 4), (15, .sl 84 0 0 a.n 1), (16, .int .i64 i)])
        (fun i => [(50, .cells 0 [sliN a.al, .int .i64 (a.n : Int), sliN a.ms, egsN a.es]), (84, .cells 0 (ints d)), (85, .cells 0 ((blkP (lf l) d i).flatMap (bkC rank)))])
        (fun i => i ≤ a.n) (fun i => a.n - i) 0 4 280
        (fun _ : Unit => [(11, .sl 85 0 0 (blkP (lf l) d a.n).length 4)])
        (fun _ => [(85, .cells 0 ((blkP (lf l) d a.n).flatMap (bkC rank)))]) (fun _ => True) ?_ (Nat.zero_le _) ?_ ?_
      · exact ⟨[(50, .blk 50 0), (84, .blk 84 0), (85, .blk 82 0)], rfl, au0, au9, au10⟩
      · rintro i hi
        by_cases hlt : i < a.n
        · have hst := blkP_take (left := lf l) (d := d) (i := i)
          have hol := blkP_len (lf l) d i
          generalize blkP (lf l) d i = o at *
          have hil : i < l.length := by omega
          have hid : i < d.length := by omega
          have hll := bk_len rank o
          by_cases h1 : lf l i = true
          · by_cases h2 : d.getD i 0 < 0
            · rw [if_pos (by rw [h1, decide_eq_true h2]; rfl)] at hst
              simp (maxSteps := 1000000) (disch := first | omega | exact PairsOK.mk rfl | (simp only [lenW] <;> omega)) only [hlt, get_intsD hid, head_bls hil, h1, h2, hll, Int.reduceGT, ne_eq, List.length_replicate, wD, Nat.reduceAdd, Nat.reduceEqDiff, Nat.reduceBEq, ↓reduceIte, reduceCtorEq, SX.exit.injEq, if_true, if_false, Int.reduceAdd, Int.reduceSub, Int.reduceMul, Int.reduceLT, Int.reduceLE, Int.reduceEq, Int.reduceNe, Int.reduceNeg, Int.reduceToNat, Nat.reduceMul, Nat.reduceLT, Nat.reduceSub, Nat.reduceLeDiff]
              refine ⟨i + 1, by omega, by omega, ?_⟩
              rw [hst, List.flatMap_append, List.length_append]
              exact ⟨[(50, .blk 50 0), (84, .blk 84 0), (85, .blk 85 1)], rfl, au0, au9, au10⟩
            · rw [if_neg (by rw [h1, decide_eq_false h2]; decide), List.append_nil] at hst
              simp (maxSteps := 1000000) (disch := first | omega | exact PairsOK.mk rfl | (simp only [lenW] <;> omega)) only [hlt, get_intsD hid, head_bls hil, h1, h2, Int.reduceGT, ne_eq, List.length_replicate, wD, Nat.reduceAdd, Nat.reduceEqDiff, Nat.reduceBEq, ↓reduceIte, reduceCtorEq, SX.exit.injEq, if_true, if_false, Int.reduceAdd, Int.reduceSub, Int.reduceMul, Int.reduceLT, Int.reduceLE, Int.reduceEq, Int.reduceNe, Int.reduceNeg, Int.reduceToNat, Nat.reduceMul, Nat.reduceLT, Nat.reduceSub, Nat.reduceLeDiff]
              refine ⟨i + 1, by omega, by omega, ?_⟩
              rw [hst]; exact ⟨[(50, .blk 50 0), (84, .blk 84 0), (85, .blk 85 0)], rfl, au0, au9, au10⟩
          · rw [if_neg (by simp [h1]), List.append_nil] at hst
            rw [Bool.not_eq_true] at h1
            simp (maxSteps := 1000000) (disch := first | omega | exact PairsOK.mk rfl | (simp only [lenW] <;> omega)) only [hlt, head_bls hil, h1, Int.reduceGT, ne_eq, List.length_replicate, wD, Nat.reduceAdd, Nat.reduceEqDiff, Nat.reduceBEq, ↓reduceIte, reduceCtorEq, SX.exit.injEq, if_true, if_false, Int.reduceAdd, Int.reduceSub, Int.reduceMul, Int.reduceLT, Int.reduceLE, Int.reduceEq, Int.reduceNe, Int.reduceNeg, Int.reduceToNat, Nat.reduceMul, Nat.reduceLT, Nat.reduceSub, Nat.reduceLeDiff]
            refine ⟨i + 1, by omega, by omega, ?_⟩
            rw [hst]; exact ⟨[(50, .blk 50 0), (84, .blk 84 0), (85, .blk 85 0)], rfl, au0, au9, au10⟩
        · have e : i = a.n := by omega
          subst e
          simp (maxSteps := 1000000) (disch := first | omega | exact PairsOK.mk rfl | (simp only [lenW] <;> omega)) only [hlt, Int.reduceGT, ne_eq, List.length_replicate, wD, Nat.reduceAdd, Nat.reduceEqDiff, Nat.reduceBEq, ↓reduceIte, reduceCtorEq, SX.exit.injEq, if_true, if_false, Int.reduceAdd, Int.reduceSub, Int.reduceMul, Int.reduceLT, Int.reduceLE, Int.reduceEq, Int.reduceNe, Int.reduceNeg, Int.reduceToNat, Nat.reduceMul, Nat.reduceLT, Nat.reduceSub, Nat.reduceLeDiff]
          refine ⟨(), ?_⟩
          exact ⟨[(85, .blk 85 0)], rfl, au0, au9, au10⟩
      rintro _ _
      simp (maxSteps := 1000000) (disch := first | omega | exact PairsOK.mk rfl | (simp only [lenW] <;> omega)) only [Int.reduceGT, ne_eq, List.length_replicate, wD, Nat.reduceAdd, Nat.reduceEqDiff, Nat.reduceBEq, ↓reduceIte, reduceCtorEq, SX.exit.injEq, if_true, if_false, Int.reduceAdd, Int.reduceSub, Int.reduceMul, Int.reduceLT, Int.reduceLE, Int.reduceEq, Int.reduceNe, Int.reduceNeg, Int.reduceToNat, Nat.reduceMul, Nat.reduceLT, Nat.reduceSub, Nat.reduceLeDiff]
      exact ⟨.inr trivial, _, rfl, ⟨[(85, .blk 85 0)], rfl, au0, au9, au10⟩⟩
end Go.AM.SE
namespace Go.AM.SE
open Go.Proofs Go.AM.SD
set_option maxRecDepth 100000
set_option linter.unusedSimpArgs false
set_option linter.unusedVariables false
abbrev tyTo : Ty := .arr 5 (.arr 5 (.int .u8))
abbrev tyGr : Ty := .st (.pair (.int .u8) (.pair (.int .u8) (.pair tyTo .unit)))
abbrev tyTask : Ty := .st (.pair (.int .u8) (.pair tyGr (.pair (.int .u32) (.pair (.int .u8) .unit))))
theorem u8_wf {n : Int} (h : (Lit.int .u8 n).wf = true) : 0 ≤ n ∧ n < 256 := by
  simp [Lit.wf, IntKind.min, IntKind.max, IntKind.signed, IntKind.bits] at h
  omega
theorem u32_wf {n : Int} (h : (Lit.int .u32 n).wf = true) : 0 ≤ n ∧ n < 4294967296 := by
  simp [Lit.wf, IntKind.min, IntKind.max, IntKind.signed, IntKind.bits] at h
  omega
theorem u8s_in {l : List Int} (h : ∀ x ∈ l, (Lit.int .u8 x).wf = true) : l.flatMap (Ty.cells (.int .u8)) = u8s (l.map Int.toNat) := by
  induction l with
  | nil => rfl
  | cons x l ih =>
    have h1 := u8_wf (h x (by simp))
    rw [List.flatMap_cons, ih fun y hy => h y (by simp [hy])]
    simp only [Ty.cells, u8s, List.map_cons, List.singleton_append]
    rw [Int.toNat_of_nonneg h1.1]
abbrev ty5 : Ty := .arr 5 (.int .u8)
theorem to_in {w : tyTo.D} (h : tyTo.wf w) : ∃ l : List Nat, l.length = 25 ∧ (∀ x ∈ l, x < 256) ∧ tyTo.cells w = u8s l := by
  obtain ⟨h1, h2⟩ := h
  have key : ∀ l : List (List Int), (∀ x ∈ l, ty5.wf x) → ∃ r : List Nat, r.length = l.length * 5 ∧ (∀ x ∈ r, x < 256) ∧ l.flatMap ty5.cells = u8s r := by
    intro l
    induction l with
    | nil => intro _; exact ⟨[], rfl, (fun x hx => by cases hx), rfl⟩
    | cons a l ih =>
      intro hl
      obtain ⟨r, g1, g2, g3⟩ := ih fun y hy => hl y (by simp [hy])
      obtain ⟨a1, a2⟩ := hl a (by simp)
      refine ⟨(show List Int from a).map Int.toNat ++ r, ?_, ?_, ?_⟩
      · rw [List.length_append, List.length_map, a1, g1, List.length_cons, Nat.succ_mul]; omega
      · intro x hx
        rcases List.mem_append.1 hx with hx | hx
        · obtain ⟨y, hy, rfl⟩ := List.mem_map.1 hx
          have := u8_wf (a2 y hy)
          omega
        · exact g2 x hx
      · rw [List.flatMap_cons, g3]
        have : ty5.cells a = u8s ((show List Int from a).map Int.toNat) := u8s_in a2
        rw [this]
        simp [u8s]
  obtain ⟨r, g1, g2, g3⟩ := key w h2
  exact ⟨r, by rw [g1, h1], g2, g3⟩
theorem tsk_in {d : tyTask.D} (h : tyTask.wf d) : ∃ t : Tsk, TOk t ∧ tyTask.val d = tskV t := by
  obtain ⟨a, ⟨b, c, w, u1⟩, f, g, u2⟩ := d
  obtain ⟨h1, ⟨h2, h3, h4, _⟩, h5, h6, _⟩ := h
  dsimp only at h1 h2 h3 h4 h5 h6
  obtain ⟨T, t1, t2, t3⟩ := to_in h4
  have e1 := u8_wf h1
  have e2 := u8_wf h2
  have e3 := u8_wf h3
  have e5 := u32_wf h5
  have e6 := u8_wf h6
  refine ⟨⟨a.toNat, b.toNat, c.toNat, T, f.toNat, g.toNat⟩, ⟨by dsimp only; omega, by dsimp only; omega, by dsimp only; omega, t1, t2, by dsimp only; omega, by dsimp only; omega⟩, ?_⟩
  show AV.agg _ = _
  congr 1
  simp only [Ty.cells] at t3 ⊢
  rw [t3, Int.toNat_of_nonneg e1.1, Int.toNat_of_nonneg e2.1, Int.toNat_of_nonneg e3.1, Int.toNat_of_nonneg e5.1, Int.toNat_of_nonneg e6.1]
  simp only [List.singleton_append, List.append_nil, List.cons_append, List.nil_append]
end Go.AM.SE
namespace Go.AM.SE
open Go.Proofs Go.AM.SD
end Go.AM.SE
namespace Go.AM.SE
open Go.Proofs Go.AM.SD
set_option maxRecDepth 100000
set_option linter.unusedSimpArgs false
set_option linter.unusedVariables false
theorem left0_map {n : Nat} {F : List Nat} : (List.range n).map (fun x => !F.contains x) = left0 n F := by
  refine List.ext_getElem (by simp [left0_len]) fun i h1 h2 => ?_
  have hi : i < n := by simpa using h1
  have e : (left0 n F)[i] = lf (left0 n F) i := by simp [lf, h2]
  rw [e, Bool.eq_iff_iff, lf_left0]
  simp [hi]
def lfP (n : Nat) (F : List Nat) (i : Nat) : LB := (List.range i).map (fun x => !F.contains x) ++ List.replicate (n - i) false
theorem lfP_len {n i : Nat} {F : List Nat} (h : i ≤ n) : (lfP n F i).length = n := by unfold lfP; simp; omega
theorem lfP_set {n i : Nat} {F : List Nat} (h : i < n) : (lfP n F i).set i (!F.contains i) = lfP n F (i + 1) := by
  unfold lfP
  rw [List.set_append_right _ _ (by simp), List.length_map, List.length_range, Nat.sub_self, show n - i = (n - (i + 1)) + 1 by omega, List.replicate_succ, List.set_cons_zero, List.range_succ, List.map_append, List.append_assoc]; rfl
theorem lfP_end {n : Nat} {F : List Nat} : lfP n F n = left0 n F := by unfold lfP; rw [Nat.sub_self, left0_map]; simp
end Go.AM.SE
namespace Go.AM.SE
open Go.Proofs Go.AM.SD
set_option maxRecDepth 100000
set_option linter.unusedSimpArgs false
set_option linter.unusedVariables false
end Go.AM.SE
namespace Go.AM.SE
open Go.Proofs Go.AM.SD
set_option maxRecDepth 100000
set_option linter.unusedSimpArgs false
set_option linter.unusedVariables false
end Go.AM.SE
namespace Go.AM.SE
open Go.Proofs Go.AM.SD
set_option maxRecDepth 100000
set_option linter.unusedSimpArgs false
set_option linter.unusedVariables false
abbrev edV (e : Ed) : AV := .agg [.int .i64 (e.1 : Int), .int .i64 (e.2.1 : Int), .int .i64 (e.2.2 : Int)]
theorem aEq_ed (x y : Ed) : aEq (.flat true [.i, .i, .i]) true (edV x) (edV y) = some (.bool (!decide (x = y))) := by
  have : ∀ n m : Nat, decide ((n : Int) = (m : Int)) = decide (n = m) := fun n m => decide_eq_decide.2 (by omega)
  obtain ⟨a, b, c⟩ := x
  obtain ⟨a', b', c'⟩ := y
  simp only [aEq, eqCells, eqCell, if_true]
  simp only [Prod.mk.injEq, Bool.decide_and, this]
  cases decide (a = a') <;> cases decide (b = b') <;> cases decide (c = c') <;> rfl
theorem eq41 (a b : List Int) (hl : b.length ≤ 1000000) : PSpec Try.prog 41 [sli a, sli b] (.bool (decide (a = b))) := by
  refine PSpec.of_flat 64 ok41 rfl (by (try simp only [noRefs, noRefs_u8, noRefs_keysI, noRefs_back, noRefs_ints, noRefs_eg, noRefs_ed, noRefs_rm, noRefs_ls, noRefs_bls, noRef, Bool.and_self, Bool.and_true]) <;> rfl) rfl ?_
  by_cases hab : a.length = b.length
  · simp (maxSteps := 1000000) (disch := first | omega | exact PairsOK.mk rfl | (simp only [lenW] <;> omega)) only [s41, hab, Int.reduceGT, ne_eq, List.length_replicate, wD, Nat.reduceAdd, Nat.reduceEqDiff, Nat.reduceBEq, ↓reduceIte, reduceCtorEq, SX.exit.injEq, if_true, if_false, Int.reduceAdd, Int.reduceSub, Int.reduceMul, Int.reduceLT, Int.reduceLE, Int.reduceEq, Int.reduceNe, Int.reduceNeg, Int.reduceToNat, Nat.reduceMul, Nat.reduceLT, Nat.reduceSub, Nat.reduceLeDiff]
    refine wS_loopR 100 (fun i : Nat => [(0, sli a), (1, sli b), (12, .int .i64 b.length), (13, .int .i64 i)]) (fun _ => []) (fun i => i ≤ b.length ∧ ∀ j, j < i → a[j]? = b[j]?) (fun i => b.length - i) 0 ⟨[], rfl, au0, au9, au10⟩ ⟨Nat.zero_le _, fun j hj => absurd hj (Nat.not_lt_zero _)⟩ ?_
    rintro i ⟨hi, hb⟩
    by_cases hlt : i < b.length
    · obtain ⟨x, hx⟩ := get_ex (l := a) (i := i) (by omega)
      obtain ⟨y, hy⟩ := get_ex (l := b) (i := i) (by omega)
      have hlt2 : i < a.length := by omega
      by_cases h0 : x = y
      · have hq : True := by trivial
        simp (maxSteps := 1000000) (disch := first | omega | exact PairsOK.mk rfl | (simp only [lenW] <;> omega)) only [hlt, hlt2, head_ints hx, head_ints hy, h0, hq, Int.reduceGT, ne_eq, List.length_replicate, wD, Nat.reduceAdd, Nat.reduceEqDiff, Nat.reduceBEq, ↓reduceIte, reduceCtorEq, SX.exit.injEq, if_true, if_false, Int.reduceAdd, Int.reduceSub, Int.reduceMul, Int.reduceLT, Int.reduceLE, Int.reduceEq, Int.reduceNe, Int.reduceNeg, Int.reduceToNat, Nat.reduceMul, Nat.reduceLT, Nat.reduceSub, Nat.reduceLeDiff]
        refine ⟨i + 1, by omega, ⟨by omega, fun j hj => ?_⟩, ⟨[], rfl, au0, au9, au10⟩⟩
        by_cases e : j = i
        · subst e; rw [hx, hy, h0]
        · exact hb j (by omega)
      · have hq : True := by trivial
        simp (maxSteps := 1000000) (disch := first | omega | exact PairsOK.mk rfl | (simp only [lenW] <;> omega)) only [hlt, hlt2, head_ints hx, head_ints hy, h0, hq, Int.reduceGT, ne_eq, List.length_replicate, wD, Nat.reduceAdd, Nat.reduceEqDiff, Nat.reduceBEq, ↓reduceIte, reduceCtorEq, SX.exit.injEq, if_true, if_false, Int.reduceAdd, Int.reduceSub, Int.reduceMul, Int.reduceLT, Int.reduceLE, Int.reduceEq, Int.reduceNe, Int.reduceNeg, Int.reduceToNat, Nat.reduceMul, Nat.reduceLT, Nat.reduceSub, Nat.reduceLeDiff]
        refine ⟨.inr trivial, _, rfl, ?_⟩
        have : a ≠ b := fun e => by subst e; rw [hx] at hy; cases hy; exact h0 rfl
        simp [resOf, lk_cons, this]
    · have : a = b := List.ext_getElem? fun j => by
        by_cases hj : j < i
        · exact hb j hj
        · rw [List.getElem?_eq_none (by omega), List.getElem?_eq_none (by omega)]
      simp (maxSteps := 1000000) (disch := first | omega | exact PairsOK.mk rfl | (simp only [lenW] <;> omega)) only [hlt, Int.reduceGT, ne_eq, List.length_replicate, wD, Nat.reduceAdd, Nat.reduceEqDiff, Nat.reduceBEq, ↓reduceIte, reduceCtorEq, SX.exit.injEq, if_true, if_false, Int.reduceAdd, Int.reduceSub, Int.reduceMul, Int.reduceLT, Int.reduceLE, Int.reduceEq, Int.reduceNe, Int.reduceNeg, Int.reduceToNat, Nat.reduceMul, Nat.reduceLT, Nat.reduceSub, Nat.reduceLeDiff]
      exact ⟨.inr trivial, _, rfl, by simp [resOf, lk_cons, this]⟩
  · simp (maxSteps := 1000000) (disch := first | omega | exact PairsOK.mk rfl | (simp only [lenW] <;> omega)) only [s41, hab, Int.reduceGT, ne_eq, List.length_replicate, wD, Nat.reduceAdd, Nat.reduceEqDiff, Nat.reduceBEq, ↓reduceIte, reduceCtorEq, SX.exit.injEq, if_true, if_false, Int.reduceAdd, Int.reduceSub, Int.reduceMul, Int.reduceLT, Int.reduceLE, Int.reduceEq, Int.reduceNe, Int.reduceNeg, Int.reduceToNat, Nat.reduceMul, Nat.reduceLT, Nat.reduceSub, Nat.reduceLeDiff]
    have : a ≠ b := fun e => hab (by rw [e])
    exact ⟨.inr trivial, _, rfl, by simp [resOf, lk_cons, this]⟩
theorem eq42 (a b : List Rm) (hl : b.length ≤ 1000000) : PSpec Try.prog 42 [rms a, rms b] (.bool (decide (a = b))) := by
  refine PSpec.of_flat 64 ok42 rfl (by (try simp only [noRefs, noRefs_u8, noRefs_keysI, noRefs_back, noRefs_ints, noRefs_eg, noRefs_ed, noRefs_rm, noRefs_ls, noRefs_bls, noRef, Bool.and_self, Bool.and_true]) <;> rfl) rfl ?_
  by_cases hab : a.length = b.length
  · simp (maxSteps := 1000000) (disch := first | omega | exact PairsOK.mk rfl | (simp only [lenW] <;> omega)) only [s42, hab, Int.reduceGT, ne_eq, List.length_replicate, wD, Nat.reduceAdd, Nat.reduceEqDiff, Nat.reduceBEq, ↓reduceIte, reduceCtorEq, SX.exit.injEq, if_true, if_false, Int.reduceAdd, Int.reduceSub, Int.reduceMul, Int.reduceLT, Int.reduceLE, Int.reduceEq, Int.reduceNe, Int.reduceNeg, Int.reduceToNat, Nat.reduceMul, Nat.reduceLT, Nat.reduceSub, Nat.reduceLeDiff]
    refine wS_loopR 100 (fun i : Nat => [(0, rms a), (1, rms b), (12, .int .i64 b.length), (13, .int .i64 i)]) (fun _ => []) (fun i => i ≤ b.length ∧ ∀ j, j < i → a[j]? = b[j]?) (fun i => b.length - i) 0 ⟨[], rfl, au0, au9, au10⟩ ⟨Nat.zero_le _, fun j hj => absurd hj (Nat.not_lt_zero _)⟩ ?_
    rintro i ⟨hi, hb⟩
    by_cases hlt : i < b.length
    · obtain ⟨x, hx⟩ := get_ex (l := a) (i := i) (by omega)
      obtain ⟨y, hy⟩ := get_ex (l := b) (i := i) (by omega)
      have hlt2 : i < a.length := by omega
      by_cases h0 : x = y
      · have hq : aEq (.flat true [.i, .i, .i, .i]) true (rmV y) (rmV y) = some (.bool false) := by rw [aEq_rm]; simp
        simp (maxSteps := 1000000) (disch := first | omega | exact PairsOK.mk rfl | (simp only [lenW] <;> omega)) only [hlt, hlt2, drop_rms hx, drop_rms hy, h0, hq, Int.reduceGT, ne_eq, List.length_replicate, wD, Nat.reduceAdd, Nat.reduceEqDiff, Nat.reduceBEq, ↓reduceIte, reduceCtorEq, SX.exit.injEq, if_true, if_false, Int.reduceAdd, Int.reduceSub, Int.reduceMul, Int.reduceLT, Int.reduceLE, Int.reduceEq, Int.reduceNe, Int.reduceNeg, Int.reduceToNat, Nat.reduceMul, Nat.reduceLT, Nat.reduceSub, Nat.reduceLeDiff]
        refine ⟨i + 1, by omega, ⟨by omega, fun j hj => ?_⟩, ⟨[], rfl, au0, au9, au10⟩⟩
        by_cases e : j = i
        · subst e; rw [hx, hy, h0]
        · exact hb j (by omega)
      · have hq : aEq (.flat true [.i, .i, .i, .i]) true (rmV x) (rmV y) = some (.bool true) := by rw [aEq_rm]; simp [h0]
        simp (maxSteps := 1000000) (disch := first | omega | exact PairsOK.mk rfl | (simp only [lenW] <;> omega)) only [hlt, hlt2, drop_rms hx, drop_rms hy, h0, hq, Int.reduceGT, ne_eq, List.length_replicate, wD, Nat.reduceAdd, Nat.reduceEqDiff, Nat.reduceBEq, ↓reduceIte, reduceCtorEq, SX.exit.injEq, if_true, if_false, Int.reduceAdd, Int.reduceSub, Int.reduceMul, Int.reduceLT, Int.reduceLE, Int.reduceEq, Int.reduceNe, Int.reduceNeg, Int.reduceToNat, Nat.reduceMul, Nat.reduceLT, Nat.reduceSub, Nat.reduceLeDiff]
        refine ⟨.inr trivial, _, rfl, ?_⟩
        have : a ≠ b := fun e => by subst e; rw [hx] at hy; cases hy; exact h0 rfl
        simp [resOf, lk_cons, this]
    · have : a = b := List.ext_getElem? fun j => by
        by_cases hj : j < i
        · exact hb j hj
        · rw [List.getElem?_eq_none (by omega), List.getElem?_eq_none (by omega)]
      simp (maxSteps := 1000000) (disch := first | omega | exact PairsOK.mk rfl | (simp only [lenW] <;> omega)) only [hlt, Int.reduceGT, ne_eq, List.length_replicate, wD, Nat.reduceAdd, Nat.reduceEqDiff, Nat.reduceBEq, ↓reduceIte, reduceCtorEq, SX.exit.injEq, if_true, if_false, Int.reduceAdd, Int.reduceSub, Int.reduceMul, Int.reduceLT, Int.reduceLE, Int.reduceEq, Int.reduceNe, Int.reduceNeg, Int.reduceToNat, Nat.reduceMul, Nat.reduceLT, Nat.reduceSub, Nat.reduceLeDiff]
      exact ⟨.inr trivial, _, rfl, by simp [resOf, lk_cons, this]⟩
  · simp (maxSteps := 1000000) (disch := first | omega | exact PairsOK.mk rfl | (simp only [lenW] <;> omega)) only [s42, hab, Int.reduceGT, ne_eq, List.length_replicate, wD, Nat.reduceAdd, Nat.reduceEqDiff, Nat.reduceBEq, ↓reduceIte, reduceCtorEq, SX.exit.injEq, if_true, if_false, Int.reduceAdd, Int.reduceSub, Int.reduceMul, Int.reduceLT, Int.reduceLE, Int.reduceEq, Int.reduceNe, Int.reduceNeg, Int.reduceToNat, Nat.reduceMul, Nat.reduceLT, Nat.reduceSub, Nat.reduceLeDiff]
    have : a ≠ b := fun e => hab (by rw [e])
    exact ⟨.inr trivial, _, rfl, by simp [resOf, lk_cons, this]⟩
theorem eq55 (a b : List Ed) (hl : b.length ≤ 10000000) : PSpec Try.prog 55 [egsN a, egsN b] (.bool (decide (a = b))) := by
  refine PSpec.of_flat 64 ok55 rfl (by (try simp only [noRefs, noRefs_u8, noRefs_keysI, noRefs_back, noRefs_ints, noRefs_eg, noRefs_ed, noRefs_rm, noRefs_ls, noRefs_bls, noRef, Bool.and_self, Bool.and_true]) <;> rfl) rfl ?_
  by_cases hab : a.length = b.length
  · simp (maxSteps := 1000000) (disch := first | omega | exact PairsOK.mk rfl | (simp only [lenW] <;> omega)) only [s55, hab, Int.reduceGT, ne_eq, List.length_replicate, wD, Nat.reduceAdd, Nat.reduceEqDiff, Nat.reduceBEq, ↓reduceIte, reduceCtorEq, SX.exit.injEq, if_true, if_false, Int.reduceAdd, Int.reduceSub, Int.reduceMul, Int.reduceLT, Int.reduceLE, Int.reduceEq, Int.reduceNe, Int.reduceNeg, Int.reduceToNat, Nat.reduceMul, Nat.reduceLT, Nat.reduceSub, Nat.reduceLeDiff]
    refine wS_loopR 100 (fun i : Nat => [(0, egsN a), (1, egsN b), (12, .int .i64 b.length), (13, .int .i64 i)]) (fun _ => []) (fun i => i ≤ b.length ∧ ∀ j, j < i → a[j]? = b[j]?) (fun i => b.length - i) 0 ⟨[], rfl, au0, au9, au10⟩ ⟨Nat.zero_le _, fun j hj => absurd hj (Nat.not_lt_zero _)⟩ ?_
    rintro i ⟨hi, hb⟩
    by_cases hlt : i < b.length
    · obtain ⟨x, hx⟩ := get_ex (l := a) (i := i) (by omega)
      obtain ⟨y, hy⟩ := get_ex (l := b) (i := i) (by omega)
      have hlt2 : i < a.length := by omega
      by_cases h0 : x = y
      · have hq : aEq (.flat true [.i, .i, .i]) true (edV y) (edV y) = some (.bool false) := by rw [aEq_ed]; simp
        simp (maxSteps := 1000000) (disch := first | omega | exact PairsOK.mk rfl | (simp only [lenW] <;> omega)) only [hlt, hlt2, drop_eds hx, drop_eds hy, h0, hq, Int.reduceGT, ne_eq, List.length_replicate, wD, Nat.reduceAdd, Nat.reduceEqDiff, Nat.reduceBEq, ↓reduceIte, reduceCtorEq, SX.exit.injEq, if_true, if_false, Int.reduceAdd, Int.reduceSub, Int.reduceMul, Int.reduceLT, Int.reduceLE, Int.reduceEq, Int.reduceNe, Int.reduceNeg, Int.reduceToNat, Nat.reduceMul, Nat.reduceLT, Nat.reduceSub, Nat.reduceLeDiff]
        refine ⟨i + 1, by omega, ⟨by omega, fun j hj => ?_⟩, ⟨[], rfl, au0, au9, au10⟩⟩
        by_cases e : j = i
        · subst e; rw [hx, hy, h0]
        · exact hb j (by omega)
      · have hq : aEq (.flat true [.i, .i, .i]) true (edV x) (edV y) = some (.bool true) := by rw [aEq_ed]; simp [h0]
        simp (maxSteps := 1000000) (disch := first | omega | exact PairsOK.mk rfl | (simp only [lenW] <;> omega)) only [hlt, hlt2, drop_eds hx, drop_eds hy, h0, hq, Int.reduceGT, ne_eq, List.length_replicate, wD, Nat.reduceAdd, Nat.reduceEqDiff, Nat.reduceBEq, ↓reduceIte, reduceCtorEq, SX.exit.injEq, if_true, if_false, Int.reduceAdd, Int.reduceSub, Int.reduceMul, Int.reduceLT, Int.reduceLE, Int.reduceEq, Int.reduceNe, Int.reduceNeg, Int.reduceToNat, Nat.reduceMul, Nat.reduceLT, Nat.reduceSub, Nat.reduceLeDiff]
        refine ⟨.inr trivial, _, rfl, ?_⟩
        have : a ≠ b := fun e => by subst e; rw [hx] at hy; cases hy; exact h0 rfl
        simp [resOf, lk_cons, this]
    · have : a = b := List.ext_getElem? fun j => by
        by_cases hj : j < i
        · exact hb j hj
        · rw [List.getElem?_eq_none (by omega), List.getElem?_eq_none (by omega)]
      simp (maxSteps := 1000000) (disch := first | omega | exact PairsOK.mk rfl | (simp only [lenW] <;> omega)) only [hlt, Int.reduceGT, ne_eq, List.length_replicate, wD, Nat.reduceAdd, Nat.reduceEqDiff, Nat.reduceBEq, ↓reduceIte, reduceCtorEq, SX.exit.injEq, if_true, if_false, Int.reduceAdd, Int.reduceSub, Int.reduceMul, Int.reduceLT, Int.reduceLE, Int.reduceEq, Int.reduceNe, Int.reduceNeg, Int.reduceToNat, Nat.reduceMul, Nat.reduceLT, Nat.reduceSub, Nat.reduceLeDiff]
      exact ⟨.inr trivial, _, rfl, by simp [resOf, lk_cons, this]⟩
  · simp (maxSteps := 1000000) (disch := first | omega | exact PairsOK.mk rfl | (simp only [lenW] <;> omega)) only [s55, hab, Int.reduceGT, ne_eq, List.length_replicate, wD, Nat.reduceAdd, Nat.reduceEqDiff, Nat.reduceBEq, ↓reduceIte, reduceCtorEq, SX.exit.injEq, if_true, if_false, Int.reduceAdd, Int.reduceSub, Int.reduceMul, Int.reduceLT, Int.reduceLE, Int.reduceEq, Int.reduceNe, Int.reduceNeg, Int.reduceToNat, Nat.reduceMul, Nat.reduceLT, Nat.reduceSub, Nat.reduceLeDiff]
    have : a ≠ b := fun e => hab (by rw [e])
    exact ⟨.inr trivial, _, rfl, by simp [resOf, lk_cons, this]⟩
theorem nz_inj {a b : List Nat} : decide (nz a = nz b) = decide (a = b) := by
  refine decide_eq_decide.2 ⟨fun h => ?_, fun h => by rw [h]⟩
  have : ∀ a b : List Nat, nz a = nz b → a = b := by
    intro a
    induction a with
    | nil => intro b h; cases b with
      | nil => rfl
      | cons => simp at h
    | cons x a ih => intro b h; cases b with
      | nil => simp at h
      | cons y b =>
        simp only [nz, List.map_cons, List.cons.injEq] at h
        rw [ih b h.2, show x = y by omega]
  exact this a b h
theorem eq41N (a b : List Nat) (hl : b.length ≤ 1000000) : PSpec Try.prog 41 [sliN a, sliN b] (.bool (decide (a = b))) := by
  have := eq41 (nz a) (nz b) (by simpa using hl)
  rw [sli_nz, sli_nz, nz_inj] at this; exact this
theorem eq14N (a b : List Nat) (hl : a.length ≤ 1000000) : PSpec Try.prog 14 [sliN a, sliN b] (.bool (decide (a = b))) := by
  have := sameInts (nz a) (nz b) (by simp; omega)
  rw [sli_nz, sli_nz, nz_inj] at this; exact this
def autB (x y : Aut) : Bool := decide (x.n = y.n) && (decide (x.al = y.al) && (decide (x.ms = y.ms) && decide (x.es = y.es)))
structure AOk (r : Aut) : Prop where
  al : r.al.length ≤ 1000000
  ms : r.ms.length ≤ 1000000
  es : r.es.length ≤ 10000000
theorem eq43 (x y : Aut) (hx : AOk x) (hy : AOk y) : PSpec Try.prog 43 [aV x, aV y] (.bool (autB x y)) := by
  refine PSpec.of_flat 64 ok43 rfl (by (try simp only [noRefs, noRefs_u8, noRefs_keysI, noRefs_back, noRefs_ints, noRefs_eg, noRefs_ed, noRefs_rm, noRefs_ls, noRefs_bls, noRef, Bool.and_self, Bool.and_true]) <;> rfl) rfl ?_
  have c1 := eq41N x.al y.al hy.al
  have c2 := eq41N x.ms y.ms hy.ms
  have c3 := eq55 x.es y.es hy.es
  unfold autB
  by_cases h1 : x.n = y.n
  · rw [decide_eq_true h1, Bool.true_and]
    generalize decide (x.al = y.al) = b1 at *
    generalize decide (x.ms = y.ms) = b2 at *
    generalize decide (x.es = y.es) = b3 at *
    simp (maxSteps := 1000000) (disch := first | omega | exact PairsOK.mk rfl | (simp only [lenW] <;> omega)) only [s43, h1, Int.reduceGT, ne_eq, List.length_replicate, wD, Nat.reduceAdd, Nat.reduceEqDiff, Nat.reduceBEq, ↓reduceIte, reduceCtorEq, SX.exit.injEq, if_true, if_false, Int.reduceAdd, Int.reduceSub, Int.reduceMul, Int.reduceLT, Int.reduceLE, Int.reduceEq, Int.reduceNe, Int.reduceNeg, Int.reduceToNat, Nat.reduceMul, Nat.reduceLT, Nat.reduceSub, Nat.reduceLeDiff]
    refine cp c1 ?_
    cases b1 with
    | false =>
      simp (maxSteps := 1000000) (disch := first | omega | exact PairsOK.mk rfl | (simp only [lenW] <;> omega)) only [Int.reduceGT, ne_eq, List.length_replicate, wD, Nat.reduceAdd, Nat.reduceEqDiff, Nat.reduceBEq, ↓reduceIte, reduceCtorEq, SX.exit.injEq, if_true, if_false, Int.reduceAdd, Int.reduceSub, Int.reduceMul, Int.reduceLT, Int.reduceLE, Int.reduceEq, Int.reduceNe, Int.reduceNeg, Int.reduceToNat, Nat.reduceMul, Nat.reduceLT, Nat.reduceSub, Nat.reduceLeDiff]
      exact ⟨.inr trivial, _, rfl, rfl⟩
    | true =>
      simp (maxSteps := 1000000) (disch := first | omega | exact PairsOK.mk rfl | (simp only [lenW] <;> omega)) only [Int.reduceGT, ne_eq, List.length_replicate, wD, Nat.reduceAdd, Nat.reduceEqDiff, Nat.reduceBEq, ↓reduceIte, reduceCtorEq, SX.exit.injEq, if_true, if_false, Int.reduceAdd, Int.reduceSub, Int.reduceMul, Int.reduceLT, Int.reduceLE, Int.reduceEq, Int.reduceNe, Int.reduceNeg, Int.reduceToNat, Nat.reduceMul, Nat.reduceLT, Nat.reduceSub, Nat.reduceLeDiff]
      refine cp c2 ?_
      cases b2 with
      | false =>
        simp (maxSteps := 1000000) (disch := first | omega | exact PairsOK.mk rfl | (simp only [lenW] <;> omega)) only [Int.reduceGT, ne_eq, List.length_replicate, wD, Nat.reduceAdd, Nat.reduceEqDiff, Nat.reduceBEq, ↓reduceIte, reduceCtorEq, SX.exit.injEq, if_true, if_false, Int.reduceAdd, Int.reduceSub, Int.reduceMul, Int.reduceLT, Int.reduceLE, Int.reduceEq, Int.reduceNe, Int.reduceNeg, Int.reduceToNat, Nat.reduceMul, Nat.reduceLT, Nat.reduceSub, Nat.reduceLeDiff]
        exact ⟨.inr trivial, _, rfl, rfl⟩
      | true =>
        simp (maxSteps := 1000000) (disch := first | omega | exact PairsOK.mk rfl | (simp only [lenW] <;> omega)) only [Int.reduceGT, ne_eq, List.length_replicate, wD, Nat.reduceAdd, Nat.reduceEqDiff, Nat.reduceBEq, ↓reduceIte, reduceCtorEq, SX.exit.injEq, if_true, if_false, Int.reduceAdd, Int.reduceSub, Int.reduceMul, Int.reduceLT, Int.reduceLE, Int.reduceEq, Int.reduceNe, Int.reduceNeg, Int.reduceToNat, Nat.reduceMul, Nat.reduceLT, Nat.reduceSub, Nat.reduceLeDiff]
        refine cp c3 ?_
        simp (maxSteps := 1000000) (disch := first | omega | exact PairsOK.mk rfl | (simp only [lenW] <;> omega)) only [Int.reduceGT, ne_eq, List.length_replicate, wD, Nat.reduceAdd, Nat.reduceEqDiff, Nat.reduceBEq, ↓reduceIte, reduceCtorEq, SX.exit.injEq, if_true, if_false, Int.reduceAdd, Int.reduceSub, Int.reduceMul, Int.reduceLT, Int.reduceLE, Int.reduceEq, Int.reduceNe, Int.reduceNeg, Int.reduceToNat, Nat.reduceMul, Nat.reduceLT, Nat.reduceSub, Nat.reduceLeDiff]
        exact ⟨.inr trivial, _, rfl, rfl⟩
  · rw [decide_eq_false h1, Bool.false_and]
    simp (maxSteps := 1000000) (disch := first | omega | exact PairsOK.mk rfl | (simp only [lenW] <;> omega)) only [s43, h1, Int.reduceGT, ne_eq, List.length_replicate, wD, Nat.reduceAdd, Nat.reduceEqDiff, Nat.reduceBEq, ↓reduceIte, reduceCtorEq, SX.exit.injEq, if_true, if_false, Int.reduceAdd, Int.reduceSub, Int.reduceMul, Int.reduceLT, Int.reduceLE, Int.reduceEq, Int.reduceNe, Int.reduceNeg, Int.reduceToNat, Nat.reduceMul, Nat.reduceLT, Nat.reduceSub, Nat.reduceLeDiff]
    exact ⟨.inr trivial, _, rfl, rfl⟩
set_option maxHeartbeats 32000000 in
theorem same30 (x y : Aut) (hx : AOk x) (hy : AOk y) : PSpec Try.prog 30 [aV x, aV y] (.bool (autB x y)) := by
  refine PSpec.of_flat 64 ok30 rfl (by (try simp only [noRefs, noRefs_u8, noRefs_keysI, noRefs_back, noRefs_ints, noRefs_eg, noRefs_ed, noRefs_rm, noRefs_ls, noRefs_bls, noRef, Bool.and_self, Bool.and_true]) <;> rfl) rfl ?_
  have c1 := eq14N x.al y.al hx.al
  have c2 := eq14N x.ms y.ms hx.ms
  unfold autB
  have hel := hx.es
  have hel2 := hy.es
  generalize decide (x.al = y.al) = b1 at *
  generalize decide (x.ms = y.ms) = b2 at *
  simp (maxSteps := 1000000) (disch := first | omega | exact PairsOK.mk rfl | (simp only [lenW] <;> omega)) only [s30, Int.reduceGT, ne_eq, List.length_replicate, wD, Nat.reduceAdd, Nat.reduceEqDiff, Nat.reduceBEq, ↓reduceIte, reduceCtorEq, SX.exit.injEq, if_true, if_false, Int.reduceAdd, Int.reduceSub, Int.reduceMul, Int.reduceLT, Int.reduceLE, Int.reduceEq, Int.reduceNe, Int.reduceNeg, Int.reduceToNat, Nat.reduceMul, Nat.reduceLT, Nat.reduceSub, Nat.reduceLeDiff]
  refine cp c1 ?_
  cases b1 with
  | false =>
    rw [Bool.false_and, Bool.and_false]
    simp (maxSteps := 1000000) (disch := first | omega | exact PairsOK.mk rfl | (simp only [lenW] <;> omega)) only [Int.reduceGT, ne_eq, List.length_replicate, wD, Nat.reduceAdd, Nat.reduceEqDiff, Nat.reduceBEq, ↓reduceIte, reduceCtorEq, SX.exit.injEq, if_true, if_false, Int.reduceAdd, Int.reduceSub, Int.reduceMul, Int.reduceLT, Int.reduceLE, Int.reduceEq, Int.reduceNe, Int.reduceNeg, Int.reduceToNat, Nat.reduceMul, Nat.reduceLT, Nat.reduceSub, Nat.reduceLeDiff]
    exact ⟨.inr trivial, _, rfl, rfl⟩
  | true =>
    by_cases h1 : x.n = y.n
    · rw [decide_eq_true h1, Bool.true_and, Bool.true_and]
      simp (maxSteps := 1000000) (disch := first | omega | exact PairsOK.mk rfl | (simp only [lenW] <;> omega)) only [h1, Int.reduceGT, ne_eq, List.length_replicate, wD, Nat.reduceAdd, Nat.reduceEqDiff, Nat.reduceBEq, ↓reduceIte, reduceCtorEq, SX.exit.injEq, if_true, if_false, Int.reduceAdd, Int.reduceSub, Int.reduceMul, Int.reduceLT, Int.reduceLE, Int.reduceEq, Int.reduceNe, Int.reduceNeg, Int.reduceToNat, Nat.reduceMul, Nat.reduceLT, Nat.reduceSub, Nat.reduceLeDiff]
      refine cp c2 ?_
      cases b2 with
      | false =>
        rw [Bool.false_and]
        simp (maxSteps := 1000000) (disch := first | omega | exact PairsOK.mk rfl | (simp only [lenW] <;> omega)) only [Int.reduceGT, ne_eq, List.length_replicate, wD, Nat.reduceAdd, Nat.reduceEqDiff, Nat.reduceBEq, ↓reduceIte, reduceCtorEq, SX.exit.injEq, if_true, if_false, Int.reduceAdd, Int.reduceSub, Int.reduceMul, Int.reduceLT, Int.reduceLE, Int.reduceEq, Int.reduceNe, Int.reduceNeg, Int.reduceToNat, Nat.reduceMul, Nat.reduceLT, Nat.reduceSub, Nat.reduceLeDiff]
        exact ⟨.inr trivial, _, rfl, rfl⟩
      | true =>
        rw [Bool.true_and]
        by_cases h4 : x.es.length = y.es.length
        · simp (maxSteps := 1000000) (disch := first | omega | exact PairsOK.mk rfl | (simp only [lenW] <;> omega)) only [h4, Int.reduceGT, ne_eq, List.length_replicate, wD, Nat.reduceAdd, Nat.reduceEqDiff, Nat.reduceBEq, ↓reduceIte, reduceCtorEq, SX.exit.injEq, if_true, if_false, Int.reduceAdd, Int.reduceSub, Int.reduceMul, Int.reduceLT, Int.reduceLE, Int.reduceEq, Int.reduceNe, Int.reduceNeg, Int.reduceToNat, Nat.reduceMul, Nat.reduceLT, Nat.reduceSub, Nat.reduceLeDiff]
          refine wS_loopR 100 (fun i : Nat => [(2, .ptr 50 0 0), (3, .ptr 60 0 0), (5, .int .i64 i)]) (fun _ => [(50, .cells 0 [sliN x.al, .int .i64 (y.n : Int), sliN x.ms, egsN x.es]), (60, .cells 0 [sliN y.al, .int .i64 (y.n : Int), sliN y.ms, egsN y.es])])
            (fun i => i ≤ y.es.length ∧ ∀ j, j < i → x.es[j]? = y.es[j]?) (fun i => y.es.length - i) 0 ⟨[(50, .blk 64 0), (60, .blk 65 0)], rfl, au0, au9, au10⟩ ⟨Nat.zero_le _, fun j hj => absurd hj (Nat.not_lt_zero _)⟩ ?_
          rintro i ⟨hi, hb⟩
          by_cases hlt : i < x.es.length
          · obtain ⟨p, hp⟩ := get_ex (l := x.es) (i := i) (by omega)
            obtain ⟨q, hq⟩ := get_ex (l := y.es) (i := i) (by omega)
            have hlt2 : i < y.es.length := by omega
            by_cases h0 : p = q
            · have hqq : aEq (.flat true [.i, .i, .i]) true (edV q) (edV q) = some (.bool false) := by rw [aEq_ed]; simp
              simp (maxSteps := 1000000) (disch := first | omega | exact PairsOK.mk rfl | (simp only [lenW] <;> omega)) only [hlt, hlt2, drop_eds hp, drop_eds hq, h0, hqq, Int.reduceGT, ne_eq, List.length_replicate, wD, Nat.reduceAdd, Nat.reduceEqDiff, Nat.reduceBEq, ↓reduceIte, reduceCtorEq, SX.exit.injEq, if_true, if_false, Int.reduceAdd, Int.reduceSub, Int.reduceMul, Int.reduceLT, Int.reduceLE, Int.reduceEq, Int.reduceNe, Int.reduceNeg, Int.reduceToNat, Nat.reduceMul, Nat.reduceLT, Nat.reduceSub, Nat.reduceLeDiff]
              refine ⟨i + 1, by omega, ⟨by omega, fun j hj => ?_⟩, ⟨[(50, .blk 50 0), (60, .blk 60 0)], rfl, au0, au9, au10⟩⟩
              by_cases e : j = i
              · subst e; rw [hp, hq, h0]
              · exact hb j (by omega)
            · have hqq : aEq (.flat true [.i, .i, .i]) true (edV p) (edV q) = some (.bool true) := by rw [aEq_ed]; simp [h0]
              simp (maxSteps := 1000000) (disch := first | omega | exact PairsOK.mk rfl | (simp only [lenW] <;> omega)) only [hlt, hlt2, drop_eds hp, drop_eds hq, hqq, Int.reduceGT, ne_eq, List.length_replicate, wD, Nat.reduceAdd, Nat.reduceEqDiff, Nat.reduceBEq, ↓reduceIte, reduceCtorEq, SX.exit.injEq, if_true, if_false, Int.reduceAdd, Int.reduceSub, Int.reduceMul, Int.reduceLT, Int.reduceLE, Int.reduceEq, Int.reduceNe, Int.reduceNeg, Int.reduceToNat, Nat.reduceMul, Nat.reduceLT, Nat.reduceSub, Nat.reduceLeDiff]
              refine ⟨.inr trivial, _, rfl, ?_⟩
              have : x.es ≠ y.es := fun e => by rw [e, hq] at hp; cases hp; exact h0 rfl
              simp [resOf, lk_cons, this]
          · have : x.es = y.es := List.ext_getElem? fun j => by
              by_cases hj : j < i
              · exact hb j hj
              · rw [List.getElem?_eq_none (by omega), List.getElem?_eq_none (by omega)]
            simp (maxSteps := 1000000) (disch := first | omega | exact PairsOK.mk rfl | (simp only [lenW] <;> omega)) only [hlt, Int.reduceGT, ne_eq, List.length_replicate, wD, Nat.reduceAdd, Nat.reduceEqDiff, Nat.reduceBEq, ↓reduceIte, reduceCtorEq, SX.exit.injEq, if_true, if_false, Int.reduceAdd, Int.reduceSub, Int.reduceMul, Int.reduceLT, Int.reduceLE, Int.reduceEq, Int.reduceNe, Int.reduceNeg, Int.reduceToNat, Nat.reduceMul, Nat.reduceLT, Nat.reduceSub, Nat.reduceLeDiff]
            exact ⟨.inr trivial, _, rfl, by simp [resOf, lk_cons, this]⟩
        · simp (maxSteps := 1000000) (disch := first | omega | exact PairsOK.mk rfl | (simp only [lenW] <;> omega)) only [h4, Int.reduceGT, ne_eq, List.length_replicate, wD, Nat.reduceAdd, Nat.reduceEqDiff, Nat.reduceBEq, ↓reduceIte, reduceCtorEq, SX.exit.injEq, if_true, if_false, Int.reduceAdd, Int.reduceSub, Int.reduceMul, Int.reduceLT, Int.reduceLE, Int.reduceEq, Int.reduceNe, Int.reduceNeg, Int.reduceToNat, Nat.reduceMul, Nat.reduceLT, Nat.reduceSub, Nat.reduceLeDiff]
          have : x.es ≠ y.es := fun e => h4 (by rw [e])
          exact ⟨.inr trivial, _, rfl, by simp [resOf, lk_cons, this]⟩
    · rw [decide_eq_false h1, Bool.false_and]
      simp (maxSteps := 1000000) (disch := first | omega | exact PairsOK.mk rfl | (simp only [lenW] <;> omega)) only [h1, Int.reduceGT, ne_eq, List.length_replicate, wD, Nat.reduceAdd, Nat.reduceEqDiff, Nat.reduceBEq, ↓reduceIte, reduceCtorEq, SX.exit.injEq, if_true, if_false, Int.reduceAdd, Int.reduceSub, Int.reduceMul, Int.reduceLT, Int.reduceLE, Int.reduceEq, Int.reduceNe, Int.reduceNeg, Int.reduceToNat, Nat.reduceMul, Nat.reduceLT, Nat.reduceSub, Nat.reduceLeDiff]
      exact ⟨.inr trivial, _, rfl, rfl⟩
def resB (x y : Res) : Bool := decide (x.kept = y.kept) && (decide (x.dist = y.dist) && (decide (x.rem = y.rem) && (decide (x.rounds = y.rounds) && (autB x.sup y.sup && decide (x.orig = y.orig)))))
structure ROk (r : Res) : Prop where
  kept : r.kept.length ≤ 1000000
  dist : r.dist.length ≤ 1000000
  rem : r.rem.length ≤ 1000000
  orig : r.orig.length ≤ 1000000
  sup : AOk r.sup
theorem autB_refl (x : Aut) : autB x x = true := by simp [autB]
theorem resB_refl (x : Res) : resB x x = true := by simp [resB, autB_refl]
set_option maxHeartbeats 32000000 in
theorem same27 (x y : Res) (hx : ROk x) (hy : ROk y) : PSpec Try.prog 27 [rsV x, rsV y] (.bool (resB x y)) := by
  refine PSpec.of_flat 64 ok27 rfl (by (try simp only [noRefs, noRefs_u8, noRefs_keysI, noRefs_back, noRefs_ints, noRefs_eg, noRefs_ed, noRefs_rm, noRefs_ls, noRefs_bls, noRef, Bool.and_self, Bool.and_true]) <;> rfl) rfl ?_
  have c1 := eq14N x.kept y.kept hx.kept
  have c2 := sameInts x.dist y.dist (by have := hx.dist; omega)
  have c3 := sameRems18 x.rem y.rem hx.rem
  have c5 := same30 x.sup y.sup hx.sup hy.sup
  have c6 := eq14N x.orig y.orig hx.orig
  unfold resB
  generalize autB x.sup y.sup = b5 at *
  generalize decide (x.kept = y.kept) = b1 at *
  generalize decide (x.dist = y.dist) = b2 at *
  generalize decide (x.rem = y.rem) = b3 at *
  generalize decide (x.orig = y.orig) = b6 at *
  simp (maxSteps := 1000000) (disch := first | omega | exact PairsOK.mk rfl | (simp only [lenW] <;> omega)) only [s27, Int.reduceGT, ne_eq, List.length_replicate, wD, Nat.reduceAdd, Nat.reduceEqDiff, Nat.reduceBEq, ↓reduceIte, reduceCtorEq, SX.exit.injEq, if_true, if_false, Int.reduceAdd, Int.reduceSub, Int.reduceMul, Int.reduceLT, Int.reduceLE, Int.reduceEq, Int.reduceNe, Int.reduceNeg, Int.reduceToNat, Nat.reduceMul, Nat.reduceLT, Nat.reduceSub, Nat.reduceLeDiff]
  refine cp c1 ?_
  cases b1 with
  | false =>
    rw [Bool.false_and]
    simp (maxSteps := 1000000) (disch := first | omega | exact PairsOK.mk rfl | (simp only [lenW] <;> omega)) only [Int.reduceGT, ne_eq, List.length_replicate, wD, Nat.reduceAdd, Nat.reduceEqDiff, Nat.reduceBEq, ↓reduceIte, reduceCtorEq, SX.exit.injEq, if_true, if_false, Int.reduceAdd, Int.reduceSub, Int.reduceMul, Int.reduceLT, Int.reduceLE, Int.reduceEq, Int.reduceNe, Int.reduceNeg, Int.reduceToNat, Nat.reduceMul, Nat.reduceLT, Nat.reduceSub, Nat.reduceLeDiff]
    exact ⟨.inr trivial, _, rfl, rfl⟩
  | true =>
    rw [Bool.true_and]
    simp (maxSteps := 1000000) (disch := first | omega | exact PairsOK.mk rfl | (simp only [lenW] <;> omega)) only [Int.reduceGT, ne_eq, List.length_replicate, wD, Nat.reduceAdd, Nat.reduceEqDiff, Nat.reduceBEq, ↓reduceIte, reduceCtorEq, SX.exit.injEq, if_true, if_false, Int.reduceAdd, Int.reduceSub, Int.reduceMul, Int.reduceLT, Int.reduceLE, Int.reduceEq, Int.reduceNe, Int.reduceNeg, Int.reduceToNat, Nat.reduceMul, Nat.reduceLT, Nat.reduceSub, Nat.reduceLeDiff]
    refine cp c2 ?_
    cases b2 with
    | false =>
      rw [Bool.false_and]
      simp (maxSteps := 1000000) (disch := first | omega | exact PairsOK.mk rfl | (simp only [lenW] <;> omega)) only [Int.reduceGT, ne_eq, List.length_replicate, wD, Nat.reduceAdd, Nat.reduceEqDiff, Nat.reduceBEq, ↓reduceIte, reduceCtorEq, SX.exit.injEq, if_true, if_false, Int.reduceAdd, Int.reduceSub, Int.reduceMul, Int.reduceLT, Int.reduceLE, Int.reduceEq, Int.reduceNe, Int.reduceNeg, Int.reduceToNat, Nat.reduceMul, Nat.reduceLT, Nat.reduceSub, Nat.reduceLeDiff]
      exact ⟨.inr trivial, _, rfl, rfl⟩
    | true =>
      rw [Bool.true_and]
      simp (maxSteps := 1000000) (disch := first | omega | exact PairsOK.mk rfl | (simp only [lenW] <;> omega)) only [Int.reduceGT, ne_eq, List.length_replicate, wD, Nat.reduceAdd, Nat.reduceEqDiff, Nat.reduceBEq, ↓reduceIte, reduceCtorEq, SX.exit.injEq, if_true, if_false, Int.reduceAdd, Int.reduceSub, Int.reduceMul, Int.reduceLT, Int.reduceLE, Int.reduceEq, Int.reduceNe, Int.reduceNeg, Int.reduceToNat, Nat.reduceMul, Nat.reduceLT, Nat.reduceSub, Nat.reduceLeDiff]
      refine cp c3 ?_
      cases b3 with
      | false =>
        rw [Bool.false_and]
        simp (maxSteps := 1000000) (disch := first | omega | exact PairsOK.mk rfl | (simp only [lenW] <;> omega)) only [Int.reduceGT, ne_eq, List.length_replicate, wD, Nat.reduceAdd, Nat.reduceEqDiff, Nat.reduceBEq, ↓reduceIte, reduceCtorEq, SX.exit.injEq, if_true, if_false, Int.reduceAdd, Int.reduceSub, Int.reduceMul, Int.reduceLT, Int.reduceLE, Int.reduceEq, Int.reduceNe, Int.reduceNeg, Int.reduceToNat, Nat.reduceMul, Nat.reduceLT, Nat.reduceSub, Nat.reduceLeDiff]
        exact ⟨.inr trivial, _, rfl, rfl⟩
      | true =>
        rw [Bool.true_and]
        by_cases h4 : x.rounds = y.rounds
        · rw [decide_eq_true h4, Bool.true_and]
          simp (maxSteps := 1000000) (disch := first | omega | exact PairsOK.mk rfl | (simp only [lenW] <;> omega)) only [h4, Int.reduceGT, ne_eq, List.length_replicate, wD, Nat.reduceAdd, Nat.reduceEqDiff, Nat.reduceBEq, ↓reduceIte, reduceCtorEq, SX.exit.injEq, if_true, if_false, Int.reduceAdd, Int.reduceSub, Int.reduceMul, Int.reduceLT, Int.reduceLE, Int.reduceEq, Int.reduceNe, Int.reduceNeg, Int.reduceToNat, Nat.reduceMul, Nat.reduceLT, Nat.reduceSub, Nat.reduceLeDiff]
          refine cp c5 ?_
          cases b5 with
          | false =>
            rw [Bool.false_and]
            simp (maxSteps := 1000000) (disch := first | omega | exact PairsOK.mk rfl | (simp only [lenW] <;> omega)) only [Int.reduceGT, ne_eq, List.length_replicate, wD, Nat.reduceAdd, Nat.reduceEqDiff, Nat.reduceBEq, ↓reduceIte, reduceCtorEq, SX.exit.injEq, if_true, if_false, Int.reduceAdd, Int.reduceSub, Int.reduceMul, Int.reduceLT, Int.reduceLE, Int.reduceEq, Int.reduceNe, Int.reduceNeg, Int.reduceToNat, Nat.reduceMul, Nat.reduceLT, Nat.reduceSub, Nat.reduceLeDiff]
            exact ⟨.inr trivial, _, rfl, rfl⟩
          | true =>
            rw [Bool.true_and]
            simp (maxSteps := 1000000) (disch := first | omega | exact PairsOK.mk rfl | (simp only [lenW] <;> omega)) only [Int.reduceGT, ne_eq, List.length_replicate, wD, Nat.reduceAdd, Nat.reduceEqDiff, Nat.reduceBEq, ↓reduceIte, reduceCtorEq, SX.exit.injEq, if_true, if_false, Int.reduceAdd, Int.reduceSub, Int.reduceMul, Int.reduceLT, Int.reduceLE, Int.reduceEq, Int.reduceNe, Int.reduceNeg, Int.reduceToNat, Nat.reduceMul, Nat.reduceLT, Nat.reduceSub, Nat.reduceLeDiff]
            refine cp c6 ?_
            simp (maxSteps := 1000000) (disch := first | omega | exact PairsOK.mk rfl | (simp only [lenW] <;> omega)) only [Int.reduceGT, ne_eq, List.length_replicate, wD, Nat.reduceAdd, Nat.reduceEqDiff, Nat.reduceBEq, ↓reduceIte, reduceCtorEq, SX.exit.injEq, if_true, if_false, Int.reduceAdd, Int.reduceSub, Int.reduceMul, Int.reduceLT, Int.reduceLE, Int.reduceEq, Int.reduceNe, Int.reduceNeg, Int.reduceToNat, Nat.reduceMul, Nat.reduceLT, Nat.reduceSub, Nat.reduceLeDiff]
            exact ⟨.inr trivial, _, rfl, rfl⟩
        · rw [decide_eq_false h4, Bool.false_and]
          simp (maxSteps := 1000000) (disch := first | omega | exact PairsOK.mk rfl | (simp only [lenW] <;> omega)) only [h4, Int.reduceGT, ne_eq, List.length_replicate, wD, Nat.reduceAdd, Nat.reduceEqDiff, Nat.reduceBEq, ↓reduceIte, reduceCtorEq, SX.exit.injEq, if_true, if_false, Int.reduceAdd, Int.reduceSub, Int.reduceMul, Int.reduceLT, Int.reduceLE, Int.reduceEq, Int.reduceNe, Int.reduceNeg, Int.reduceToNat, Nat.reduceMul, Nat.reduceLT, Nat.reduceSub, Nat.reduceLeDiff]
          exact ⟨.inr trivial, _, rfl, rfl⟩
set_option maxHeartbeats 32000000 in
theorem eq28 (x y : Res) (hx : ROk x) (hy : ROk y) : PSpec Try.prog 28 [rsV x, rsV y] (.bool (resB x y)) := by
  refine PSpec.of_flat 64 ok28 rfl (by (try simp only [noRefs, noRefs_u8, noRefs_keysI, noRefs_back, noRefs_ints, noRefs_eg, noRefs_ed, noRefs_rm, noRefs_ls, noRefs_bls, noRef, Bool.and_self, Bool.and_true]) <;> rfl) rfl ?_
  have c1 := eq41N x.kept y.kept hy.kept
  have c2 := eq41 x.dist y.dist hy.dist
  have c3 := eq42 x.rem y.rem hy.rem
  have c5 := eq43 x.sup y.sup hx.sup hy.sup
  have c6 := eq41N x.orig y.orig hy.orig
  unfold resB
  generalize autB x.sup y.sup = b5 at *
  generalize decide (x.kept = y.kept) = b1 at *
  generalize decide (x.dist = y.dist) = b2 at *
  generalize decide (x.rem = y.rem) = b3 at *
  generalize decide (x.orig = y.orig) = b6 at *
  simp (maxSteps := 1000000) (disch := first | omega | exact PairsOK.mk rfl | (simp only [lenW] <;> omega)) only [s28, Int.reduceGT, ne_eq, List.length_replicate, wD, Nat.reduceAdd, Nat.reduceEqDiff, Nat.reduceBEq, ↓reduceIte, reduceCtorEq, SX.exit.injEq, if_true, if_false, Int.reduceAdd, Int.reduceSub, Int.reduceMul, Int.reduceLT, Int.reduceLE, Int.reduceEq, Int.reduceNe, Int.reduceNeg, Int.reduceToNat, Nat.reduceMul, Nat.reduceLT, Nat.reduceSub, Nat.reduceLeDiff]
  refine cp c1 ?_
  cases b1 with
  | false =>
    rw [Bool.false_and]
    simp (maxSteps := 1000000) (disch := first | omega | exact PairsOK.mk rfl | (simp only [lenW] <;> omega)) only [Int.reduceGT, ne_eq, List.length_replicate, wD, Nat.reduceAdd, Nat.reduceEqDiff, Nat.reduceBEq, ↓reduceIte, reduceCtorEq, SX.exit.injEq, if_true, if_false, Int.reduceAdd, Int.reduceSub, Int.reduceMul, Int.reduceLT, Int.reduceLE, Int.reduceEq, Int.reduceNe, Int.reduceNeg, Int.reduceToNat, Nat.reduceMul, Nat.reduceLT, Nat.reduceSub, Nat.reduceLeDiff]
    exact ⟨.inr trivial, _, rfl, rfl⟩
  | true =>
    rw [Bool.true_and]
    simp (maxSteps := 1000000) (disch := first | omega | exact PairsOK.mk rfl | (simp only [lenW] <;> omega)) only [Int.reduceGT, ne_eq, List.length_replicate, wD, Nat.reduceAdd, Nat.reduceEqDiff, Nat.reduceBEq, ↓reduceIte, reduceCtorEq, SX.exit.injEq, if_true, if_false, Int.reduceAdd, Int.reduceSub, Int.reduceMul, Int.reduceLT, Int.reduceLE, Int.reduceEq, Int.reduceNe, Int.reduceNeg, Int.reduceToNat, Nat.reduceMul, Nat.reduceLT, Nat.reduceSub, Nat.reduceLeDiff]
    refine cp c2 ?_
    cases b2 with
    | false =>
      rw [Bool.false_and]
      simp (maxSteps := 1000000) (disch := first | omega | exact PairsOK.mk rfl | (simp only [lenW] <;> omega)) only [Int.reduceGT, ne_eq, List.length_replicate, wD, Nat.reduceAdd, Nat.reduceEqDiff, Nat.reduceBEq, ↓reduceIte, reduceCtorEq, SX.exit.injEq, if_true, if_false, Int.reduceAdd, Int.reduceSub, Int.reduceMul, Int.reduceLT, Int.reduceLE, Int.reduceEq, Int.reduceNe, Int.reduceNeg, Int.reduceToNat, Nat.reduceMul, Nat.reduceLT, Nat.reduceSub, Nat.reduceLeDiff]
      exact ⟨.inr trivial, _, rfl, rfl⟩
    | true =>
      rw [Bool.true_and]
      simp (maxSteps := 1000000) (disch := first | omega | exact PairsOK.mk rfl | (simp only [lenW] <;> omega)) only [Int.reduceGT, ne_eq, List.length_replicate, wD, Nat.reduceAdd, Nat.reduceEqDiff, Nat.reduceBEq, ↓reduceIte, reduceCtorEq, SX.exit.injEq, if_true, if_false, Int.reduceAdd, Int.reduceSub, Int.reduceMul, Int.reduceLT, Int.reduceLE, Int.reduceEq, Int.reduceNe, Int.reduceNeg, Int.reduceToNat, Nat.reduceMul, Nat.reduceLT, Nat.reduceSub, Nat.reduceLeDiff]
      refine cp c3 ?_
      cases b3 with
      | false =>
        rw [Bool.false_and]
        simp (maxSteps := 1000000) (disch := first | omega | exact PairsOK.mk rfl | (simp only [lenW] <;> omega)) only [Int.reduceGT, ne_eq, List.length_replicate, wD, Nat.reduceAdd, Nat.reduceEqDiff, Nat.reduceBEq, ↓reduceIte, reduceCtorEq, SX.exit.injEq, if_true, if_false, Int.reduceAdd, Int.reduceSub, Int.reduceMul, Int.reduceLT, Int.reduceLE, Int.reduceEq, Int.reduceNe, Int.reduceNeg, Int.reduceToNat, Nat.reduceMul, Nat.reduceLT, Nat.reduceSub, Nat.reduceLeDiff]
        exact ⟨.inr trivial, _, rfl, rfl⟩
      | true =>
        rw [Bool.true_and]
        by_cases h4 : x.rounds = y.rounds
        · rw [decide_eq_true h4, Bool.true_and]
          simp (maxSteps := 1000000) (disch := first | omega | exact PairsOK.mk rfl | (simp only [lenW] <;> omega)) only [h4, Int.reduceGT, ne_eq, List.length_replicate, wD, Nat.reduceAdd, Nat.reduceEqDiff, Nat.reduceBEq, ↓reduceIte, reduceCtorEq, SX.exit.injEq, if_true, if_false, Int.reduceAdd, Int.reduceSub, Int.reduceMul, Int.reduceLT, Int.reduceLE, Int.reduceEq, Int.reduceNe, Int.reduceNeg, Int.reduceToNat, Nat.reduceMul, Nat.reduceLT, Nat.reduceSub, Nat.reduceLeDiff]
          refine cp c5 ?_
          cases b5 with
          | false =>
            rw [Bool.false_and]
            simp (maxSteps := 1000000) (disch := first | omega | exact PairsOK.mk rfl | (simp only [lenW] <;> omega)) only [Int.reduceGT, ne_eq, List.length_replicate, wD, Nat.reduceAdd, Nat.reduceEqDiff, Nat.reduceBEq, ↓reduceIte, reduceCtorEq, SX.exit.injEq, if_true, if_false, Int.reduceAdd, Int.reduceSub, Int.reduceMul, Int.reduceLT, Int.reduceLE, Int.reduceEq, Int.reduceNe, Int.reduceNeg, Int.reduceToNat, Nat.reduceMul, Nat.reduceLT, Nat.reduceSub, Nat.reduceLeDiff]
            exact ⟨.inr trivial, _, rfl, rfl⟩
          | true =>
            rw [Bool.true_and]
            simp (maxSteps := 1000000) (disch := first | omega | exact PairsOK.mk rfl | (simp only [lenW] <;> omega)) only [Int.reduceGT, ne_eq, List.length_replicate, wD, Nat.reduceAdd, Nat.reduceEqDiff, Nat.reduceBEq, ↓reduceIte, reduceCtorEq, SX.exit.injEq, if_true, if_false, Int.reduceAdd, Int.reduceSub, Int.reduceMul, Int.reduceLT, Int.reduceLE, Int.reduceEq, Int.reduceNe, Int.reduceNeg, Int.reduceToNat, Nat.reduceMul, Nat.reduceLT, Nat.reduceSub, Nat.reduceLeDiff]
            refine cp c6 ?_
            simp (maxSteps := 1000000) (disch := first | omega | exact PairsOK.mk rfl | (simp only [lenW] <;> omega)) only [Int.reduceGT, ne_eq, List.length_replicate, wD, Nat.reduceAdd, Nat.reduceEqDiff, Nat.reduceBEq, ↓reduceIte, reduceCtorEq, SX.exit.injEq, if_true, if_false, Int.reduceAdd, Int.reduceSub, Int.reduceMul, Int.reduceLT, Int.reduceLE, Int.reduceEq, Int.reduceNe, Int.reduceNeg, Int.reduceToNat, Nat.reduceMul, Nat.reduceLT, Nat.reduceSub, Nat.reduceLeDiff]
            exact ⟨.inr trivial, _, rfl, rfl⟩
        · rw [decide_eq_false h4, Bool.false_and]
          simp (maxSteps := 1000000) (disch := first | omega | exact PairsOK.mk rfl | (simp only [lenW] <;> omega)) only [h4, Int.reduceGT, ne_eq, List.length_replicate, wD, Nat.reduceAdd, Nat.reduceEqDiff, Nat.reduceBEq, ↓reduceIte, reduceCtorEq, SX.exit.injEq, if_true, if_false, Int.reduceAdd, Int.reduceSub, Int.reduceMul, Int.reduceLT, Int.reduceLE, Int.reduceEq, Int.reduceNe, Int.reduceNeg, Int.reduceToNat, Nat.reduceMul, Nat.reduceLT, Nat.reduceSub, Nat.reduceLeDiff]
          exact ⟨.inr trivial, _, rfl, rfl⟩
end Go.AM.SE
namespace Go.AM.SE
open Go.Proofs Go.AM.SD
set_option maxRecDepth 100000
set_option linter.unusedSimpArgs false
set_option linter.unusedVariables false
theorem idx_le {l : List Nat} {x : Nat} : idx l x ≤ l.length := by unfold idx; exact List.findIdx_le_length
theorem idx_lt {l : List Nat} {x : Nat} (h : x ∈ l) : idx l x < l.length := by
  unfold idx; exact List.findIdx_lt_length_of_exists ⟨x, h, by simp⟩
theorem idx_out {l : List Nat} {x : Nat} (h : x ∉ l) : idx l x = l.length := by
  unfold idx
  rw [List.findIdx_eq_length]
  intro y hy
  simp only [beq_eq_false_iff_ne]
  exact fun e => h (e ▸ hy)
abbrev rsB (a : Aut) (m e : Nat) : List AV := [sliN a.al, .int .i64 0, .sl 77 0 0 m 1, .sl 76 0 0 e 3]
abbrev rsA (a : Aut) : List AV := [sliN a.al, .int .i64 (a.n : Int), sliN a.ms, egsN a.es]
abbrev rsN : List AV := [.nilsl, .int .i64 0, .nilsl, .nilsl]
set_option maxHeartbeats 64000000 in
theorem restrict40 (a : Aut) (l : LB) (hw : WfA a) (hl : l.length = a.n) (hel : a.es.length ≤ 1000000) :
    PSpec Try.prog 40 [aV a, blF l a.n] (.tup [aV (restr a (lf l)), sliN (sAll a (lf l)).1]) := by
  have hn5 := hw.n5
  have hms : a.ms.length ≤ a.n := nodup_len a.n a.ms hw.nd hw.msn
  refine PSpec.of_rn 60 ok40 rfl (by (try simp only [noRefs, noRefs_u8, noRefs_keysI, noRefs_back, noRefs_ints, noRefs_eg, noRefs_ed, noRefs_rm, noRefs_ls, noRefs_bls, noRef, Bool.and_self, Bool.and_true]) <;> rfl) (by simp only [noRef, noRefs, noRefs_ints, noRefs_ed]; rfl) ?_
  have hsi : SI a.n a.es (lf l) 0 ((if decide (0 < a.n) && lf l 0 then [0] else [], []) : OE) := by
    refine ⟨?_, fun x hx => ?_, Nat.zero_le _, fun j v hj => by omega, by simp⟩
    · split
      · rename_i hc
        simp only [Bool.and_eq_true, decide_eq_true_eq] at hc
        exact ⟨by simp, fun x hx => by simp at hx; omega⟩
      · exact ⟨by simp, fun x hx => by cases hx⟩
    · dsimp only at hx
      split at hx
      · rename_i hc
        simp only [Bool.and_eq_true] at hc
        simp at hx; subst hx; exact hc.2
      · cases hx
  have hq0 : sQ a.es (lf l) (a.n + 1) 0 (if decide (0 < a.n) && lf l 0 then [0] else [], []) = sAll a (lf l) := rfl
  by_cases hc0 : (decide (0 < a.n) && lf l 0) = true
  · rw [if_pos hc0] at hsi hq0
    simp only [Bool.and_eq_true, decide_eq_true_eq] at hc0
    have h0n : (0 : Int) < (a.n : Int) := by omega
    have hh0 : (bls l).head? = some (.bool (lf l 0)) := by have := head_bls (l := l) (i := 0) (by omega); simpa using this
    have hl0 := hc0.2
    simp (maxSteps := 1000000) (disch := first | omega | exact PairsOK.mk rfl | (simp only [lenW] <;> omega)) only [s40, h0n, hh0, hl0, aAppend_nilW, wAn_some, Int.reduceGT, ne_eq, List.length_replicate, wD, Nat.reduceAdd, Nat.reduceEqDiff, Nat.reduceBEq, ↓reduceIte, reduceCtorEq, SX.exit.injEq, if_true, if_false, Int.reduceAdd, Int.reduceSub, Int.reduceMul, Int.reduceLT, Int.reduceLE, Int.reduceEq, Int.reduceNe, Int.reduceNeg, Int.reduceToNat, Nat.reduceMul, Nat.reduceLT, Nat.reduceSub, Nat.reduceLeDiff]
    refine wS_loopX 100 (fun t : Nat × OE => [(1, blF l a.n), (2, .ptr 50 0 0), (4, .ptr 60 0 0), (6, .ptr 69 0 0), (7, .sl 75 0 0 t.2.1.length 1), (8, .int .i64 t.1)])
      (fun t => [(50, .cells 0 (rsA a)), (60, .cells 0 rsN), (69, .cells 0 (rsB a (mks a t.1 t.2.1).length t.2.2.length)), (75, .cells 0 (ints (nz t.2.1))), (76, .cells 0 (t.2.2.flatMap edC)), (77, .cells 0 (ints (nz (mks a t.1 t.2.1))))])
      (fun t => t.1 ≤ a.n ∧ SI a.n a.es (lf l) t.1 t.2 ∧ t.2.2.length ≤ t.1 * 1000000 ∧ sQ a.es (lf l) (a.n + 1 - t.1) t.1 t.2 = sAll a (lf l)) (fun t => a.n + 1 - t.1) (0, ([0], [])) 0 200
      (fun _ : Unit => [(4, .ptr 60 0 0), (6, .ptr 69 0 0), (7, .sl 75 0 0 (sAll a (lf l)).1.length 1)])
      (fun _ => [(60, .cells 0 rsN), (69, .cells 0 (rsB a (restr a (lf l)).ms.length (restr a (lf l)).es.length)), (75, .cells 0 (ints (nz (sAll a (lf l)).1))), (76, .cells 0 ((restr a (lf l)).es.flatMap edC)), (77, .cells 0 (ints (nz (restr a (lf l)).ms)))]) (fun _ => True) ?_ ⟨Nat.zero_le _, hsi, Nat.zero_le _, hq0⟩ ?_ ?_
    · dsimp only
      have hms0 : mks a 0 [0] = [] := rfl
      rw [hms0]
      exact ⟨[(50, .blk 60 0), (60, .blk 61 0), (69, .blk 66 0), (75, .blk 79 0), (76, .nil), (77, .nil)], rfl, au0, au9, au10⟩
    · rintro ⟨i, s⟩ ⟨hi, hsi, hsl, hq⟩
      dsimp only at hi hsi hsl hq ⊢
      have hfl := hsi.fi.len
      have hile := hsi.le
      by_cases hlt : i < s.1.length
      · obtain ⟨v, hv⟩ := get_ex hlt
        have hvn := hsi.fi.lt v (List.mem_of_getElem? hv)
        have hin' : i < a.n := by omega
        have hsi' := hsi.step hw.esn hv
        have hq' : sQ a.es (lf l) (a.n + 1 - (i + 1)) (i + 1) (sRow a.es (lf l) i v s) = sAll a (lf l) := by
          rw [← hq, show a.n + 1 - i = (a.n + 1 - (i + 1)) + 1 by omega]
          simp only [sQ, hv]
        have hmn := mks_succ (a := a) hv
        have hmsl := @mks_len a i s.1
        have hmsl' := @mks_len a (i + 1) s.1
        have hmapp : mks a (i + 1) (sRow a.es (lf l) i v s).1 = mks a (i + 1) s.1 := by
          obtain ⟨_, _, ⟨t, ht⟩, _⟩ := row_fold (n := a.n) (left := lf l) i (sOut a.es (lf l) v) s (fun e he => ⟨(hw.esn e (mem_sOut.1 he).1).2, (mem_sOut.1 he).2.2⟩) hsi.fi hsi.lft
          have ht : (sRow a.es (lf l) i v s).1 = s.1 ++ t := ht
          rw [ht, mks_app (by omega)]
        have hc := has15 (nz a.ms) v (by simp; omega)
        rw [sli_nz, mem_nz] at hc
        generalize hM0 : mks a i s.1 = M0 at *
        generalize hM : mks a (i + 1) s.1 = M at *
        simp (maxSteps := 1000000) (disch := first | omega | exact PairsOK.mk rfl | (simp only [lenW] <;> omega)) only [hlt, get_ints (nz_at hv), Int.reduceGT, ne_eq, List.length_replicate, wD, Nat.reduceAdd, Nat.reduceEqDiff, Nat.reduceBEq, ↓reduceIte, reduceCtorEq, SX.exit.injEq, if_true, if_false, Int.reduceAdd, Int.reduceSub, Int.reduceMul, Int.reduceLT, Int.reduceLE, Int.reduceEq, Int.reduceNe, Int.reduceNeg, Int.reduceToNat, Nat.reduceMul, Nat.reduceLT, Nat.reduceSub, Nat.reduceLeDiff]
        refine cp hc ?_
        by_cases hmv : a.ms.contains v = true
        · rw [if_pos hmv] at hmn
          rw [hmv]
          simp (maxSteps := 1000000) (disch := first | omega | exact PairsOK.mk rfl | (simp only [lenW] <;> omega)) only [Int.reduceGT, ne_eq, List.length_replicate, wD, Nat.reduceAdd, Nat.reduceEqDiff, Nat.reduceBEq, ↓reduceIte, reduceCtorEq, SX.exit.injEq, if_true, if_false, Int.reduceAdd, Int.reduceSub, Int.reduceMul, Int.reduceLT, Int.reduceLE, Int.reduceEq, Int.reduceNe, Int.reduceNeg, Int.reduceToNat, Nat.reduceMul, Nat.reduceLT, Nat.reduceSub, Nat.reduceLeDiff]
          refine wS_loopX 300 (fun j : Nat => [(1, blF l a.n), (2, .ptr 50 0 0), (4, .ptr 60 0 0), (6, .ptr 69 0 0), (7, .sl 75 0 0 ((sOut (a.es.take j) (lf l) v).foldl (sEd i) s).1.length 1), (8, .int .i64 i), (9, .int .i64 j)])
            (fun j => [(50, .cells 0 (rsA a)), (60, .cells 0 rsN), (69, .cells 0 (rsB a M.length ((sOut (a.es.take j) (lf l) v).foldl (sEd i) s).2.length)), (75, .cells 0 (ints (nz ((sOut (a.es.take j) (lf l) v).foldl (sEd i) s).1))), (76, .cells 0 (((sOut (a.es.take j) (lf l) v).foldl (sEd i) s).2.flatMap edC)), (77, .cells 0 (ints (nz M)))])
            (fun j => j ≤ a.es.length) (fun j => a.es.length - j) 0 2 460
            (fun _ : Unit => [(1, blF l a.n), (2, .ptr 50 0 0), (4, .ptr 60 0 0), (6, .ptr 69 0 0), (7, .sl 75 0 0 (sRow a.es (lf l) i v s).1.length 1), (8, .int .i64 i)])
            (fun _ => [(50, .cells 0 (rsA a)), (60, .cells 0 rsN), (69, .cells 0 (rsB a M.length (sRow a.es (lf l) i v s).2.length)), (75, .cells 0 (ints (nz (sRow a.es (lf l) i v s).1))), (76, .cells 0 ((sRow a.es (lf l) i v s).2.flatMap edC)), (77, .cells 0 (ints (nz M)))]) (fun _ => True) ?_ (Nat.zero_le _) ?_ ?_
          · rw [hmn, List.length_append, nz_append, ints_append]
            exact ⟨[(50, .blk 50 0), (60, .blk 60 0), (69, .blk 69 0), (75, .blk 75 0), (76, .blk 76 0), (77, .blk 77 1)], rfl, au0, au9, au10⟩
          · rintro j hj
            by_cases hjl : j < a.es.length
            · obtain ⟨e, hee⟩ := get_ex hjl
              obtain ⟨hfr, hto⟩ := hw.esn e (List.mem_of_getElem? hee)
              have hst := sOut_take (left := lf l) hee v
              obtain ⟨k1, _, ⟨tt, htt⟩, _, _⟩ := row_fold (n := a.n) (left := lf l) i (sOut (a.es.take j) (lf l) v) s (fun e he => ⟨(hw.esn e (List.mem_of_mem_take (mem_sOut.1 he).1)).2, (mem_sOut.1 he).2.2⟩) hsi.fi hsi.lft
              have hsl2 := sRow_len (i := i) (sOut (a.es.take j) (lf l) v) s
              have hol := sOut_len (a.es.take j) (lf l) v
              rw [List.length_take] at hol
              have hstep : (sOut (a.es.take (j + 1)) (lf l) v).foldl (sEd i) s = if e.1 = v ∧ lf l e.2.2 = true then sEd i ((sOut (a.es.take j) (lf l) v).foldl (sEd i) s) e else ((sOut (a.es.take j) (lf l) v).foldl (sEd i) s) := by
                rw [hst, List.foldl_append]; split <;> rfl
              have hfi := k1.len
              have hnd := k1.nd
              generalize ((sOut (a.es.take j) (lf l) v).foldl (sEd i) s) = t at *
              have hvt : t.1[i]? = some v := by rw [htt, List.getElem?_append_left hlt]; exact hv
              have hit : i < t.1.length := (List.getElem?_eq_some_iff.1 hvt).1
              have htl : e.2.2 < l.length := by omega
              have hel2 := ed_len t.2
              by_cases h1 : e.1 = v
              · by_cases h2 : lf l e.2.2 = true
                · rw [if_pos ⟨h1, h2⟩] at hstep
                  simp (maxSteps := 1000000) (disch := first | omega | exact PairsOK.mk rfl | (simp only [lenW] <;> omega)) only [hjl, drop_eds hee, hit, get_ints (nz_at hvt), hto, head_bls htl, h1, h2, Int.reduceGT, ne_eq, List.length_replicate, wD, Nat.reduceAdd, Nat.reduceEqDiff, Nat.reduceBEq, ↓reduceIte, reduceCtorEq, SX.exit.injEq, if_true, if_false, Int.reduceAdd, Int.reduceSub, Int.reduceMul, Int.reduceLT, Int.reduceLE, Int.reduceEq, Int.reduceNe, Int.reduceNeg, Int.reduceToNat, Nat.reduceMul, Nat.reduceLT, Nat.reduceSub, Nat.reduceLeDiff]
                  refine wS_loopX 400 (fun k : Nat => [(1, blF l a.n), (2, .ptr 50 0 0), (4, .ptr 60 0 0), (6, .ptr 69 0 0), (7, .sl 75 0 0 t.1.length 1), (8, .int .i64 i), (9, .int .i64 j), (10, .ptr 79 0 0), (11, .int .i64 k)])
                    (fun k => [(50, .cells 0 (rsA a)), (60, .cells 0 rsN), (69, .cells 0 (rsB a M.length t.2.length)), (79, .cells 0 [.int .i64 (v : Int), .int .i64 (e.2.1 : Int), .int .i64 (e.2.2 : Int)]), (75, .cells 0 (ints (nz t.1))), (76, .cells 0 (t.2.flatMap edC)), (77, .cells 0 (ints (nz M)))])
                    (fun k => k ≤ t.1.length ∧ ∀ (q : Nat) y, q < k → t.1[q]? = some y → y ≠ e.2.2) (fun k => t.1.length - k) 0 4 440
                    (fun _ : Unit => [(1, blF l a.n), (2, .ptr 50 0 0), (4, .ptr 60 0 0), (6, .ptr 69 0 0), (7, .sl 75 0 0 t.1.length 1), (8, .int .i64 i), (9, .int .i64 j), (10, .ptr 79 0 0), (11, .int .i64 (idx t.1 e.2.2 : Nat))])
                    (fun _ => [(50, .cells 0 (rsA a)), (60, .cells 0 rsN), (69, .cells 0 (rsB a M.length t.2.length)), (79, .cells 0 [.int .i64 (v : Int), .int .i64 (e.2.1 : Int), .int .i64 (e.2.2 : Int)]), (75, .cells 0 (ints (nz t.1))), (76, .cells 0 (t.2.flatMap edC)), (77, .cells 0 (ints (nz M)))]) (fun _ => True) ?_ ⟨Nat.zero_le _, fun q y hq => absurd hq (Nat.not_lt_zero _)⟩ ?_ ?_
                  · exact ⟨[(50, .blk 50 0), (60, .blk 60 0), (69, .blk 69 0), (79, .blk 310 0), (75, .blk 75 0), (76, .blk 76 0), (77, .blk 77 0)], rfl, au0, au9, au10⟩
                  · rintro k ⟨hk, hno⟩
                    by_cases hkl : k < t.1.length
                    · obtain ⟨y, hy⟩ := get_ex hkl
                      by_cases hye : y = e.2.2
                      · have hix := idx_at hnd hy
                        rw [hye] at hix
                        simp (maxSteps := 1000000) (disch := first | omega | exact PairsOK.mk rfl | (simp only [lenW] <;> omega)) only [hkl, get_ints (nz_at hy), hye, Int.reduceGT, ne_eq, List.length_replicate, wD, Nat.reduceAdd, Nat.reduceEqDiff, Nat.reduceBEq, ↓reduceIte, reduceCtorEq, SX.exit.injEq, if_true, if_false, Int.reduceAdd, Int.reduceSub, Int.reduceMul, Int.reduceLT, Int.reduceLE, Int.reduceEq, Int.reduceNe, Int.reduceNeg, Int.reduceToNat, Nat.reduceMul, Nat.reduceLT, Nat.reduceSub, Nat.reduceLeDiff]
                        refine ⟨(), ?_⟩
                        rw [hix]
                        exact ⟨[(50, .blk 50 0), (60, .blk 60 0), (69, .blk 69 0), (79, .blk 79 0), (75, .blk 75 0), (76, .blk 76 0), (77, .blk 77 0)], rfl, au0, au9, au10⟩
                      · simp (maxSteps := 1000000) (disch := first | omega | exact PairsOK.mk rfl | (simp only [lenW] <;> omega)) only [hkl, get_ints (nz_at hy), hye, Int.reduceGT, ne_eq, List.length_replicate, wD, Nat.reduceAdd, Nat.reduceEqDiff, Nat.reduceBEq, ↓reduceIte, reduceCtorEq, SX.exit.injEq, if_true, if_false, Int.reduceAdd, Int.reduceSub, Int.reduceMul, Int.reduceLT, Int.reduceLE, Int.reduceEq, Int.reduceNe, Int.reduceNeg, Int.reduceToNat, Nat.reduceMul, Nat.reduceLT, Nat.reduceSub, Nat.reduceLeDiff]
                        refine ⟨k + 1, by omega, ⟨by omega, fun q z hq hz => ?_⟩, ⟨[(50, .blk 50 0), (60, .blk 60 0), (69, .blk 69 0), (79, .blk 79 0), (75, .blk 75 0), (76, .blk 76 0), (77, .blk 77 0)], rfl, au0, au9, au10⟩⟩
                        by_cases e3 : q = k
                        · subst e3; rw [hy] at hz; cases hz; exact hye
                        · exact hno q z (by omega) hz
                    · have hix : idx t.1 e.2.2 = t.1.length := idx_out fun h => by
                        obtain ⟨q, hq, hql⟩ := mem_at h
                        exact hno q _ (by omega) hq rfl
                      have e3 : k = t.1.length := by omega
                      simp (maxSteps := 1000000) (disch := first | omega | exact PairsOK.mk rfl | (simp only [lenW] <;> omega)) only [hkl, Int.reduceGT, ne_eq, List.length_replicate, wD, Nat.reduceAdd, Nat.reduceEqDiff, Nat.reduceBEq, ↓reduceIte, reduceCtorEq, SX.exit.injEq, if_true, if_false, Int.reduceAdd, Int.reduceSub, Int.reduceMul, Int.reduceLT, Int.reduceLE, Int.reduceEq, Int.reduceNe, Int.reduceNeg, Int.reduceToNat, Nat.reduceMul, Nat.reduceLT, Nat.reduceSub, Nat.reduceLeDiff]
                      refine ⟨(), ?_⟩
                      rw [hix, ← e3]
                      exact ⟨[(50, .blk 50 0), (60, .blk 60 0), (69, .blk 69 0), (79, .blk 79 0), (75, .blk 75 0), (76, .blk 76 0), (77, .blk 77 0)], rfl, au0, au9, au10⟩
                  rintro _ _
                  have hidl := idx_le (l := t.1) (x := e.2.2)
                  by_cases hc : e.2.2 ∈ t.1
                  · have hlt3 := idx_lt hc
                    have h3 : ¬ ((idx t.1 e.2.2 : Nat) : Int) = (t.1.length : Int) := by omega
                    have h4 : sEd i t e = (t.1, t.2 ++ [(i, e.2.1, idx t.1 e.2.2)]) := if_pos (by simpa using hc)
                    rw [h4] at hstep
                    generalize idx t.1 e.2.2 = q at *
                    simp (maxSteps := 1000000) (disch := first | omega | exact PairsOK.mk rfl | (simp only [lenW] <;> omega)) only [h3, hel2, Int.reduceGT, ne_eq, List.length_replicate, wD, Nat.reduceAdd, Nat.reduceEqDiff, Nat.reduceBEq, ↓reduceIte, reduceCtorEq, SX.exit.injEq, if_true, if_false, Int.reduceAdd, Int.reduceSub, Int.reduceMul, Int.reduceLT, Int.reduceLE, Int.reduceEq, Int.reduceNe, Int.reduceNeg, Int.reduceToNat, Nat.reduceMul, Nat.reduceLT, Nat.reduceSub, Nat.reduceLeDiff]
                    refine ⟨j + 1, by omega, by omega, ?_⟩
                    rw [hstep, List.flatMap_append, List.length_append]
                    exact ⟨[(50, .blk 50 0), (60, .blk 60 0), (69, .blk 69 0), (75, .blk 75 0), (76, .blk 76 1), (77, .blk 77 0)], rfl, au0, au9, au10⟩
                  · have h3 := idx_out hc
                    have h4 : sEd i t e = (t.1 ++ [e.2.2], t.2 ++ [(i, e.2.1, t.1.length)]) := if_neg (by simpa using hc)
                    rw [h4] at hstep
                    rw [h3]
                    simp (maxSteps := 1000000) (disch := first | omega | exact PairsOK.mk rfl | (simp only [lenW] <;> omega)) only [hel2, Int.reduceGT, ne_eq, List.length_replicate, wD, Nat.reduceAdd, Nat.reduceEqDiff, Nat.reduceBEq, ↓reduceIte, reduceCtorEq, SX.exit.injEq, if_true, if_false, Int.reduceAdd, Int.reduceSub, Int.reduceMul, Int.reduceLT, Int.reduceLE, Int.reduceEq, Int.reduceNe, Int.reduceNeg, Int.reduceToNat, Nat.reduceMul, Nat.reduceLT, Nat.reduceSub, Nat.reduceLeDiff]
                    refine ⟨j + 1, by omega, by omega, ?_⟩
                    rw [hstep, List.flatMap_append, List.length_append]
                    dsimp only
                    rw [List.length_append, nz_append, ints_append]
                    exact ⟨[(50, .blk 50 0), (60, .blk 60 0), (69, .blk 69 0), (75, .blk 75 1), (76, .blk 76 1), (77, .blk 77 0)], rfl, au0, au9, au10⟩
                · rw [if_neg (fun h => h2 h.2)] at hstep
                  rw [Bool.not_eq_true] at h2
                  simp (maxSteps := 1000000) (disch := first | omega | exact PairsOK.mk rfl | (simp only [lenW] <;> omega)) only [hjl, drop_eds hee, hit, get_ints (nz_at hvt), hto, head_bls htl, h1, h2, Int.reduceGT, ne_eq, List.length_replicate, wD, Nat.reduceAdd, Nat.reduceEqDiff, Nat.reduceBEq, ↓reduceIte, reduceCtorEq, SX.exit.injEq, if_true, if_false, Int.reduceAdd, Int.reduceSub, Int.reduceMul, Int.reduceLT, Int.reduceLE, Int.reduceEq, Int.reduceNe, Int.reduceNeg, Int.reduceToNat, Nat.reduceMul, Nat.reduceLT, Nat.reduceSub, Nat.reduceLeDiff]
                  refine ⟨j + 1, by omega, by omega, ?_⟩
                  rw [hstep]
                  exact ⟨[(50, .blk 50 0), (60, .blk 60 0), (69, .blk 69 0), (75, .blk 75 0), (76, .blk 76 0), (77, .blk 77 0)], rfl, au0, au9, au10⟩
              · rw [if_neg (fun h => h1 h.1)] at hstep
                simp (maxSteps := 1000000) (disch := first | omega | exact PairsOK.mk rfl | (simp only [lenW] <;> omega)) only [hjl, drop_eds hee, hit, get_ints (nz_at hvt), h1, Int.reduceGT, ne_eq, List.length_replicate, wD, Nat.reduceAdd, Nat.reduceEqDiff, Nat.reduceBEq, ↓reduceIte, reduceCtorEq, SX.exit.injEq, if_true, if_false, Int.reduceAdd, Int.reduceSub, Int.reduceMul, Int.reduceLT, Int.reduceLE, Int.reduceEq, Int.reduceNe, Int.reduceNeg, Int.reduceToNat, Nat.reduceMul, Nat.reduceLT, Nat.reduceSub, Nat.reduceLeDiff]
                refine ⟨j + 1, by omega, by omega, ?_⟩
                rw [hstep]
                exact ⟨[(50, .blk 50 0), (60, .blk 60 0), (69, .blk 69 0), (75, .blk 75 0), (76, .blk 76 0), (77, .blk 77 0)], rfl, au0, au9, au10⟩
            · have e : j = a.es.length := by omega
              subst e
              simp (maxSteps := 1000000) (disch := first | omega | exact PairsOK.mk rfl | (simp only [lenW] <;> omega)) only [hjl, Int.reduceGT, ne_eq, List.length_replicate, wD, Nat.reduceAdd, Nat.reduceEqDiff, Nat.reduceBEq, ↓reduceIte, reduceCtorEq, SX.exit.injEq, if_true, if_false, Int.reduceAdd, Int.reduceSub, Int.reduceMul, Int.reduceLT, Int.reduceLE, Int.reduceEq, Int.reduceNe, Int.reduceNeg, Int.reduceToNat, Nat.reduceMul, Nat.reduceLT, Nat.reduceSub, Nat.reduceLeDiff]
              refine ⟨(), ?_⟩
              exact ⟨[(50, .blk 50 0), (60, .blk 60 0), (69, .blk 69 0), (75, .blk 75 0), (76, .blk 76 0), (77, .blk 77 0)], rfl, au0, au9, au10⟩
          rintro _ _
          have hsl3 : (sRow a.es (lf l) i v s).2.length = s.2.length + (sOut a.es (lf l) v).length := sRow_len _ _
          have hol3 := sOut_len a.es (lf l) v
          simp (maxSteps := 1000000) (disch := first | omega | exact PairsOK.mk rfl | (simp only [lenW] <;> omega)) only [Int.reduceGT, ne_eq, List.length_replicate, wD, Nat.reduceAdd, Nat.reduceEqDiff, Nat.reduceBEq, ↓reduceIte, reduceCtorEq, SX.exit.injEq, if_true, if_false, Int.reduceAdd, Int.reduceSub, Int.reduceMul, Int.reduceLT, Int.reduceLE, Int.reduceEq, Int.reduceNe, Int.reduceNeg, Int.reduceToNat, Nat.reduceMul, Nat.reduceLT, Nat.reduceSub, Nat.reduceLeDiff]
          refine ⟨(i + 1, sRow a.es (lf l) i v s), by dsimp only; omega, ⟨hin', hsi', by dsimp only; omega, hq'⟩, ?_⟩
          dsimp only
          rw [hmapp]
          exact ⟨[(50, .blk 50 0), (60, .blk 60 0), (69, .blk 69 0), (75, .blk 75 0), (76, .blk 76 0), (77, .blk 77 0)], rfl, au0, au9, au10⟩
        · rw [if_neg hmv, List.append_nil] at hmn
          rw [Bool.not_eq_true] at hmv
          rw [hmv]
          simp (maxSteps := 1000000) (disch := first | omega | exact PairsOK.mk rfl | (simp only [lenW] <;> omega)) only [Int.reduceGT, ne_eq, List.length_replicate, wD, Nat.reduceAdd, Nat.reduceEqDiff, Nat.reduceBEq, ↓reduceIte, reduceCtorEq, SX.exit.injEq, if_true, if_false, Int.reduceAdd, Int.reduceSub, Int.reduceMul, Int.reduceLT, Int.reduceLE, Int.reduceEq, Int.reduceNe, Int.reduceNeg, Int.reduceToNat, Nat.reduceMul, Nat.reduceLT, Nat.reduceSub, Nat.reduceLeDiff]
          refine wS_loopX 300 (fun j : Nat => [(1, blF l a.n), (2, .ptr 50 0 0), (4, .ptr 60 0 0), (6, .ptr 69 0 0), (7, .sl 75 0 0 ((sOut (a.es.take j) (lf l) v).foldl (sEd i) s).1.length 1), (8, .int .i64 i), (9, .int .i64 j)])
            (fun j => [(50, .cells 0 (rsA a)), (60, .cells 0 rsN), (69, .cells 0 (rsB a M.length ((sOut (a.es.take j) (lf l) v).foldl (sEd i) s).2.length)), (75, .cells 0 (ints (nz ((sOut (a.es.take j) (lf l) v).foldl (sEd i) s).1))), (76, .cells 0 (((sOut (a.es.take j) (lf l) v).foldl (sEd i) s).2.flatMap edC)), (77, .cells 0 (ints (nz M)))])
            (fun j => j ≤ a.es.length) (fun j => a.es.length - j) 0 2 460
            (fun _ : Unit => [(1, blF l a.n), (2, .ptr 50 0 0), (4, .ptr 60 0 0), (6, .ptr 69 0 0), (7, .sl 75 0 0 (sRow a.es (lf l) i v s).1.length 1), (8, .int .i64 i)])
            (fun _ => [(50, .cells 0 (rsA a)), (60, .cells 0 rsN), (69, .cells 0 (rsB a M.length (sRow a.es (lf l) i v s).2.length)), (75, .cells 0 (ints (nz (sRow a.es (lf l) i v s).1))), (76, .cells 0 ((sRow a.es (lf l) i v s).2.flatMap edC)), (77, .cells 0 (ints (nz M)))]) (fun _ => True) ?_ (Nat.zero_le _) ?_ ?_
          · rw [hmn]
            exact ⟨[(50, .blk 50 0), (60, .blk 60 0), (69, .blk 69 0), (75, .blk 75 0), (76, .blk 76 0), (77, .blk 77 0)], rfl, au0, au9, au10⟩
          · rintro j hj
            by_cases hjl : j < a.es.length
            · obtain ⟨e, hee⟩ := get_ex hjl
              obtain ⟨hfr, hto⟩ := hw.esn e (List.mem_of_getElem? hee)
              have hst := sOut_take (left := lf l) hee v
              obtain ⟨k1, _, ⟨tt, htt⟩, _, _⟩ := row_fold (n := a.n) (left := lf l) i (sOut (a.es.take j) (lf l) v) s (fun e he => ⟨(hw.esn e (List.mem_of_mem_take (mem_sOut.1 he).1)).2, (mem_sOut.1 he).2.2⟩) hsi.fi hsi.lft
              have hsl2 := sRow_len (i := i) (sOut (a.es.take j) (lf l) v) s
              have hol := sOut_len (a.es.take j) (lf l) v
              rw [List.length_take] at hol
              have hstep : (sOut (a.es.take (j + 1)) (lf l) v).foldl (sEd i) s = if e.1 = v ∧ lf l e.2.2 = true then sEd i ((sOut (a.es.take j) (lf l) v).foldl (sEd i) s) e else ((sOut (a.es.take j) (lf l) v).foldl (sEd i) s) := by
                rw [hst, List.foldl_append]; split <;> rfl
              have hfi := k1.len
              have hnd := k1.nd
              generalize ((sOut (a.es.take j) (lf l) v).foldl (sEd i) s) = t at *
              have hvt : t.1[i]? = some v := by rw [htt, List.getElem?_append_left hlt]; exact hv
              have hit : i < t.1.length := (List.getElem?_eq_some_iff.1 hvt).1
              have htl : e.2.2 < l.length := by omega
              have hel2 := ed_len t.2
              by_cases h1 : e.1 = v
              · by_cases h2 : lf l e.2.2 = true
                · rw [if_pos ⟨h1, h2⟩] at hstep
                  simp (maxSteps := 1000000) (disch := first | omega | exact PairsOK.mk rfl | (simp only [lenW] <;> omega)) only [hjl, drop_eds hee, hit, get_ints (nz_at hvt), hto, head_bls htl, h1, h2, Int.reduceGT, ne_eq, List.length_replicate, wD, Nat.reduceAdd, Nat.reduceEqDiff, Nat.reduceBEq, ↓reduceIte, reduceCtorEq, SX.exit.injEq, if_true, if_false, Int.reduceAdd, Int.reduceSub, Int.reduceMul, Int.reduceLT, Int.reduceLE, Int.reduceEq, Int.reduceNe, Int.reduceNeg, Int.reduceToNat, Nat.reduceMul, Nat.reduceLT, Nat.reduceSub, Nat.reduceLeDiff]
                  refine wS_loopX 400 (fun k : Nat => [(1, blF l a.n), (2, .ptr 50 0 0), (4, .ptr 60 0 0), (6, .ptr 69 0 0), (7, .sl 75 0 0 t.1.length 1), (8, .int .i64 i), (9, .int .i64 j), (10, .ptr 79 0 0), (11, .int .i64 k)])
                    (fun k => [(50, .cells 0 (rsA a)), (60, .cells 0 rsN), (69, .cells 0 (rsB a M.length t.2.length)), (79, .cells 0 [.int .i64 (v : Int), .int .i64 (e.2.1 : Int), .int .i64 (e.2.2 : Int)]), (75, .cells 0 (ints (nz t.1))), (76, .cells 0 (t.2.flatMap edC)), (77, .cells 0 (ints (nz M)))])
                    (fun k => k ≤ t.1.length ∧ ∀ (q : Nat) y, q < k → t.1[q]? = some y → y ≠ e.2.2) (fun k => t.1.length - k) 0 4 440
                    (fun _ : Unit => [(1, blF l a.n), (2, .ptr 50 0 0), (4, .ptr 60 0 0), (6, .ptr 69 0 0), (7, .sl 75 0 0 t.1.length 1), (8, .int .i64 i), (9, .int .i64 j), (10, .ptr 79 0 0), (11, .int .i64 (idx t.1 e.2.2 : Nat))])
                    (fun _ => [(50, .cells 0 (rsA a)), (60, .cells 0 rsN), (69, .cells 0 (rsB a M.length t.2.length)), (79, .cells 0 [.int .i64 (v : Int), .int .i64 (e.2.1 : Int), .int .i64 (e.2.2 : Int)]), (75, .cells 0 (ints (nz t.1))), (76, .cells 0 (t.2.flatMap edC)), (77, .cells 0 (ints (nz M)))]) (fun _ => True) ?_ ⟨Nat.zero_le _, fun q y hq => absurd hq (Nat.not_lt_zero _)⟩ ?_ ?_
                  · exact ⟨[(50, .blk 50 0), (60, .blk 60 0), (69, .blk 69 0), (79, .blk 310 0), (75, .blk 75 0), (76, .blk 76 0), (77, .blk 77 0)], rfl, au0, au9, au10⟩
                  · rintro k ⟨hk, hno⟩
                    by_cases hkl : k < t.1.length
                    · obtain ⟨y, hy⟩ := get_ex hkl
                      by_cases hye : y = e.2.2
                      · have hix := idx_at hnd hy
                        rw [hye] at hix
                        simp (maxSteps := 1000000) (disch := first | omega | exact PairsOK.mk rfl | (simp only [lenW] <;> omega)) only [hkl, get_ints (nz_at hy), hye, Int.reduceGT, ne_eq, List.length_replicate, wD, Nat.reduceAdd, Nat.reduceEqDiff, Nat.reduceBEq, ↓reduceIte, reduceCtorEq, SX.exit.injEq, if_true, if_false, Int.reduceAdd, Int.reduceSub, Int.reduceMul, Int.reduceLT, Int.reduceLE, Int.reduceEq, Int.reduceNe, Int.reduceNeg, Int.reduceToNat, Nat.reduceMul, Nat.reduceLT, Nat.reduceSub, Nat.reduceLeDiff]
                        refine ⟨(), ?_⟩
                        rw [hix]
                        exact ⟨[(50, .blk 50 0), (60, .blk 60 0), (69, .blk 69 0), (79, .blk 79 0), (75, .blk 75 0), (76, .blk 76 0), (77, .blk 77 0)], rfl, au0, au9, au10⟩
                      · simp (maxSteps := 1000000) (disch := first | omega | exact PairsOK.mk rfl | (simp only [lenW] <;> omega)) only [hkl, get_ints (nz_at hy), hye, Int.reduceGT, ne_eq, List.length_replicate, wD, Nat.reduceAdd, Nat.reduceEqDiff, Nat.reduceBEq, ↓reduceIte, reduceCtorEq, SX.exit.injEq, if_true, if_false, Int.reduceAdd, Int.reduceSub, Int.reduceMul, Int.reduceLT, Int.reduceLE, Int.reduceEq, Int.reduceNe, Int.reduceNeg, Int.reduceToNat, Nat.reduceMul, Nat.reduceLT, Nat.reduceSub, Nat.reduceLeDiff]
                        refine ⟨k + 1, by omega, ⟨by omega, fun q z hq hz => ?_⟩, ⟨[(50, .blk 50 0), (60, .blk 60 0), (69, .blk 69 0), (79, .blk 79 0), (75, .blk 75 0), (76, .blk 76 0), (77, .blk 77 0)], rfl, au0, au9, au10⟩⟩
                        by_cases e3 : q = k
                        · subst e3; rw [hy] at hz; cases hz; exact hye
                        · exact hno q z (by omega) hz
                    · have hix : idx t.1 e.2.2 = t.1.length := idx_out fun h => by
                        obtain ⟨q, hq, hql⟩ := mem_at h
                        exact hno q _ (by omega) hq rfl
                      have e3 : k = t.1.length := by omega
                      simp (maxSteps := 1000000) (disch := first | omega | exact PairsOK.mk rfl | (simp only [lenW] <;> omega)) only [hkl, Int.reduceGT, ne_eq, List.length_replicate, wD, Nat.reduceAdd, Nat.reduceEqDiff, Nat.reduceBEq, ↓reduceIte, reduceCtorEq, SX.exit.injEq, if_true, if_false, Int.reduceAdd, Int.reduceSub, Int.reduceMul, Int.reduceLT, Int.reduceLE, Int.reduceEq, Int.reduceNe, Int.reduceNeg, Int.reduceToNat, Nat.reduceMul, Nat.reduceLT, Nat.reduceSub, Nat.reduceLeDiff]
                      refine ⟨(), ?_⟩
                      rw [hix, ← e3]
                      exact ⟨[(50, .blk 50 0), (60, .blk 60 0), (69, .blk 69 0), (79, .blk 79 0), (75, .blk 75 0), (76, .blk 76 0), (77, .blk 77 0)], rfl, au0, au9, au10⟩
                  rintro _ _
                  have hidl := idx_le (l := t.1) (x := e.2.2)
                  by_cases hc : e.2.2 ∈ t.1
                  · have hlt3 := idx_lt hc
                    have h3 : ¬ ((idx t.1 e.2.2 : Nat) : Int) = (t.1.length : Int) := by omega
                    have h4 : sEd i t e = (t.1, t.2 ++ [(i, e.2.1, idx t.1 e.2.2)]) := if_pos (by simpa using hc)
                    rw [h4] at hstep
                    generalize idx t.1 e.2.2 = q at *
                    simp (maxSteps := 1000000) (disch := first | omega | exact PairsOK.mk rfl | (simp only [lenW] <;> omega)) only [h3, hel2, Int.reduceGT, ne_eq, List.length_replicate, wD, Nat.reduceAdd, Nat.reduceEqDiff, Nat.reduceBEq, ↓reduceIte, reduceCtorEq, SX.exit.injEq, if_true, if_false, Int.reduceAdd, Int.reduceSub, Int.reduceMul, Int.reduceLT, Int.reduceLE, Int.reduceEq, Int.reduceNe, Int.reduceNeg, Int.reduceToNat, Nat.reduceMul, Nat.reduceLT, Nat.reduceSub, Nat.reduceLeDiff]
                    refine ⟨j + 1, by omega, by omega, ?_⟩
                    rw [hstep, List.flatMap_append, List.length_append]
                    exact ⟨[(50, .blk 50 0), (60, .blk 60 0), (69, .blk 69 0), (75, .blk 75 0), (76, .blk 76 1), (77, .blk 77 0)], rfl, au0, au9, au10⟩
                  · have h3 := idx_out hc
                    have h4 : sEd i t e = (t.1 ++ [e.2.2], t.2 ++ [(i, e.2.1, t.1.length)]) := if_neg (by simpa using hc)
                    rw [h4] at hstep
                    rw [h3]
                    simp (maxSteps := 1000000) (disch := first | omega | exact PairsOK.mk rfl | (simp only [lenW] <;> omega)) only [hel2, Int.reduceGT, ne_eq, List.length_replicate, wD, Nat.reduceAdd, Nat.reduceEqDiff, Nat.reduceBEq, ↓reduceIte, reduceCtorEq, SX.exit.injEq, if_true, if_false, Int.reduceAdd, Int.reduceSub, Int.reduceMul, Int.reduceLT, Int.reduceLE, Int.reduceEq, Int.reduceNe, Int.reduceNeg, Int.reduceToNat, Nat.reduceMul, Nat.reduceLT, Nat.reduceSub, Nat.reduceLeDiff]
                    refine ⟨j + 1, by omega, by omega, ?_⟩
                    rw [hstep, List.flatMap_append, List.length_append]
                    dsimp only
                    rw [List.length_append, nz_append, ints_append]
                    exact ⟨[(50, .blk 50 0), (60, .blk 60 0), (69, .blk 69 0), (75, .blk 75 1), (76, .blk 76 1), (77, .blk 77 0)], rfl, au0, au9, au10⟩
                · rw [if_neg (fun h => h2 h.2)] at hstep
                  rw [Bool.not_eq_true] at h2
                  simp (maxSteps := 1000000) (disch := first | omega | exact PairsOK.mk rfl | (simp only [lenW] <;> omega)) only [hjl, drop_eds hee, hit, get_ints (nz_at hvt), hto, head_bls htl, h1, h2, Int.reduceGT, ne_eq, List.length_replicate, wD, Nat.reduceAdd, Nat.reduceEqDiff, Nat.reduceBEq, ↓reduceIte, reduceCtorEq, SX.exit.injEq, if_true, if_false, Int.reduceAdd, Int.reduceSub, Int.reduceMul, Int.reduceLT, Int.reduceLE, Int.reduceEq, Int.reduceNe, Int.reduceNeg, Int.reduceToNat, Nat.reduceMul, Nat.reduceLT, Nat.reduceSub, Nat.reduceLeDiff]
                  refine ⟨j + 1, by omega, by omega, ?_⟩
                  rw [hstep]
                  exact ⟨[(50, .blk 50 0), (60, .blk 60 0), (69, .blk 69 0), (75, .blk 75 0), (76, .blk 76 0), (77, .blk 77 0)], rfl, au0, au9, au10⟩
              · rw [if_neg (fun h => h1 h.1)] at hstep
                simp (maxSteps := 1000000) (disch := first | omega | exact PairsOK.mk rfl | (simp only [lenW] <;> omega)) only [hjl, drop_eds hee, hit, get_ints (nz_at hvt), h1, Int.reduceGT, ne_eq, List.length_replicate, wD, Nat.reduceAdd, Nat.reduceEqDiff, Nat.reduceBEq, ↓reduceIte, reduceCtorEq, SX.exit.injEq, if_true, if_false, Int.reduceAdd, Int.reduceSub, Int.reduceMul, Int.reduceLT, Int.reduceLE, Int.reduceEq, Int.reduceNe, Int.reduceNeg, Int.reduceToNat, Nat.reduceMul, Nat.reduceLT, Nat.reduceSub, Nat.reduceLeDiff]
                refine ⟨j + 1, by omega, by omega, ?_⟩
                rw [hstep]
                exact ⟨[(50, .blk 50 0), (60, .blk 60 0), (69, .blk 69 0), (75, .blk 75 0), (76, .blk 76 0), (77, .blk 77 0)], rfl, au0, au9, au10⟩
            · have e : j = a.es.length := by omega
              subst e
              simp (maxSteps := 1000000) (disch := first | omega | exact PairsOK.mk rfl | (simp only [lenW] <;> omega)) only [hjl, Int.reduceGT, ne_eq, List.length_replicate, wD, Nat.reduceAdd, Nat.reduceEqDiff, Nat.reduceBEq, ↓reduceIte, reduceCtorEq, SX.exit.injEq, if_true, if_false, Int.reduceAdd, Int.reduceSub, Int.reduceMul, Int.reduceLT, Int.reduceLE, Int.reduceEq, Int.reduceNe, Int.reduceNeg, Int.reduceToNat, Nat.reduceMul, Nat.reduceLT, Nat.reduceSub, Nat.reduceLeDiff]
              refine ⟨(), ?_⟩
              exact ⟨[(50, .blk 50 0), (60, .blk 60 0), (69, .blk 69 0), (75, .blk 75 0), (76, .blk 76 0), (77, .blk 77 0)], rfl, au0, au9, au10⟩
          rintro _ _
          have hsl3 : (sRow a.es (lf l) i v s).2.length = s.2.length + (sOut a.es (lf l) v).length := sRow_len _ _
          have hol3 := sOut_len a.es (lf l) v
          simp (maxSteps := 1000000) (disch := first | omega | exact PairsOK.mk rfl | (simp only [lenW] <;> omega)) only [Int.reduceGT, ne_eq, List.length_replicate, wD, Nat.reduceAdd, Nat.reduceEqDiff, Nat.reduceBEq, ↓reduceIte, reduceCtorEq, SX.exit.injEq, if_true, if_false, Int.reduceAdd, Int.reduceSub, Int.reduceMul, Int.reduceLT, Int.reduceLE, Int.reduceEq, Int.reduceNe, Int.reduceNeg, Int.reduceToNat, Nat.reduceMul, Nat.reduceLT, Nat.reduceSub, Nat.reduceLeDiff]
          refine ⟨(i + 1, sRow a.es (lf l) i v s), by dsimp only; omega, ⟨hin', hsi', by dsimp only; omega, hq'⟩, ?_⟩
          dsimp only
          rw [hmapp]
          exact ⟨[(50, .blk 50 0), (60, .blk 60 0), (69, .blk 69 0), (75, .blk 75 0), (76, .blk 76 0), (77, .blk 77 0)], rfl, au0, au9, au10⟩
      · have hv : s.1[i]? = none := List.getElem?_eq_none (by omega)
        have hqf : s = sAll a (lf l) := by
          rw [← hq, show a.n + 1 - i = (a.n - i) + 1 by omega]
          simp only [sQ, hv]
        have hil : i = s.1.length := by omega
        have hmf : mks a i s.1 = (restr a (lf l)).ms := by rw [hil, hqf]; rfl
        have hef : s.2 = (restr a (lf l)).es := by rw [hqf]; rfl
        simp (maxSteps := 1000000) (disch := first | omega | exact PairsOK.mk rfl | (simp only [lenW] <;> omega)) only [hlt, Int.reduceGT, ne_eq, List.length_replicate, wD, Nat.reduceAdd, Nat.reduceEqDiff, Nat.reduceBEq, ↓reduceIte, reduceCtorEq, SX.exit.injEq, if_true, if_false, Int.reduceAdd, Int.reduceSub, Int.reduceMul, Int.reduceLT, Int.reduceLE, Int.reduceEq, Int.reduceNe, Int.reduceNeg, Int.reduceToNat, Nat.reduceMul, Nat.reduceLT, Nat.reduceSub, Nat.reduceLeDiff]
        refine ⟨(), ?_⟩
        rw [hmf, hef, ← hqf]
        exact ⟨[(60, .blk 60 0), (69, .blk 69 0), (75, .blk 75 0), (76, .blk 76 0), (77, .blk 77 0)], rfl, au0, au9, au10⟩
    rintro _ _
    have hra : (restr a (lf l)).al = a.al := rfl
    have hrn2 : (restr a (lf l)).n = (sAll a (lf l)).1.length := rfl
    simp (maxSteps := 1000000) (disch := first | omega | exact PairsOK.mk rfl | (simp only [lenW] <;> omega)) only [Int.reduceGT, ne_eq, List.length_replicate, wD, Nat.reduceAdd, Nat.reduceEqDiff, Nat.reduceBEq, ↓reduceIte, reduceCtorEq, SX.exit.injEq, if_true, if_false, Int.reduceAdd, Int.reduceSub, Int.reduceMul, Int.reduceLT, Int.reduceLE, Int.reduceEq, Int.reduceNe, Int.reduceNeg, Int.reduceToNat, Nat.reduceMul, Nat.reduceLT, Nat.reduceSub, Nat.reduceLeDiff]
    refine ⟨.inr trivial, _, rfl, ?_⟩
    exact Rn.tup (RnL.cons (Rn.agg (RnL.cons (Rn.same (noRef_sliN _)) (RnL.cons (Rn.same rfl) (RnL.cons (Rn.fz0 (g := 0) rfl (by simp [ints]) (RnL.same (noRefs_ints _))) (RnL.cons (Rn.fz0 (g := 0) rfl (ed_len _) (RnL.same (noRefs_ed _))) RnL.nil))))) (RnL.cons (Rn.fz0 (g := 0) rfl (by simp [ints]) (RnL.same (noRefs_ints _))) RnL.nil))
  · rw [if_neg hc0] at hsi hq0
    have es : sAll a (lf l) = ([], []) := by rw [← hq0]; unfold sQ; rfl
    have er : restr a (lf l) = ⟨a.al, 0, [], []⟩ := by unfold restr; rw [es]; rfl
    rw [er, es]
    by_cases h0n : (0 : Int) < (a.n : Int)
    · have hl0 : lf l 0 = false := by
        rw [← Bool.not_eq_true]; intro h; exact hc0 (by simp [h]; omega)
      have hh0 : (bls l).head? = some (.bool (lf l 0)) := by have := head_bls (l := l) (i := 0) (by omega); simpa using this
      simp (maxSteps := 1000000) (disch := first | omega | exact PairsOK.mk rfl | (simp only [lenW] <;> omega)) only [s40, h0n, hh0, hl0, Int.reduceGT, ne_eq, List.length_replicate, wD, Nat.reduceAdd, Nat.reduceEqDiff, Nat.reduceBEq, ↓reduceIte, reduceCtorEq, SX.exit.injEq, if_true, if_false, Int.reduceAdd, Int.reduceSub, Int.reduceMul, Int.reduceLT, Int.reduceLE, Int.reduceEq, Int.reduceNe, Int.reduceNeg, Int.reduceToNat, Nat.reduceMul, Nat.reduceLT, Nat.reduceSub, Nat.reduceLeDiff]
      refine wS_loopX 100 (fun _ : Unit => [(2, .ptr 50 0 0), (4, .ptr 60 0 0), (6, .ptr 69 0 0), (7, .nilsl), (8, .int .i64 0)])
        (fun t => [(50, .cells 0 (rsA a)), (60, .cells 0 rsN), (69, .cells 0 [sliN a.al, .int .i64 0, .nilsl, .nilsl])])
        (fun t => True) (fun t => 0) () 0 200
        (fun _ : Unit => [(4, .ptr 60 0 0), (6, .ptr 69 0 0), (7, .nilsl)])
        (fun _ => [(60, .cells 0 rsN), (69, .cells 0 [sliN a.al, .int .i64 0, .nilsl, .nilsl])]) (fun _ => True) ?_ trivial ?_ ?_
      · exact ⟨[(50, .blk 60 0), (60, .blk 61 0), (69, .blk 66 0)], rfl, au0, au9, au10⟩
      · rintro _ _
        simp (maxSteps := 1000000) (disch := first | omega | exact PairsOK.mk rfl | (simp only [lenW] <;> omega)) only [Int.reduceGT, ne_eq, List.length_replicate, wD, Nat.reduceAdd, Nat.reduceEqDiff, Nat.reduceBEq, ↓reduceIte, reduceCtorEq, SX.exit.injEq, if_true, if_false, Int.reduceAdd, Int.reduceSub, Int.reduceMul, Int.reduceLT, Int.reduceLE, Int.reduceEq, Int.reduceNe, Int.reduceNeg, Int.reduceToNat, Nat.reduceMul, Nat.reduceLT, Nat.reduceSub, Nat.reduceLeDiff]
        exact ⟨(), ⟨[(60, .blk 60 0), (69, .blk 69 0)], rfl, au0, au9, au10⟩⟩
      rintro _ _
      simp (maxSteps := 1000000) (disch := first | omega | exact PairsOK.mk rfl | (simp only [lenW] <;> omega)) only [Int.reduceGT, ne_eq, List.length_replicate, wD, Nat.reduceAdd, Nat.reduceEqDiff, Nat.reduceBEq, ↓reduceIte, reduceCtorEq, SX.exit.injEq, if_true, if_false, Int.reduceAdd, Int.reduceSub, Int.reduceMul, Int.reduceLT, Int.reduceLE, Int.reduceEq, Int.reduceNe, Int.reduceNeg, Int.reduceToNat, Nat.reduceMul, Nat.reduceLT, Nat.reduceSub, Nat.reduceLeDiff]
      refine ⟨.inr trivial, _, rfl, ?_⟩
      exact Rn.tup (RnL.cons (Rn.agg (RnL.cons (Rn.same (noRef_sliN _)) (RnL.cons (Rn.same rfl) (RnL.cons Rn.nilK (RnL.cons Rn.nilK RnL.nil))))) (RnL.cons Rn.nilK RnL.nil))
    · simp (maxSteps := 1000000) (disch := first | omega | exact PairsOK.mk rfl | (simp only [lenW] <;> omega)) only [s40, h0n, Int.reduceGT, ne_eq, List.length_replicate, wD, Nat.reduceAdd, Nat.reduceEqDiff, Nat.reduceBEq, ↓reduceIte, reduceCtorEq, SX.exit.injEq, if_true, if_false, Int.reduceAdd, Int.reduceSub, Int.reduceMul, Int.reduceLT, Int.reduceLE, Int.reduceEq, Int.reduceNe, Int.reduceNeg, Int.reduceToNat, Nat.reduceMul, Nat.reduceLT, Nat.reduceSub, Nat.reduceLeDiff]
      refine wS_loopX 100 (fun _ : Unit => [(2, .ptr 50 0 0), (4, .ptr 60 0 0), (6, .ptr 69 0 0), (7, .nilsl), (8, .int .i64 0)])
        (fun t => [(50, .cells 0 (rsA a)), (60, .cells 0 rsN), (69, .cells 0 [sliN a.al, .int .i64 0, .nilsl, .nilsl])])
        (fun t => True) (fun t => 0) () 0 200
        (fun _ : Unit => [(4, .ptr 60 0 0), (6, .ptr 69 0 0), (7, .nilsl)])
        (fun _ => [(60, .cells 0 rsN), (69, .cells 0 [sliN a.al, .int .i64 0, .nilsl, .nilsl])]) (fun _ => True) ?_ trivial ?_ ?_
      · exact ⟨[(50, .blk 60 0), (60, .blk 61 0), (69, .blk 66 0)], rfl, au0, au9, au10⟩
      · rintro _ _
        simp (maxSteps := 1000000) (disch := first | omega | exact PairsOK.mk rfl | (simp only [lenW] <;> omega)) only [Int.reduceGT, ne_eq, List.length_replicate, wD, Nat.reduceAdd, Nat.reduceEqDiff, Nat.reduceBEq, ↓reduceIte, reduceCtorEq, SX.exit.injEq, if_true, if_false, Int.reduceAdd, Int.reduceSub, Int.reduceMul, Int.reduceLT, Int.reduceLE, Int.reduceEq, Int.reduceNe, Int.reduceNeg, Int.reduceToNat, Nat.reduceMul, Nat.reduceLT, Nat.reduceSub, Nat.reduceLeDiff]
        exact ⟨(), ⟨[(60, .blk 60 0), (69, .blk 69 0)], rfl, au0, au9, au10⟩⟩
      rintro _ _
      simp (maxSteps := 1000000) (disch := first | omega | exact PairsOK.mk rfl | (simp only [lenW] <;> omega)) only [Int.reduceGT, ne_eq, List.length_replicate, wD, Nat.reduceAdd, Nat.reduceEqDiff, Nat.reduceBEq, ↓reduceIte, reduceCtorEq, SX.exit.injEq, if_true, if_false, Int.reduceAdd, Int.reduceSub, Int.reduceMul, Int.reduceLT, Int.reduceLE, Int.reduceEq, Int.reduceNe, Int.reduceNeg, Int.reduceToNat, Nat.reduceMul, Nat.reduceLT, Nat.reduceSub, Nat.reduceLeDiff]
      refine ⟨.inr trivial, _, rfl, ?_⟩
      exact Rn.tup (RnL.cons (Rn.agg (RnL.cons (Rn.same (noRef_sliN _)) (RnL.cons (Rn.same rfl) (RnL.cons Rn.nilK (RnL.cons Rn.nilK RnL.nil))))) (RnL.cons Rn.nilK RnL.nil))
end Go.AM.SE
namespace Go.AM.SE
open Go.Proofs Go.AM.SD
set_option maxRecDepth 100000
set_option linter.unusedSimpArgs false
set_option linter.unusedVariables false
abbrev rrN : Rm := ⟨0, 0, 0, 0⟩
theorem repR (n : Nat) : (List.replicate n [AV.int .i64 0, AV.int .i64 0, AV.int .i64 0, AV.int .i64 0]).flatten = (List.replicate n rrN).flatMap rmC := by
  induction n with
  | zero => rfl
  | succ n ih => rw [List.replicate_succ, List.flatten_cons, ih, List.replicate_succ, List.flatMap_cons]; rfl
def rrP (n i : Nat) : List Rm := (List.range i).map rm0 ++ List.replicate (n - i) rrN
theorem rrP_len {n i : Nat} (h : i ≤ n) : (rrP n i).length = n := by unfold rrP; simp; omega
theorem rrP_set {n i : Nat} (h : i < n) : (rrP n i).set i (rm0 i) = rrP n (i + 1) := by
  unfold rrP
  rw [List.set_append_right _ _ (by simp), List.length_map, List.length_range, Nat.sub_self, show n - i = (n - (i + 1)) + 1 by omega, List.replicate_succ, List.set_cons_zero, List.range_succ, List.map_append, List.append_assoc]; rfl
theorem rrP_end {n : Nat} : rrP n n = (List.range n).map rm0 := by unfold rrP; simp
def kf (f : List Nat) (i : Nat) : Nat := if (List.range i).any (fun x => f.contains x) then 1 else 0
theorem kf_succ {f : List Nat} {i : Nat} : kf f (i + 1) = if f.contains i = true then 1 else kf f i := by
  unfold kf
  rw [List.range_succ, List.any_append]
  generalize (List.range i).any (fun x => f.contains x) = b
  simp only [List.any_cons, List.any_nil, Bool.or_false]
  cases b <;> cases f.contains i <;> rfl
theorem kf_end {f : List Nat} {n : Nat} (hf : ∀ x ∈ f, x < n) : kf f n = if f.length = 0 then 0 else 1 := by
  unfold kf
  cases f with
  | nil => simp
  | cons x f =>
    rw [if_pos, if_neg (by simp)]
    rw [List.any_eq_true]
    exact ⟨x, List.mem_range.2 (hf x (by simp)), by simp⟩
theorem putR_take {rs nx : List Rm} {j : Nat} {x : Rm} (h : nx[j]? = some x) : SD.putR rs (nx.take (j + 1)) = (SD.putR rs (nx.take j)).set x.st x := by
  unfold SD.putR
  rw [List.take_add_one, h, Option.toList, List.foldl_append]; rfl
theorem asm_succ {i : Nat} {l : LB} {rr : List Rm} : asm (i + 1) l rr = asm i l rr ++ (if lf l i then none else rr[i]?).toList := by
  unfold asm
  rw [List.range_succ, List.filterMap_append]
  cases h : (if lf l i then none else rr[i]?) <;> simp [h]
theorem asm_len {i : Nat} {l : LB} {rr : List Rm} : (asm i l rr).length ≤ i := by
  unfold asm; exact Nat.le_trans (List.length_filterMap_le _ _) (by simp)
def dFin (a : Aut) (f u : List Nat) (closed : Bool) : LB × List Rm × Nat := rRounds a.n a.es a.ms u closed (a.n + 1) 2 (left0 a.n f) ((List.range a.n).map rm0) (if f.length = 0 then 0 else 1)
def dRes (a : Aut) (f u : List Nat) (closed : Bool) : Res :=
  let F := dFin a f u closed
  ⟨kept a.n F.1, dists a.n F.1 (rDist a.es (lf F.1) (a.n + 1) 1 (o0 a.n a.ms (lf F.1))), asm a.n F.1 F.2.1, F.2.2, restr a (lf F.1), (sAll a (lf F.1)).1⟩
def dH (a : Aut) (l : LB) (rr : List Rm) (k : Nat) : HL := [(41, .cells 0 nine), (50, .cells 0 (rsA a)), (61, .cells 0 [.nilsl, .nilsl, .nilsl, .int .i64 (k : Int), .nilsl, .int .i64 0, .nilsl, .nilsl, .nilsl]), (72, .cells 0 (bls l)), (73, .cells 0 (rr.flatMap rmC))]
abbrev St5 := Nat × LB × List Rm × Nat
def dT (a : Aut) (f u : List Nat) (closed : Bool) (i : Nat) : Tmps := [(1, sliN f), (2, sliN u), (3, .bool closed), (4, .ptr 50 0 0), (8, .ptr 41 0 0), (9, .ptr 61 0 0), (10, .sl 72 0 0 a.n 1), (11, .sl 73 0 0 a.n 4), (12, .int .i64 i)]
def dT1 (a : Aut) (u : List Nat) (closed : Bool) : Tmps := [(2, sliN u), (3, .bool closed), (4, .ptr 50 0 0), (8, .ptr 41 0 0), (9, .ptr 61 0 0), (10, .sl 72 0 0 a.n 1), (11, .sl 73 0 0 a.n 4)]
def dT2 (a : Aut) : Tmps := [(4, .ptr 50 0 0), (8, .ptr 41 0 0), (9, .ptr 61 0 0), (10, .sl 72 0 0 a.n 1), (11, .sl 73 0 0 a.n 4)]
set_option maxHeartbeats 64000000 in
theorem result26 (a : Aut) (f u : List Nat) (closed : Bool) (h : WfA a) (hq : QOk a f u) (hel : a.es.length ≤ 1000000) : PSpec Try.prog 26 [aV a, sliN f, sliN u, .bool closed] (rsV (dRes a f u closed)) := by
  have hn5 := h.n5
  have hfl := sorted_len hq.fS hq.fn
  have hul := sorted_len hq.uS hq.un
  have hml : a.ms.length ≤ a.n := nodup_len a.n a.ms h.nd h.msn
  have hn' : (a.n : Int) ≤ 1099511627776 := by omega
  have hn32 : (32 : Int) * (a.n : Int) ≤ 1099511627776 := by omega
  refine PSpec.of_rn 40 ok26 rfl (by (try simp only [noRefs, noRefs_u8, noRefs_keysI, noRefs_back, noRefs_ints, noRefs_eg, noRefs_ed, noRefs_rm, noRefs_ls, noRefs_bls, noRef, Bool.and_self, Bool.and_true]) <;> rfl) (noRef_res _) ?_
  simp (maxSteps := 1000000) (disch := first | omega | exact PairsOK.mk rfl | (simp only [lenW] <;> omega)) only [s26, hn', hn32, reps, repR, Int.reduceGT, ne_eq, List.length_replicate, wD, Nat.reduceAdd, Nat.reduceEqDiff, Nat.reduceBEq, ↓reduceIte, reduceCtorEq, SX.exit.injEq, if_true, if_false, Int.reduceAdd, Int.reduceSub, Int.reduceMul, Int.reduceLT, Int.reduceLE, Int.reduceEq, Int.reduceNe, Int.reduceNeg, Int.reduceToNat, Nat.reduceMul, Nat.reduceLT, Nat.reduceSub, Nat.reduceLeDiff]
  refine wS_loopX 110 (fun i : Nat => dT a f u closed i)
    (fun i => dH a (lfP a.n f i) (rrP a.n i) (kf f i))
    (fun i => i ≤ a.n) (fun i => a.n - i) 0 0 160
    (fun _ : Unit => dT1 a u closed)
    (fun _ => dH a (left0 a.n f) ((List.range a.n).map rm0) (kf f a.n)) (fun _ => True) ?_ (Nat.zero_le _) ?_ ?_
  · have e : List.replicate a.n false = lfP a.n f 0 := by simp [lfP]
    have e2 : List.replicate a.n rrN = rrP a.n 0 := by simp [rrP]
    rw [e, e2]
    try dsimp only [dT, dH]
    exact ⟨[(41, .blk 41 0), (50, .blk 40 0), (61, .blk 42 0), (72, .blk 45 0), (73, .blk 49 0)], rfl, au0, au9, au10⟩
  · rintro i hi
    try dsimp only [dT, dH]
    by_cases hlt : i < a.n
    · have hst := lfP_set (F := f) hlt
      have hst2 := rrP_set hlt
      have hks := kf_succ (f := f) (i := i)
      have hln := lfP_len (F := f) hi
      have hln2 := rrP_len hi
      generalize lfP a.n f i = o at *
      generalize rrP a.n i = rr at *
      generalize kf f i = k at *
      have hil : i < o.length := by omega
      have hi1 : i + 1 ≤ o.length := by omega
      have hrl := rm_len rr
      have g1 : i * 4 + 4 ≤ rr.length * 4 := by omega
      have hc := has15 (nz f) i (by simp; omega)
      rw [mem_nz, sli_nz] at hc
      have pp : (rr.flatMap rmC).take (i * 4) ++ [.int .i64 (i : Int), .int .i64 1, .int .i64 1, .int .i64 (-1)] ++ (rr.flatMap rmC).drop (i * 4 + 4) = (rr.set i (rm0 i)).flatMap rmC := put_rm' (l := rr) (i := i) (r := rm0 i) (by omega)
      simp (maxSteps := 1000000) (disch := first | omega | exact PairsOK.mk rfl | (simp only [lenW] <;> omega)) only [hlt, Int.reduceGT, ne_eq, List.length_replicate, wD, Nat.reduceAdd, Nat.reduceEqDiff, Nat.reduceBEq, ↓reduceIte, reduceCtorEq, SX.exit.injEq, if_true, if_false, Int.reduceAdd, Int.reduceSub, Int.reduceMul, Int.reduceLT, Int.reduceLE, Int.reduceEq, Int.reduceNe, Int.reduceNeg, Int.reduceToNat, Nat.reduceMul, Nat.reduceLT, Nat.reduceSub, Nat.reduceLeDiff]
      refine cp hc ?_
      cases hb : f.contains i with
      | true =>
        rw [hb, Bool.not_true] at hst
        rw [hb, if_pos rfl] at hks
        have hgb : (bls (lfP a.n f (i + 1)))[i]? = some (.bool false) := by
          rw [← hst, ← bls_set, List.getElem?_set_self (by rw [bls_len]; exact hil)]
        simp (maxSteps := 1000000) (disch := first | omega | exact PairsOK.mk rfl | (simp only [lenW] <;> omega)) only [hlt, hi1, bls_set, hst, hgb, hrl, g1, pp, hst2, Int.reduceGT, ne_eq, List.length_replicate, wD, Nat.reduceAdd, Nat.reduceEqDiff, Nat.reduceBEq, ↓reduceIte, reduceCtorEq, SX.exit.injEq, if_true, if_false, Int.reduceAdd, Int.reduceSub, Int.reduceMul, Int.reduceLT, Int.reduceLE, Int.reduceEq, Int.reduceNe, Int.reduceNeg, Int.reduceToNat, Nat.reduceMul, Nat.reduceLT, Nat.reduceSub, Nat.reduceLeDiff]
        refine ⟨i + 1, by omega, by omega, ?_⟩
        try dsimp only [dT, dH]
        rw [hks]
        exact ⟨[(41, .blk 41 0), (50, .blk 50 0), (61, .blk 61 0), (72, .blk 72 0), (73, .blk 73 0)], rfl, au0, au9, au10⟩
      | false =>
        rw [hb, Bool.not_false] at hst
        rw [hb, if_neg (by decide)] at hks
        have hgb : (bls (lfP a.n f (i + 1)))[i]? = some (.bool true) := by
          rw [← hst, ← bls_set, List.getElem?_set_self (by rw [bls_len]; exact hil)]
        simp (maxSteps := 1000000) (disch := first | omega | exact PairsOK.mk rfl | (simp only [lenW] <;> omega)) only [hlt, hi1, bls_set, hst, hgb, hrl, g1, pp, hst2, Int.reduceGT, ne_eq, List.length_replicate, wD, Nat.reduceAdd, Nat.reduceEqDiff, Nat.reduceBEq, ↓reduceIte, reduceCtorEq, SX.exit.injEq, if_true, if_false, Int.reduceAdd, Int.reduceSub, Int.reduceMul, Int.reduceLT, Int.reduceLE, Int.reduceEq, Int.reduceNe, Int.reduceNeg, Int.reduceToNat, Nat.reduceMul, Nat.reduceLT, Nat.reduceSub, Nat.reduceLeDiff]
        refine ⟨i + 1, by omega, by omega, ?_⟩
        try dsimp only [dT, dH]
        rw [hks]
        exact ⟨[(41, .blk 41 0), (50, .blk 50 0), (61, .blk 61 0), (72, .blk 72 0), (73, .blk 73 0)], rfl, au0, au9, au10⟩
    · have e : i = a.n := by omega
      subst e
      simp (maxSteps := 1000000) (disch := first | omega | exact PairsOK.mk rfl | (simp only [lenW] <;> omega)) only [hlt, Int.reduceGT, ne_eq, List.length_replicate, wD, Nat.reduceAdd, Nat.reduceEqDiff, Nat.reduceBEq, ↓reduceIte, reduceCtorEq, SX.exit.injEq, if_true, if_false, Int.reduceAdd, Int.reduceSub, Int.reduceMul, Int.reduceLT, Int.reduceLE, Int.reduceEq, Int.reduceNe, Int.reduceNeg, Int.reduceToNat, Nat.reduceMul, Nat.reduceLT, Nat.reduceSub, Nat.reduceLeDiff]
      refine ⟨(), ?_⟩
      try dsimp only [dT1, dH]
      rw [← lfP_end, ← rrP_end]
      exact ⟨[(41, .blk 41 0), (50, .blk 50 0), (61, .blk 61 0), (72, .blk 72 0), (73, .blk 73 0)], rfl, au0, au9, au10⟩
  rintro _ _
  rw [kf_end hq.fn]
  have hc0 : cntL a.n (left0 a.n f) < a.n + 1 := by
    have : cntL a.n (left0 a.n f) ≤ a.n := by unfold cntL; exact Nat.le_trans List.countP_le_length (by simp)
    omega
  try dsimp only [dT1, dH]
  simp (maxSteps := 1000000) (disch := first | omega | exact PairsOK.mk rfl | (simp only [lenW] <;> omega)) only [Int.reduceGT, ne_eq, List.length_replicate, wD, Nat.reduceAdd, Nat.reduceEqDiff, Nat.reduceBEq, ↓reduceIte, reduceCtorEq, SX.exit.injEq, if_true, if_false, Int.reduceAdd, Int.reduceSub, Int.reduceMul, Int.reduceLT, Int.reduceLE, Int.reduceEq, Int.reduceNe, Int.reduceNeg, Int.reduceToNat, Nat.reduceMul, Nat.reduceLT, Nat.reduceSub, Nat.reduceLeDiff]
  refine wS_loopX 170 (fun t : St5 => dT1 a u closed ++ [(13, .int .i64 t.1)]) (fun t => dH a t.2.1 t.2.2.1 t.2.2.2)
    (fun t => t.2.1.length = a.n ∧ t.2.2.1.length = a.n ∧ t.1 + cntL a.n t.2.1 ≤ a.n + 2 ∧ ∃ fu, cntL a.n t.2.1 < fu ∧ rRounds a.n a.es a.ms u closed fu t.1 t.2.1 t.2.2.1 t.2.2.2 = dFin a f u closed)
    (fun t => cntL a.n t.2.1) (2, left0 a.n f, (List.range a.n).map rm0, if f.length = 0 then 0 else 1) 2 260
    (fun _ : St5 => dT2 a) (fun t => dH a t.2.1 t.2.2.1 t.2.2.2) (fun t => t.2 = dFin a f u closed ∧ t.2.1.length = a.n ∧ t.2.2.1.length = a.n) ?_ ⟨left0_len, by simp, by dsimp only; omega, a.n + 1, hc0, rfl⟩ ?_ ?_
  · try dsimp only [dT1, dH, List.cons_append, List.nil_append]
    exact ⟨[(41, .blk 41 0), (50, .blk 50 0), (61, .blk 61 0), (72, .blk 72 0), (73, .blk 73 0)], rfl, au0, au9, au10⟩
  · rintro ⟨rank, l, rr, k⟩ ⟨hl, hrr, hrk, fu, hfu, hpr⟩
    dsimp only at hl hrr hrk hfu hpr ⊢
    try dsimp only [dT1, dH]
    have hN := next19 a u l rank closed h.inN hl (by omega) hel (by omega) (by omega)
    have hst := pNext_st (left := lf l) (unc := u) (rank := rank) (all := !closed) h.inN h.nd h.srt
    rw [pNext_eq h.inN h.nd h.srt, Bool.not_not] at hst
    obtain ⟨fu, rfl⟩ : ∃ m, fu = m + 1 := ⟨fu - 1, by omega⟩
    have hdec : ∀ r ∈ rNext a.n a.es a.ms (lf l) u rank closed, cntL a.n (offs l ((rNext a.n a.es a.ms (lf l) u rank closed).map (·.st))) < cntL a.n l := fun r hr => by
      obtain ⟨h1, h2⟩ := hst.2 r hr
      refine cntL_lt (fun i _ hi => ?_) h1 h2 ?_
      · rw [lf_offs] at hi; simp only [Bool.and_eq_true] at hi; exact hi.1
      · rw [lf_offs, len_of_contains (List.mem_map.2 ⟨r, hr, rfl⟩)]; simp
    unfold rRounds at hpr
    have hnl : (rNext a.n a.es a.ms (lf l) u rank closed).length ≤ a.n := by
      have h1 : ((rNext a.n a.es a.ms (lf l) u rank closed).map (·.st)).length ≤ a.n := nodup_len a.n _ (by
        rw [List.nodup_iff_pairwise_ne, List.pairwise_map]; exact hst.1.imp fun h => by omega) fun x hx => by
          obtain ⟨r, hr, rfl⟩ := List.mem_map.1 hx
          exact (hst.2 r hr).1
      simpa using h1
    generalize rNext a.n a.es a.ms (lf l) u rank closed = nx at *
    simp (maxSteps := 1000000) (disch := first | omega | exact PairsOK.mk rfl | (simp only [lenW] <;> omega)) only [List.cons_append, List.nil_append, Int.reduceGT, ne_eq, List.length_replicate, wD, Nat.reduceAdd, Nat.reduceEqDiff, Nat.reduceBEq, ↓reduceIte, reduceCtorEq, SX.exit.injEq, if_true, if_false, Int.reduceAdd, Int.reduceSub, Int.reduceMul, Int.reduceLT, Int.reduceLE, Int.reduceEq, Int.reduceNe, Int.reduceNeg, Int.reduceToNat, Nat.reduceMul, Nat.reduceLT, Nat.reduceSub, Nat.reduceLeDiff]
    refine ch (HSpec.of_F (FrzL.cons (FrzTo.same _) (FrzL.cons (FrzTo.all (g := 0) (cs := bls l) (by first | (simp (disch := omega) only [get_same, get_ne, hp_cons]; done) | (simp (disch := omega) only [get_same, get_ne, hp_cons]; rfl)) (by rw [bls_len, hl, Nat.mul_one])) (FrzL.cons (FrzTo.same _) (FrzL.cons (FrzTo.same _) (FrzL.cons (FrzTo.same _) FrzL.nil))))) (FSpec.of_new hN (by (try simp only [noRefs, noRefs_u8, noRefs_keysI, noRefs_back, noRefs_ints, noRefs_eg, noRefs_ed, noRefs_rm, noRefs_ls, noRefs_bls, noRef, Bool.and_self, Bool.and_true]) <;> rfl) (flat_rm _) (rm_len _) rfl)) ?_
    by_cases h0 : nx.length = 0
    · rw [if_pos h0] at hpr
      simp (maxSteps := 1000000) (disch := first | omega | exact PairsOK.mk rfl | (simp only [lenW] <;> omega)) only [h0, Int.reduceGT, ne_eq, List.length_replicate, wD, Nat.reduceAdd, Nat.reduceEqDiff, Nat.reduceBEq, ↓reduceIte, reduceCtorEq, SX.exit.injEq, if_true, if_false, Int.reduceAdd, Int.reduceSub, Int.reduceMul, Int.reduceLT, Int.reduceLE, Int.reduceEq, Int.reduceNe, Int.reduceNeg, Int.reduceToNat, Nat.reduceMul, Nat.reduceLT, Nat.reduceSub, Nat.reduceLeDiff]
      refine ⟨(rank, l, rr, k), ⟨hpr, hl, hrr⟩, ?_⟩
      try dsimp only [dT2, dH]
      exact ⟨[(41, .blk 41 0), (50, .blk 50 0), (61, .blk 61 0), (72, .blk 72 0), (73, .blk 73 0)], rfl, au0, au9, au10⟩
    · rw [if_neg h0] at hpr
      obtain ⟨r0, hr0⟩ : ∃ r, r ∈ nx := by
        cases nx with
        | nil => exact absurd rfl h0
        | cons r _ => exact ⟨r, by simp⟩
      have hd0 := hdec r0 hr0
      have h0' : ¬ (nx.length : Int) = 0 := by omega
      simp (maxSteps := 1000000) (disch := first | omega | exact PairsOK.mk rfl | (simp only [lenW] <;> omega)) only [h0', Int.reduceGT, ne_eq, List.length_replicate, wD, Nat.reduceAdd, Nat.reduceEqDiff, Nat.reduceBEq, ↓reduceIte, reduceCtorEq, SX.exit.injEq, if_true, if_false, Int.reduceAdd, Int.reduceSub, Int.reduceMul, Int.reduceLT, Int.reduceLE, Int.reduceEq, Int.reduceNe, Int.reduceNeg, Int.reduceToNat, Nat.reduceMul, Nat.reduceLT, Nat.reduceSub, Nat.reduceLeDiff]
      refine wS_loopX 300 (fun j : Nat => dT1 a u closed ++ [(13, .int .i64 rank), (14, rms nx), (15, .int .i64 j)])
        (fun j => dH a (offs l ((nx.map (·.st)).take j)) (SD.putR rr (nx.take j)) k) (fun j => j ≤ nx.length) (fun j => nx.length - j) 0 4 400
        (fun _ : Unit => dT1 a u closed ++ [(13, .int .i64 rank), (14, rms nx)])
        (fun _ => dH a (offs l (nx.map (·.st))) (SD.putR rr nx) k) (fun _ => True) ?_ (Nat.zero_le _) ?_ ?_
      · try dsimp only [dT1, dH, List.cons_append, List.nil_append]
        exact ⟨[(41, .blk 41 0), (50, .blk 50 0), (61, .blk 61 0), (72, .blk 72 0), (73, .blk 73 0)], rfl, au0, au9, au10⟩
      · rintro j hj
        try dsimp only [dT1, dH]
        by_cases hjl : j < nx.length
        · obtain ⟨r, hr⟩ := get_ex hjl
          have hrn := (hst.2 r (List.mem_of_getElem? hr)).1
          have hst2 := offs_take (l := l) (xs := nx.map (·.st)) (i := j) (x := r.st) (by rw [List.getElem?_map, hr]; rfl)
          have hst3 := putR_take (rs := rr) hr
          have hol : (offs l ((nx.map (·.st)).take j)).length = a.n := by rw [offs_len]; exact hl
          have hpl : (SD.putR rr (nx.take j)).length = a.n := by rw [SD.putR_len]; exact hrr
          generalize offs l ((nx.map (·.st)).take j) = L at *
          generalize SD.putR rr (nx.take j) = R at *
          have h1 : r.st + 1 ≤ L.length := by omega
          have hrl := rm_len R
          have g1 : r.st * 4 + 4 ≤ R.length * 4 := by omega
          have pp := put_rm' (l := R) (i := r.st) (r := r) (by omega)
          simp (maxSteps := 1000000) (disch := first | omega | exact PairsOK.mk rfl | (simp only [lenW] <;> omega)) only [List.cons_append, List.nil_append, hjl, drop_rms hr, hrn, h1, bls_set, hrl, g1, pp, Int.reduceGT, ne_eq, List.length_replicate, wD, Nat.reduceAdd, Nat.reduceEqDiff, Nat.reduceBEq, ↓reduceIte, reduceCtorEq, SX.exit.injEq, if_true, if_false, Int.reduceAdd, Int.reduceSub, Int.reduceMul, Int.reduceLT, Int.reduceLE, Int.reduceEq, Int.reduceNe, Int.reduceNeg, Int.reduceToNat, Nat.reduceMul, Nat.reduceLT, Nat.reduceSub, Nat.reduceLeDiff]
          refine ⟨j + 1, by omega, by omega, ?_⟩
          try dsimp only [dT1, dH, List.cons_append, List.nil_append]
          rw [hst2, hst3]
          exact ⟨[(41, .blk 41 0), (50, .blk 50 0), (61, .blk 61 0), (72, .blk 72 0), (73, .blk 73 0)], rfl, au0, au9, au10⟩
        · have e : j = nx.length := by omega
          have e2 : (nx.map (·.st)).take j = nx.map (·.st) := by rw [List.take_of_length_le]; simp; omega
          have e3 : nx.take j = nx := by rw [List.take_of_length_le]; omega
          rw [e2, e3]
          simp (maxSteps := 1000000) (disch := first | omega | exact PairsOK.mk rfl | (simp only [lenW] <;> omega)) only [List.cons_append, List.nil_append, hjl, Int.reduceGT, ne_eq, List.length_replicate, wD, Nat.reduceAdd, Nat.reduceEqDiff, Nat.reduceBEq, ↓reduceIte, reduceCtorEq, SX.exit.injEq, if_true, if_false, Int.reduceAdd, Int.reduceSub, Int.reduceMul, Int.reduceLT, Int.reduceLE, Int.reduceEq, Int.reduceNe, Int.reduceNeg, Int.reduceToNat, Nat.reduceMul, Nat.reduceLT, Nat.reduceSub, Nat.reduceLeDiff]
          refine ⟨(), ?_⟩
          try dsimp only [dT1, dH, List.cons_append, List.nil_append]
          exact ⟨[(41, .blk 41 0), (50, .blk 50 0), (61, .blk 61 0), (72, .blk 72 0), (73, .blk 73 0)], rfl, au0, au9, au10⟩
      rintro _ _
      try dsimp only [dT1, dH]
      simp (maxSteps := 1000000) (disch := first | omega | exact PairsOK.mk rfl | (simp only [lenW] <;> omega)) only [List.cons_append, List.nil_append, Int.reduceGT, ne_eq, List.length_replicate, wD, Nat.reduceAdd, Nat.reduceEqDiff, Nat.reduceBEq, ↓reduceIte, reduceCtorEq, SX.exit.injEq, if_true, if_false, Int.reduceAdd, Int.reduceSub, Int.reduceMul, Int.reduceLT, Int.reduceLE, Int.reduceEq, Int.reduceNe, Int.reduceNeg, Int.reduceToNat, Nat.reduceMul, Nat.reduceLT, Nat.reduceSub, Nat.reduceLeDiff]
      refine ⟨(rank + 1, offs l (nx.map (·.st)), SD.putR rr nx, rank), by dsimp only; exact hd0, ⟨by dsimp only; rw [offs_len]; exact hl, by dsimp only; rw [SD.putR_len]; exact hrr, by dsimp only; omega, fu, by dsimp only; omega, hpr⟩, ?_⟩
      try dsimp only [dT1, dH, List.cons_append, List.nil_append]
      exact ⟨[(41, .blk 41 0), (50, .blk 50 0), (61, .blk 61 0), (72, .blk 72 0), (73, .blk 73 0)], rfl, au0, au9, au10⟩
  rintro ⟨rank, l, rr, k⟩ ⟨hfin, hl, hrr⟩
  dsimp only at hfin hl hrr ⊢
  have hsup := restrict40 a l h hl hel
  have hdi := dist33 a l h.inN hl (by omega) hel (by omega)
  have hdl : (rDist a.es (lf l) (a.n + 1) 1 (o0 a.n a.ms (lf l))).length = a.n := by rw [rDist_len]; simp [o0]
  have hres : dRes a f u closed = ⟨kept a.n l, dists a.n l (rDist a.es (lf l) (a.n + 1) 1 (o0 a.n a.ms (lf l))), asm a.n l rr, k, restr a (lf l), (sAll a (lf l)).1⟩ := by
    unfold dRes; rw [← hfin]
  rw [hres]
  generalize rDist a.es (lf l) (a.n + 1) 1 (o0 a.n a.ms (lf l)) = d at *
  try dsimp only [dT2, dH]
  simp (maxSteps := 1000000) (disch := first | omega | exact PairsOK.mk rfl | (simp only [lenW] <;> omega)) only [Int.reduceGT, ne_eq, List.length_replicate, wD, Nat.reduceAdd, Nat.reduceEqDiff, Nat.reduceBEq, ↓reduceIte, reduceCtorEq, SX.exit.injEq, if_true, if_false, Int.reduceAdd, Int.reduceSub, Int.reduceMul, Int.reduceLT, Int.reduceLE, Int.reduceEq, Int.reduceNe, Int.reduceNeg, Int.reduceToNat, Nat.reduceMul, Nat.reduceLT, Nat.reduceSub, Nat.reduceLeDiff]
  refine ch (HSpec.of_F (FrzL.cons (FrzTo.same _) (FrzL.cons (FrzTo.all (g := 0) (cs := bls l) (by first | (simp (disch := omega) only [get_same, get_ne, hp_cons]; done) | (simp (disch := omega) only [get_same, get_ne, hp_cons]; rfl)) (by rw [bls_len, hl, Nat.mul_one])) FrzL.nil)) (FSpec.of_new hdi (by (try simp only [noRefs, noRefs_u8, noRefs_keysI, noRefs_back, noRefs_ints, noRefs_eg, noRefs_ed, noRefs_rm, noRefs_ls, noRefs_bls, noRef, Bool.and_self, Bool.and_true]) <;> rfl) (flat_ints _) (by rw [ints_len, hdl, Nat.mul_one]) rfl)) ?_
  simp (maxSteps := 1000000) (disch := first | omega | exact PairsOK.mk rfl | (simp only [lenW] <;> omega)) only [Int.reduceGT, ne_eq, List.length_replicate, wD, Nat.reduceAdd, Nat.reduceEqDiff, Nat.reduceBEq, ↓reduceIte, reduceCtorEq, SX.exit.injEq, if_true, if_false, Int.reduceAdd, Int.reduceSub, Int.reduceMul, Int.reduceLT, Int.reduceLE, Int.reduceEq, Int.reduceNe, Int.reduceNeg, Int.reduceToNat, Nat.reduceMul, Nat.reduceLT, Nat.reduceSub, Nat.reduceLeDiff]
  refine wS_loopX 500 (fun i : Nat => dT2 a ++ [(16, .fsl (ints d) a.n 1), (17, .int .i64 i)])
    (fun i => [(41, .cells 0 nine), (50, .cells 0 (rsA a)), (61, .cells 0 [.sl 76 0 0 (kept i l).length 1, .sl 77 0 0 (kept i l).length 1, .sl 78 0 0 (asm i l rr).length 4, .int .i64 (k : Int), .nilsl, .int .i64 0, .nilsl, .nilsl, .nilsl]), (72, .cells 0 (bls l)), (73, .cells 0 (rr.flatMap rmC)), (76, .cells 0 (ints (nz (kept i l)))), (77, .cells 0 (ints (dists i l d))), (78, .cells 0 ((asm i l rr).flatMap rmC))])
    (fun i => i ≤ a.n) (fun i => a.n - i) 0 6 600
    (fun _ : Unit => [(10, .fsl (bls l) a.n 1), (4, .ptr 50 0 0), (8, .ptr 41 0 0), (9, .ptr 61 0 0)])
    (fun _ => [(41, .cells 0 nine), (50, .cells 0 (rsA a)), (61, .cells 0 [.sl 76 0 0 (kept a.n l).length 1, .sl 77 0 0 (kept a.n l).length 1, .sl 78 0 0 (asm a.n l rr).length 4, .int .i64 (k : Int), .nilsl, .int .i64 0, .nilsl, .nilsl, .nilsl]), (76, .cells 0 (ints (nz (kept a.n l)))), (77, .cells 0 (ints (dists a.n l d))), (78, .cells 0 ((asm a.n l rr).flatMap rmC))]) (fun _ => True) ?_ (Nat.zero_le _) ?_ ?_
  · try dsimp only [dT2, List.cons_append, List.nil_append]
    exact ⟨[(41, .blk 41 0), (50, .blk 50 0), (61, .blk 61 0), (72, .blk 72 0), (73, .blk 73 0), (76, .nil), (77, .nil), (78, .nil)], rfl, au0, au9, au10⟩
  · rintro i hi
    try dsimp only [dT2]
    by_cases hlt : i < a.n
    · have hks := kept_succ (i := i) (l := l)
      have hds := dists_succ (i := i) (l := l) (d := d)
      have has := asm_succ (i := i) (l := l) (rr := rr)
      have hkl := @kept_len i l
      have hdl2 := @dists_len i l d
      have hal := @asm_len i l rr
      generalize kept i l = K at *
      generalize dists i l d = D at *
      generalize asm i l rr = E at *
      have hil : i < l.length := by omega
      have hid : i < d.length := by omega
      have hdx : d[i]? = some (d.getD i 0) := by rw [List.getElem?_eq_getElem hid]; simp [hid]
      by_cases h1 : lf l i = true
      · rw [if_pos h1] at hks hds
        rw [h1, if_pos rfl, Option.toList, List.append_nil] at has
        simp (maxSteps := 1000000) (disch := first | omega | exact PairsOK.mk rfl | (simp only [lenW] <;> omega)) only [List.cons_append, List.nil_append, hlt, get_bls hil, head_ints hdx, h1, hdl2, Int.reduceGT, ne_eq, List.length_replicate, wD, Nat.reduceAdd, Nat.reduceEqDiff, Nat.reduceBEq, ↓reduceIte, reduceCtorEq, SX.exit.injEq, if_true, if_false, Int.reduceAdd, Int.reduceSub, Int.reduceMul, Int.reduceLT, Int.reduceLE, Int.reduceEq, Int.reduceNe, Int.reduceNeg, Int.reduceToNat, Nat.reduceMul, Nat.reduceLT, Nat.reduceSub, Nat.reduceLeDiff]
        refine wS_regionH [(100, [76])] rfl rfl ?_
        simp (maxSteps := 1000000) (disch := first | omega | exact PairsOK.mk rfl | (simp only [lenW] <;> omega)) only [List.cons_append, List.nil_append, hlt, get_bls hil, head_ints hdx, h1, hdl2, Int.reduceGT, ne_eq, List.length_replicate, wD, Nat.reduceAdd, Nat.reduceEqDiff, Nat.reduceBEq, ↓reduceIte, reduceCtorEq, SX.exit.injEq, if_true, if_false, Int.reduceAdd, Int.reduceSub, Int.reduceMul, Int.reduceLT, Int.reduceLE, Int.reduceEq, Int.reduceNe, Int.reduceNeg, Int.reduceToNat, Nat.reduceMul, Nat.reduceLT, Nat.reduceSub, Nat.reduceLeDiff]
        refine ⟨⟨⟨_, rfl, fun b hb => hb⟩, trivial⟩, i + 1, by omega, by omega, ?_⟩
        rw [hks, hds, has, List.length_append, nz_append, ints_append, ints_append]
        exact ⟨[(41, .blk 41 0), (50, .blk 50 0), (61, .blk 61 0), (72, .blk 72 0), (73, .blk 73 0), (76, .blk 76 1), (77, .blk 77 1), (78, .blk 78 0)], rfl, au0, au9, au10⟩
      · rw [if_neg h1, List.append_nil] at hks hds
        rw [Bool.not_eq_true] at h1
        obtain ⟨r, hr⟩ := get_ex (l := rr) (i := i) (by omega)
        rw [h1, if_neg (by decide), hr, Option.toList] at has
        have hel4 := rm_len E
        have hrl := rm_len rr
        have g1 : i * 4 + 4 ≤ rr.length * 4 := by omega
        simp (maxSteps := 1000000) (disch := first | omega | exact PairsOK.mk rfl | (simp only [lenW] <;> omega)) only [List.cons_append, List.nil_append, hlt, get_bls hil, h1, drop_rms hr, hel4, hrl, g1, Int.reduceGT, ne_eq, List.length_replicate, wD, Nat.reduceAdd, Nat.reduceEqDiff, Nat.reduceBEq, ↓reduceIte, reduceCtorEq, SX.exit.injEq, if_true, if_false, Int.reduceAdd, Int.reduceSub, Int.reduceMul, Int.reduceLT, Int.reduceLE, Int.reduceEq, Int.reduceNe, Int.reduceNeg, Int.reduceToNat, Nat.reduceMul, Nat.reduceLT, Nat.reduceSub, Nat.reduceLeDiff]
        refine ⟨i + 1, by omega, by omega, ?_⟩
        rw [hks, hds, has, List.flatMap_append, List.length_append]
        exact ⟨[(41, .blk 41 0), (50, .blk 50 0), (61, .blk 61 0), (72, .blk 72 0), (73, .blk 73 0), (76, .blk 76 0), (77, .blk 77 0), (78, .blk 78 1)], rfl, au0, au9, au10⟩
    · have e : i = a.n := by omega
      subst e
      simp (maxSteps := 1000000) (disch := first | omega | exact PairsOK.mk rfl | (simp only [lenW] <;> omega)) only [List.cons_append, List.nil_append, hlt, Int.reduceGT, ne_eq, List.length_replicate, wD, Nat.reduceAdd, Nat.reduceEqDiff, Nat.reduceBEq, ↓reduceIte, reduceCtorEq, SX.exit.injEq, if_true, if_false, Int.reduceAdd, Int.reduceSub, Int.reduceMul, Int.reduceLT, Int.reduceLE, Int.reduceEq, Int.reduceNe, Int.reduceNeg, Int.reduceToNat, Nat.reduceMul, Nat.reduceLT, Nat.reduceSub, Nat.reduceLeDiff]
      refine ⟨(), ?_⟩
      exact ⟨[(41, .blk 41 0), (50, .blk 50 0), (61, .blk 61 0), (76, .blk 76 0), (77, .blk 77 0), (78, .blk 78 0)], rfl, RO.zero, au9, RT.cons (Rn.fz (b := 72) (g := 0) (by first | (simp (disch := omega) only [get_same, get_ne, hp_cons]; done) | (simp (disch := omega) only [get_same, get_ne, hp_cons]; rfl)) rfl rfl (by rw [bls_len, hl, Nat.mul_one]) (RnL.same (noRefs_bls _))) au10⟩
  rintro _ _
  have hdl3 := @dists_len a.n l d
  generalize restr a (lf l) = S at *
  generalize (sAll a (lf l)).1 = O at *
  simp (maxSteps := 1000000) (disch := first | omega | exact PairsOK.mk rfl | (simp only [lenW] <;> omega)) only [Int.reduceGT, ne_eq, List.length_replicate, wD, Nat.reduceAdd, Nat.reduceEqDiff, Nat.reduceBEq, ↓reduceIte, reduceCtorEq, SX.exit.injEq, if_true, if_false, Int.reduceAdd, Int.reduceSub, Int.reduceMul, Int.reduceLT, Int.reduceLE, Int.reduceEq, Int.reduceNe, Int.reduceNeg, Int.reduceToNat, Nat.reduceMul, Nat.reduceLT, Nat.reduceSub, Nat.reduceLeDiff]
  refine cp hsup ?_
  simp (maxSteps := 1000000) (disch := first | omega | exact PairsOK.mk rfl | (simp only [lenW] <;> omega)) only [Int.reduceGT, ne_eq, List.length_replicate, wD, Nat.reduceAdd, Nat.reduceEqDiff, Nat.reduceBEq, ↓reduceIte, reduceCtorEq, SX.exit.injEq, if_true, if_false, Int.reduceAdd, Int.reduceSub, Int.reduceMul, Int.reduceLT, Int.reduceLE, Int.reduceEq, Int.reduceNe, Int.reduceNeg, Int.reduceToNat, Nat.reduceMul, Nat.reduceLT, Nat.reduceSub, Nat.reduceLeDiff]
  refine ⟨.inr trivial, _, rfl, ?_⟩
  refine Rn.agg (RnL.cons (Rn.fz0 (g := 0) rfl (by simp [ints]) (RnL.same (noRefs_ints _))) (RnL.cons ?_ (RnL.cons (Rn.fz0 (g := 0) rfl (rm_len _) (RnL.same (noRefs_rm _))) (RnL.same (by simp only [noRef, noRefs, noRefs_ints, noRefs_ed]; rfl)))))
  have : (dists a.n l d).length = (kept a.n l).length := hdl3
  show Rn 0 π0 _ (.fsl (ints (dists a.n l d)) (dists a.n l d).length 1) _
  rw [this]
  exact Rn.fz0 (g := 0) rfl (by rw [ints_len, this, Nat.mul_one]) (RnL.same (noRefs_ints _))
end Go.AM.SE
namespace Go.AM.SE
open Go.Proofs Go.AM.SD
set_option maxRecDepth 100000
set_option linter.unusedSimpArgs false
set_option linter.unusedVariables false
theorem dRes_eq {a : Aut} {f u : List Nat} (all : Bool) (h : WfA a) (hq : QOk a f u) : dRes a f u (!all) = pRes a f u all := by
  have hA0 := Agr0 (n := a.n) hq.fn (by rw [List.nodup_iff_pairwise_ne]; exact hq.fS.imp fun h => by omega)
  obtain ⟨h1, h2, h3, h4⟩ := rounds_eq (unc := u) (all := all) h.inN h.nd h.srt (a.n + 1) 2 (left0 a.n f) (f.map rm0) ((List.range a.n).map rm0) (if f.length = 0 then 0 else 1) left0_len hA0
  have h5 := asm_eq h4 (srtR_pair _) (srtR_perm _)
  unfold dRes pRes dFin fin
  dsimp only
  rw [h5, pDist_eq h.inN h.nd (k := a.n + 1) (by omega), h1, h2]
theorem flat_le {α : Type} {f : Nat → List α} {m : Nat} (h : ∀ x, (f x).length ≤ m) : ∀ n, ((List.range n).flatMap f).length ≤ n * m
  | 0 => by simp
  | n + 1 => by
    rw [List.range_succ, List.flatMap_append, List.length_append, Nat.succ_mul]
    have h1 := flat_le h n
    have h2 := h n
    rw [List.flatMap_cons, List.flatMap_nil, List.append_nil]; omega
theorem dRes_ok {a : Aut} {f u : List Nat} {closed : Bool} (h : WfA a) (hel : a.es.length ≤ 1000000) : ROk (dRes a f u closed) := by
  have hn5 := h.n5
  have hal : a.al.length ≤ 5 := nodup_len 5 a.al (by rw [List.nodup_iff_pairwise_ne]; exact h.al.imp fun h => by omega) h.al5
  unfold dRes
  generalize dFin a f u closed = F
  have hs := (sAll_ok (left := lf F.1) h).1
  have hsl := hs.fi.len
  have h1 := @kept_len a.n F.1
  have h2 := @dists_len a.n F.1 (rDist a.es (lf F.1) (a.n + 1) 1 (o0 a.n a.ms (lf F.1)))
  have h3 := @asm_len a.n F.1 F.2.1
  have h4 : (sAll a (lf F.1)).2.length ≤ 5000000 := by
    rw [hs.ed]
    refine Nat.le_trans (flat_le (m := 1000000) (fun x => ?_) _) (by omega)
    rw [List.length_map]; exact Nat.le_trans (sOut_len _ _ _) hel
  refine ⟨by dsimp only; omega, by dsimp only; omega, by dsimp only; omega, by dsimp only; omega, ⟨?_, ?_, ?_⟩⟩
  · show a.al.length ≤ _; omega
  · show ((List.range (sAll a (lf F.1)).1.length).filter _).length ≤ _
    refine Nat.le_trans (List.length_filter_le _ _) ?_
    rw [List.length_range]; omega
  · show (sAll a (lf F.1)).2.length ≤ _; omega
theorem aEq_b (x : Bool) : aEq (.flat false [.b]) false (.bool x) (.bool x) = some (.bool true) := by cases x <;> rfl
set_option maxHeartbeats 64000000 in
theorem law7 (t : Tsk) (ho : TOk t) :
    W2 Try.prog ⟨s7.n, 0⟩ s7.body (fun e B => (e = .normal ∨ e = .ret) ∧ resV B.T B.h s7.res = some [.bool true]) ⟨argT 0 [tskV t], .e⟩ := by
  refine (wpC.toW (n := 40) (Q := fun e T h _ => (e = .normal ∨ e = .ret) ∧ resV T h s7.res = some [.bool true]) (show wS Try.prog ⟨s7.n, 0⟩ s7.body [] 40 _ _ _ from ?_)).mono fun e B ⟨_, h⟩ => h
  have hlu : (u8s t.T).length = 25 := by simp [u8s, ho.T]
  have h30 : (AV.int .u8 (t.set : Int) :: .int .u8 (t.st : Int) :: .int .u8 (t.mr : Int) :: (u8s t.T ++ [.int .u32 (t.fb : Int), .int .u8 (t.un : Int)])).length = 30 := by simp [hlu]
  have ht30 : (AV.int .u8 (t.set : Int) :: .int .u8 (t.st : Int) :: .int .u8 (t.mr : Int) :: (u8s t.T ++ [.int .u32 (t.fb : Int), .int .u8 (t.un : Int)])).take 30 = AV.int .u8 (t.set : Int) :: .int .u8 (t.st : Int) :: .int .u8 (t.mr : Int) :: (u8s t.T ++ [.int .u32 (t.fb : Int), .int .u8 (t.un : Int)]) := List.take_of_length_le (by omega)
  have hop := open10 t ho
  have hw := tA_wf t
  have hel := tA_el t
  have hq := tQ t
  simp (maxSteps := 1000000) (disch := first | omega | exact PairsOK.mk rfl | (simp only [lenW] <;> omega)) only [s7, Int.reduceGT, ne_eq, List.length_replicate, wD, Nat.reduceAdd, Nat.reduceEqDiff, Nat.reduceBEq, ↓reduceIte, reduceCtorEq, SX.exit.injEq, if_true, if_false, Int.reduceAdd, Int.reduceSub, Int.reduceMul, Int.reduceLT, Int.reduceLE, Int.reduceEq, Int.reduceNe, Int.reduceNeg, Int.reduceToNat, Nat.reduceMul, Nat.reduceLT, Nat.reduceSub, Nat.reduceLeDiff]
  refine cp known9 ?_
  simp (maxSteps := 1000000) (disch := first | omega | exact PairsOK.mk rfl | (simp only [lenW] <;> omega)) only [h30, ht30, Int.reduceGT, ne_eq, List.length_replicate, wD, Nat.reduceAdd, Nat.reduceEqDiff, Nat.reduceBEq, ↓reduceIte, reduceCtorEq, SX.exit.injEq, if_true, if_false, Int.reduceAdd, Int.reduceSub, Int.reduceMul, Int.reduceLT, Int.reduceLE, Int.reduceEq, Int.reduceNe, Int.reduceNeg, Int.reduceToNat, Nat.reduceMul, Nat.reduceLT, Nat.reduceSub, Nat.reduceLeDiff]
  refine cp hop ?_
  generalize tA t = A at *
  generalize tF t = F at *
  generalize tU t = U at *
  have k1 := Synth23 A F U hw hq hel
  have k2 := Kept11 A F U hw hq hel
  have k3 := Closed24 A F U hw hq hel
  have k4 := result26 A F U false hw hq hel
  have k5 := result26 A F U true hw hq hel
  have o1 := dRes_ok (f := F) (u := U) (closed := false) hw hel
  have o2 := dRes_ok (f := F) (u := U) (closed := true) hw hel
  have e1 : dRes A F U false = pRes A F U true := dRes_eq true hw hq
  have e2 : dRes A F U true = pRes A F U false := dRes_eq false hw hq
  rw [e1] at k4 o1
  rw [e2] at k5 o2
  clear e1 e2
  generalize pRes A F U true = R1 at *
  generalize pRes A F U false = R2 at *
  have c1 := same27 R1 R1 o1 o1
  have c2 := same27 R2 R2 o2 o2
  have c3 := eq28 R1 R1 o1 o1
  have c4 := eq28 R1 R2 o1 o2
  have c5 := same27 R1 R2 o1 o2
  have c6 := eq14N R1.kept R1.kept o1.kept
  rw [resB_refl] at c1 c2 c3
  rw [decide_eq_true rfl] at c6
  generalize resB R1 R2 = q at *
  simp (maxSteps := 1000000) (disch := first | omega | exact PairsOK.mk rfl | (simp only [lenW] <;> omega)) only [Int.reduceGT, ne_eq, List.length_replicate, wD, Nat.reduceAdd, Nat.reduceEqDiff, Nat.reduceBEq, ↓reduceIte, reduceCtorEq, SX.exit.injEq, if_true, if_false, Int.reduceAdd, Int.reduceSub, Int.reduceMul, Int.reduceLT, Int.reduceLE, Int.reduceEq, Int.reduceNe, Int.reduceNeg, Int.reduceToNat, Nat.reduceMul, Nat.reduceLT, Nat.reduceSub, Nat.reduceLeDiff]
  refine cp k1 ?_
  simp (maxSteps := 1000000) (disch := first | omega | exact PairsOK.mk rfl | (simp only [lenW] <;> omega)) only [Int.reduceGT, ne_eq, List.length_replicate, wD, Nat.reduceAdd, Nat.reduceEqDiff, Nat.reduceBEq, ↓reduceIte, reduceCtorEq, SX.exit.injEq, if_true, if_false, Int.reduceAdd, Int.reduceSub, Int.reduceMul, Int.reduceLT, Int.reduceLE, Int.reduceEq, Int.reduceNe, Int.reduceNeg, Int.reduceToNat, Nat.reduceMul, Nat.reduceLT, Nat.reduceSub, Nat.reduceLeDiff]
  refine cp k2 ?_
  simp (maxSteps := 1000000) (disch := first | omega | exact PairsOK.mk rfl | (simp only [lenW] <;> omega)) only [Int.reduceGT, ne_eq, List.length_replicate, wD, Nat.reduceAdd, Nat.reduceEqDiff, Nat.reduceBEq, ↓reduceIte, reduceCtorEq, SX.exit.injEq, if_true, if_false, Int.reduceAdd, Int.reduceSub, Int.reduceMul, Int.reduceLT, Int.reduceLE, Int.reduceEq, Int.reduceNe, Int.reduceNeg, Int.reduceToNat, Nat.reduceMul, Nat.reduceLT, Nat.reduceSub, Nat.reduceLeDiff]
  refine cp k3 ?_
  simp (maxSteps := 1000000) (disch := first | omega | exact PairsOK.mk rfl | (simp only [lenW] <;> omega)) only [Int.reduceGT, ne_eq, List.length_replicate, wD, Nat.reduceAdd, Nat.reduceEqDiff, Nat.reduceBEq, ↓reduceIte, reduceCtorEq, SX.exit.injEq, if_true, if_false, Int.reduceAdd, Int.reduceSub, Int.reduceMul, Int.reduceLT, Int.reduceLE, Int.reduceEq, Int.reduceNe, Int.reduceNeg, Int.reduceToNat, Nat.reduceMul, Nat.reduceLT, Nat.reduceSub, Nat.reduceLeDiff]
  refine cp k4 ?_
  simp (maxSteps := 1000000) (disch := first | omega | exact PairsOK.mk rfl | (simp only [lenW] <;> omega)) only [Int.reduceGT, ne_eq, List.length_replicate, wD, Nat.reduceAdd, Nat.reduceEqDiff, Nat.reduceBEq, ↓reduceIte, reduceCtorEq, SX.exit.injEq, if_true, if_false, Int.reduceAdd, Int.reduceSub, Int.reduceMul, Int.reduceLT, Int.reduceLE, Int.reduceEq, Int.reduceNe, Int.reduceNeg, Int.reduceToNat, Nat.reduceMul, Nat.reduceLT, Nat.reduceSub, Nat.reduceLeDiff]
  refine cp c1 ?_
  simp (maxSteps := 1000000) (disch := first | omega | exact PairsOK.mk rfl | (simp only [lenW] <;> omega)) only [Int.reduceGT, ne_eq, List.length_replicate, wD, Nat.reduceAdd, Nat.reduceEqDiff, Nat.reduceBEq, ↓reduceIte, reduceCtorEq, SX.exit.injEq, if_true, if_false, Int.reduceAdd, Int.reduceSub, Int.reduceMul, Int.reduceLT, Int.reduceLE, Int.reduceEq, Int.reduceNe, Int.reduceNeg, Int.reduceToNat, Nat.reduceMul, Nat.reduceLT, Nat.reduceSub, Nat.reduceLeDiff]
  refine cp c6 ?_
  simp (maxSteps := 1000000) (disch := first | omega | exact PairsOK.mk rfl | (simp only [lenW] <;> omega)) only [Int.reduceGT, ne_eq, List.length_replicate, wD, Nat.reduceAdd, Nat.reduceEqDiff, Nat.reduceBEq, ↓reduceIte, reduceCtorEq, SX.exit.injEq, if_true, if_false, Int.reduceAdd, Int.reduceSub, Int.reduceMul, Int.reduceLT, Int.reduceLE, Int.reduceEq, Int.reduceNe, Int.reduceNeg, Int.reduceToNat, Nat.reduceMul, Nat.reduceLT, Nat.reduceSub, Nat.reduceLeDiff]
  refine cp k5 ?_
  simp (maxSteps := 1000000) (disch := first | omega | exact PairsOK.mk rfl | (simp only [lenW] <;> omega)) only [Int.reduceGT, ne_eq, List.length_replicate, wD, Nat.reduceAdd, Nat.reduceEqDiff, Nat.reduceBEq, ↓reduceIte, reduceCtorEq, SX.exit.injEq, if_true, if_false, Int.reduceAdd, Int.reduceSub, Int.reduceMul, Int.reduceLT, Int.reduceLE, Int.reduceEq, Int.reduceNe, Int.reduceNeg, Int.reduceToNat, Nat.reduceMul, Nat.reduceLT, Nat.reduceSub, Nat.reduceLeDiff]
  refine cp c2 ?_
  simp (maxSteps := 1000000) (disch := first | omega | exact PairsOK.mk rfl | (simp only [lenW] <;> omega)) only [Int.reduceGT, ne_eq, List.length_replicate, wD, Nat.reduceAdd, Nat.reduceEqDiff, Nat.reduceBEq, ↓reduceIte, reduceCtorEq, SX.exit.injEq, if_true, if_false, Int.reduceAdd, Int.reduceSub, Int.reduceMul, Int.reduceLT, Int.reduceLE, Int.reduceEq, Int.reduceNe, Int.reduceNeg, Int.reduceToNat, Nat.reduceMul, Nat.reduceLT, Nat.reduceSub, Nat.reduceLeDiff]
  refine cp c3 ?_
  simp (maxSteps := 1000000) (disch := first | omega | exact PairsOK.mk rfl | (simp only [lenW] <;> omega)) only [Int.reduceGT, ne_eq, List.length_replicate, wD, Nat.reduceAdd, Nat.reduceEqDiff, Nat.reduceBEq, ↓reduceIte, reduceCtorEq, SX.exit.injEq, if_true, if_false, Int.reduceAdd, Int.reduceSub, Int.reduceMul, Int.reduceLT, Int.reduceLE, Int.reduceEq, Int.reduceNe, Int.reduceNeg, Int.reduceToNat, Nat.reduceMul, Nat.reduceLT, Nat.reduceSub, Nat.reduceLeDiff]
  refine cp c4 ?_
  simp (maxSteps := 1000000) (disch := first | omega | exact PairsOK.mk rfl | (simp only [lenW] <;> omega)) only [Int.reduceGT, ne_eq, List.length_replicate, wD, Nat.reduceAdd, Nat.reduceEqDiff, Nat.reduceBEq, ↓reduceIte, reduceCtorEq, SX.exit.injEq, if_true, if_false, Int.reduceAdd, Int.reduceSub, Int.reduceMul, Int.reduceLT, Int.reduceLE, Int.reduceEq, Int.reduceNe, Int.reduceNeg, Int.reduceToNat, Nat.reduceMul, Nat.reduceLT, Nat.reduceSub, Nat.reduceLeDiff]
  refine cp c5 ?_
  simp (maxSteps := 1000000) (disch := first | omega | exact PairsOK.mk rfl | (simp only [lenW] <;> omega)) only [aEq_b, Int.reduceGT, ne_eq, List.length_replicate, wD, Nat.reduceAdd, Nat.reduceEqDiff, Nat.reduceBEq, ↓reduceIte, reduceCtorEq, SX.exit.injEq, if_true, if_false, Int.reduceAdd, Int.reduceSub, Int.reduceMul, Int.reduceLT, Int.reduceLE, Int.reduceEq, Int.reduceNe, Int.reduceNeg, Int.reduceToNat, Nat.reduceMul, Nat.reduceLT, Nat.reduceSub, Nat.reduceLeDiff]
  exact ⟨.inr trivial, rfl⟩
theorem law7_in (d0 : tyTask.D) (h0 : tyTask.wf d0) :
    W2 Try.prog ⟨s7.n, 0⟩ s7.body (fun e B => (e = .normal ∨ e = .ret) ∧ resV B.T B.h s7.res = some [.bool true]) ⟨argT 0 [tyTask.val d0], .e⟩ := by
  obtain ⟨t, ht, e0⟩ := tsk_in h0
  rw [e0]
  exact law7 t ht
end Go.AM.SE
