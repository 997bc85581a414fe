/- A part of the proof of CatalogueFactsCardSaid: lemmas on the way. Conditions: none of ours. -/
import Derived.Test.YtjojndgfbbmfnaaDoorAmXt
import Derived.Test.YtjojndgfbbmfnaaDoorAmQ
namespace Go.AM.SlimF
open Go.Proofs
set_option maxRecDepth 100000
set_option linter.unusedSimpArgs false

/-- What Pick computes. -/
def least (r : Nat) : Int := match r with | 0 => 1 | _ => 2
def room (r : Nat) : Int := match r with | 0 => 8 | 1 => 5 | 2 => 3 | 3 => 7 | _ => 5
def most (r : Nat) : Int := match r with | 0 => 8 | 1 => 6 | 2 => 4 | 3 => 8 | _ => 6

def isSizes (r : Nat) : AV → Bool
  | .tup [.int .i64 x, .int .i64 y] => decide (x = least r) && decide (y = most r)
  | _ => false
theorem isSizes_of (r : Nat) : ∀ u, isSizes r u = true → u = .tup [.int .i64 (least r), .int .i64 (most r)] := by
  intro u h
  unfold isSizes at h
  split at h
  · simp only [Bool.and_eq_true, decide_eq_true_eq] at h
    rw [h.1, h.2]
  · cases h

theorem sizes (r : Nat) (hr : r < 5) : PSpec Tryd.prog 16 [.int .i64 (1 + Int.ofNat r)] (.tup [.int .i64 (least r), .int .i64 (most r)]) := by
  have h : r = 0 ∨ r = 1 ∨ r = 2 ∨ r = 3 ∨ r = 4 := by omega
  rcases h with rfl | rfl | rfl | rfl | rfl
  all_goals exact pspec_of_run (fns := ft.get) (FT.ok ft_ok) (d := 1000) (isSizes _) (isSizes_of _) (by kernel_rfl)

theorem pick (a b : Nat) (h : a < 256) (hb : b < 256) : PSpec Tryd.prog 8 [.int .u8 (Int.ofNat a), .int .u8 (Int.ofNat b)] (.tup [.int .i64 (1 + Int.ofNat (a % 5)), .int .i64 (least (a % 5) + Int.ofNat b % room (a % 5))]) := by
  have h5 : a % 5 < 5 := Nat.mod_lt _ (by decide)
  generalize hr : a % 5 = r at *
  have e5 : (Int.ofNat a).tmod 5 = Int.ofNat r := by
    show (Int.ofNat a).tmod (Int.ofNat 5) = _
    simp [Int.tmod, ← hr]
  have hm : most r - least r + 1 = room r ∧ 1 ≤ room r ∧ room r ≤ 8 ∧ most r - least r ≤ 7 ∧ 0 ≤ most r - least r ∧ 1 ≤ least r ∧ least r ≤ 2 := by
    have h : r = 0 ∨ r = 1 ∨ r = 2 ∨ r = 3 ∨ r = 4 := by omega
    rcases h with rfl | rfl | rfl | rfl | rfl <;> decide
  have hmod : 0 ≤ Int.ofNat b % room r ∧ Int.ofNat b % room r < room r := ⟨Int.emod_nonneg _ (by omega), Int.emod_lt_of_pos _ (by omega)⟩
  have hz := sizes r h5
  have hb' : (Int.ofNat b : Int) < 256 := by simp; omega
  have hb0 : (0 : Int) ≤ Int.ofNat b := by simp
  have hr' : (Int.ofNat r : Int) < 5 := by simp; omega
  have hr0 : (0 : Int) ≤ Int.ofNat r := by simp
  generalize Int.ofNat b = B at *
  generalize Int.ofNat r = R at *
  refine PSpec.of_wS 6 64 ok8 rfl rfl rfl ?_
  simp (disch := omega) only [s8, e5, wS_skip, wS_ret, wS_exit, wS_region, wS_seq, wS_cond, wS_block, wC_true, wC_false, wC_bool, wX_nil, wX_sq, wX_sq_ret, wX_sq_exit, wX_blk, wX_blk_ret, wX_blk_exit, loopQ_normal, loopQ_exit, loopQ_ret, ev_t, ev_c, ev_f, lk_nil, lk_cons, up_cons, up_nil, rm_nil, rm_no, rm_cons, putD_some, putD_none, argT_nil, argT_cons, evs_nil, evs_cons, evo_none, evo_some, evParts_nil, evParts_cons, wR_nil, wR_guard, wG_bool, wG_skip, wR_mov, wR_mkfn, wR_pick, wR_build, wR_nilchk, wR_bin, wR_eq, wR_un, wR_conv, wR_convS, wR_slice, wR_faddr, wR_field, wR_iaddr, wR_index, wR_extract, wR_maxmin, wR_alloc, wR_box, wR_bslice, wR_load, wR_store, wR_mkmap, wR_mkslice, wR_lookup, wR_mupd, wR_len, wR_append, wR_copy, wR_call, wO_some, wO_pos, wO_neg, wM_ret, wB_some, aLoad_ptr, aLoad_fptr1, aLoad_fptrN, aStore_ptr, aLenC_str, aLenC_sl, aLenC_fsl, aLenC_nilsl, aLenC_esl, ldB_some1, ldB_someN, stB_some, aBin_add, aBin_sub, aBin_mul, aBin_quo, aBin_rem, aBin_eql, aBin_neq, aBin_lss, aBin_leq, aBin_gtr, aBin_geq, aUn_not, aUn_neg, aConv_int, aPick_true, aPick_false, aPick_bool, aExtract_tup, get_zero, get_succ, wr_i64, wr_u8, wr_u16, wr_u32, wr_u64, wr_i32, aIAddr_fsl, aIAddr_sl, aIAddr_ptr, aIAddr_fptr, aFAddr_ptr, aFAddr_fptr, aField_none, aField_some, Nat.reduceAdd, Nat.reduceEqDiff, Nat.reduceBEq, List.elem_cons, List.elem_nil, Bool.false_eq_true, Bool.true_eq_false, reduceIte, reduceCtorEq, SX.exit.injEq, List.getElem?_cons_zero, List.getElem?_cons_succ, decide_eq_true_eq, decide_eq_false_iff_not, decide_true, decide_false, Bool.not_true, Bool.not_false, Bool.not_eq_true', Bool.not_eq_eq_eq_not, List.nil_append, List.append_nil, List.cons_append]
  refine call_pure hz ?_
  simp (disch := omega) only [Int.tmod_eq_emod_of_nonneg, hm.1, wS_skip, wS_ret, wS_exit, wS_region, wS_seq, wS_cond, wS_block, wC_true, wC_false, wC_bool, wX_nil, wX_sq, wX_sq_ret, wX_sq_exit, wX_blk, wX_blk_ret, wX_blk_exit, loopQ_normal, loopQ_exit, loopQ_ret, ev_t, ev_c, ev_f, lk_nil, lk_cons, up_cons, up_nil, rm_nil, rm_no, rm_cons, putD_some, putD_none, argT_nil, argT_cons, evs_nil, evs_cons, evo_none, evo_some, evParts_nil, evParts_cons, wR_nil, wR_guard, wG_bool, wG_skip, wR_mov, wR_mkfn, wR_pick, wR_build, wR_nilchk, wR_bin, wR_eq, wR_un, wR_conv, wR_convS, wR_slice, wR_faddr, wR_field, wR_iaddr, wR_index, wR_extract, wR_maxmin, wR_alloc, wR_box, wR_bslice, wR_load, wR_store, wR_mkmap, wR_mkslice, wR_lookup, wR_mupd, wR_len, wR_append, wR_copy, wR_call, wO_some, wO_pos, wO_neg, wM_ret, wB_some, aLoad_ptr, aLoad_fptr1, aLoad_fptrN, aStore_ptr, aLenC_str, aLenC_sl, aLenC_fsl, aLenC_nilsl, aLenC_esl, ldB_some1, ldB_someN, stB_some, aBin_add, aBin_sub, aBin_mul, aBin_quo, aBin_rem, aBin_eql, aBin_neq, aBin_lss, aBin_leq, aBin_gtr, aBin_geq, aUn_not, aUn_neg, aConv_int, aPick_true, aPick_false, aPick_bool, aExtract_tup, get_zero, get_succ, wr_i64, wr_u8, wr_u16, wr_u32, wr_u64, wr_i32, aIAddr_fsl, aIAddr_sl, aIAddr_ptr, aIAddr_fptr, aFAddr_ptr, aFAddr_fptr, aField_none, aField_some, Nat.reduceAdd, Nat.reduceEqDiff, Nat.reduceBEq, List.elem_cons, List.elem_nil, Bool.false_eq_true, Bool.true_eq_false, reduceIte, reduceCtorEq, SX.exit.injEq, List.getElem?_cons_zero, List.getElem?_cons_succ, decide_eq_true_eq, decide_eq_false_iff_not, decide_true, decide_false, Bool.not_true, Bool.not_false, Bool.not_eq_true', Bool.not_eq_eq_eq_not, List.nil_append, List.append_nil, List.cons_append]
  exact ⟨by simp, _, rfl, _, rfl⟩
end Go.AM.SlimF
namespace Go.AM.SlimF
open Go.Proofs
set_option maxRecDepth 100000
set_option linter.unusedSimpArgs false
def kTrue (t : Nat) : Kc := fun e T _ _ => match e with
  | .ret => isTrue (lk T t)
  | _ => false
theorem kTrue_of {t : Nat} {e : SX} {T : Tmps} {h : Heap} {n : Nat} (hk : kTrue t e T h n = true) : e = .ret ∧ lk T t = .bool true := by
  unfold kTrue at hk
  cases e <;> simp only [Bool.false_eq_true] at hk
  exact ⟨rfl, isTrue_of _ hk⟩
def rest : SCode → SCode
  | .seq _ b => b
  | c => c
def pairs : List (Int × Int) := [(1, 1), (1, 2), (1, 3), (1, 4), (1, 5), (1, 6), (1, 7), (1, 8), (2, 2), (2, 3), (2, 4), (2, 5), (2, 6), (3, 2), (3, 3), (3, 4), (4, 2), (4, 3), (4, 4), (4, 5), (4, 6), (4, 7), (4, 8), (5, 2), (5, 3), (5, 4), (5, 5), (5, 6)]
theorem facts_tail : pairs.all (fun p => ex ft.get 100000 (rest (rest (rest s3.body))) [(5, .int .i64 p.1), (6, .int .i64 p.2)] .e 64 (kTrue 4)) = true := by kernel_rfl

theorem mem_pairs (r : Nat) (hr : r < 5) (B : Int) (hB : 0 ≤ B) : (1 + Int.ofNat r, least r + B % room r) ∈ pairs := by
  have h : r = 0 ∨ r = 1 ∨ r = 2 ∨ r = 3 ∨ r = 4 := by omega
  rcases h with rfl | rfl | rfl | rfl | rfl
  all_goals
    simp only [least, room, pairs, List.mem_cons, Prod.mk.injEq, List.not_mem_nil, or_false]
    simp
    omega

end Go.AM.SlimF
