/- Contracts for nets: rows (of the statements). Conditions: none of ours. -/
import Derived.Test.YteaeobmbfhaklaaAmNz
namespace Go.AM.SN
open Go.Proofs
set_option maxRecDepth 100000
set_option linter.unusedSimpArgs false
set_option linter.unusedVariables false

def colR (x : Nt) (t : Nat) : List Int := (List.range x.ini.length).map fun p => (incR x p).getD t 0
def colM (x : Nt) : List (List Int) := (List.range x.tr.length).map (colR x)
theorem colR_len (x : Nt) (t : Nat) : (colR x t).length = x.ini.length := by simp [colR]
theorem incM_get {x : Nt} {p : Nat} (h : p < x.ini.length) : (incM x)[p]? = some (incR x p) := by simp [incM, h]
def rowsR (x : Nt) (kind : Int) : List (List Int) := if kind = 1 then incM x else colM x

set_option maxHeartbeats 8000000 in
theorem rows (x : Nt) (kind : Int) (ho : NetOk x) : PSpec Try.prog 17 [netV x, .int .i64 kind] (lsts (rowsR x kind)) := by
  refine PSpec.of_frz 64 ok17 rfl (by rw [noRefs, noRef_net]; rfl) (by simp only [noRef]; exact noRefs_lsts _) ?_
  have hp := ho.places
  have ht := ho.trans
  have hfe : ∀ b, Tr.get (α := Blk) .e b = none := fun b => by simp [Tr.get]
  simp (config := { maxSteps := 1000000 }) (disch := omega) only [s17, hfe, wordsN, Int.reduceGT, words, Nat.reduceAdd, Nat.reduceEqDiff, Nat.reduceBEq, ↓reduceIte, reduceCtorEq, SX.exit.injEq, if_true, if_false, Int.reduceAdd, Int.reduceSub, Int.reduceMul, Int.reduceLT, Int.reduceLE, Int.reduceEq, Int.reduceNe, Int.reduceNeg, Int.reduceToNat, Nat.reduceMul, Nat.reduceLT, Nat.reduceSub, Nat.reduceLeDiff]
  refine cp (incidence x ho) ?_
  by_cases hk : kind = 1
  · simp (config := { maxSteps := 1000000 }) (disch := omega) only [hk, wordsN, Int.reduceGT, words, Nat.reduceAdd, Nat.reduceEqDiff, Nat.reduceBEq, ↓reduceIte, reduceCtorEq, SX.exit.injEq, if_true, if_false, Int.reduceAdd, Int.reduceSub, Int.reduceMul, Int.reduceLT, Int.reduceLE, Int.reduceEq, Int.reduceNe, Int.reduceNeg, Int.reduceToNat, Nat.reduceMul, Nat.reduceLT, Nat.reduceSub, Nat.reduceLeDiff]
    refine ⟨by simp, _, rfl, ?_⟩
    simp [resOf, lk_cons, rowsR]
    exact FrzTo.same _
  have hrk : rowsR x kind = colM x := by simp [rowsR, hk]
  rw [hrk]
  have hil : (incM x).length = x.ini.length := by simp [incM]
  simp (config := { maxSteps := 1000000 }) (disch := omega) only [hk, wordsN, Int.reduceGT, words, Nat.reduceAdd, Nat.reduceEqDiff, Nat.reduceBEq, ↓reduceIte, reduceCtorEq, SX.exit.injEq, if_true, if_false, Int.reduceAdd, Int.reduceSub, Int.reduceMul, Int.reduceLT, Int.reduceLE, Int.reduceEq, Int.reduceNe, Int.reduceNeg, Int.reduceToNat, Nat.reduceMul, Nat.reduceLT, Nat.reduceSub, Nat.reduceLeDiff]
  refine wS_loop (fun a : Nat × AV × List AV => [(2, .ptr 64 0 0), (5, lsts (incM x)), (6, a.2.1), (7, .int .i64 a.1)]) (fun a h n => a.1 ≤ x.tr.length ∧ h.get 64 = some (.cells 0 [sli x.ini, tns x.tr]) ∧ Fresh n h ∧ 64 < n ∧ n ≤ 1000 + a.1 * 10000 ∧ Mat h n 64 a.2.1 a.2.2 ((List.range a.1).map (colR x)))
    (fun a => x.tr.length - a.1) (0, .nilsl, []) (by repeat (first | exact Sub.nil | refine Sub.cons (by first | rfl | (rw [Int.natCast_add]; rfl)) ?_)) ⟨Nat.zero_le _, get_same (by omega), (Fresh.e (n := 65)).le (by omega) |>.set (by omega) (by omega), by omega, by omega, .nil⟩ ?_
  rintro ⟨t, v, rows⟩ h n ⟨hi, h64, hf, hn0, hn, hm⟩
  dsimp only at hi hn hm ⊢
  have hf0 : ∀ b, n ≤ b → h.get b = none := hf
  by_cases hlt : t < x.tr.length
  · have hlt' : (t : Int) < (x.tr.length : Int) := by omega
    simp (config := { maxSteps := 1000000 }) (disch := omega) only [hlt', h64, wordsN, Int.reduceGT, words, Nat.reduceAdd, Nat.reduceEqDiff, Nat.reduceBEq, ↓reduceIte, reduceCtorEq, SX.exit.injEq, if_true, if_false, Int.reduceAdd, Int.reduceSub, Int.reduceMul, Int.reduceLT, Int.reduceLE, Int.reduceEq, Int.reduceNe, Int.reduceNeg, Int.reduceToNat, Nat.reduceMul, Nat.reduceLT, Nat.reduceSub, Nat.reduceLeDiff]
    refine wS_loop (fun a : Nat × AV => [(2, .ptr 64 0 0), (5, lsts (incM x)), (6, v), (7, .int .i64 t), (8, a.2), (9, .int .i64 a.1)]) (fun a h2 n2 => a.1 ≤ x.ini.length ∧ (∀ b, b < n → h2.get b = h.get b) ∧ Fresh n2 h2 ∧ n ≤ n2 ∧ n2 ≤ n + 100 + a.1 * 100 ∧ Row h2 (fun b => n ≤ b ∧ b < n2) a.2 (ints ((colR x t).take a.1)) a.1 1)
      (fun a => x.ini.length - a.1) (0, .nilsl) (by repeat (first | exact Sub.nil | refine Sub.cons (by first | rfl | (rw [Int.natCast_add]; rfl)) ?_)) ⟨Nat.zero_le _, fun _ _ => rfl, hf.le (by omega), by omega, by omega, .nil⟩ ?_
    rintro ⟨p, u⟩ h2 n2 ⟨hti, hag, hf2, hnn, hnb, hu⟩
    dsimp only at hti hnb hu ⊢
    have h642 : h2.get 64 = some (.cells 0 [sli x.ini, tns x.tr]) := by rw [hag 64 hn0, h64]
    have hf20 : ∀ b, n2 ≤ b → h2.get b = none := hf2
    by_cases hlt2 : p < x.ini.length
    · have hlt2' : (p : Int) < ((incM x).length : Int) := by rw [hil]; omega
      have hrow := incM_get hlt2
      obtain ⟨y, hy⟩ := get_ex (l := incR x p) (i := t) (by rw [incR_len]; exact hlt)
      have hlt3' : (t : Int) < ((incR x p).length : Int) := by rw [incR_len]; omega
      simp (config := { maxSteps := 1000000 }) (disch := omega) only [hlt2', hlt3', head_lsts hrow, head_ints hy, hf20, wordsN, Int.reduceGT, words, Nat.reduceAdd, Nat.reduceEqDiff, Nat.reduceBEq, ↓reduceIte, reduceCtorEq, SX.exit.injEq, if_true, if_false, Int.reduceAdd, Int.reduceSub, Int.reduceMul, Int.reduceLT, Int.reduceLE, Int.reduceEq, Int.reduceNe, Int.reduceNeg, Int.reduceToNat, Nat.reduceMul, Nat.reduceLT, Nat.reduceSub, Nat.reduceLeDiff]
      have hstep : ints ((colR x t).take (p + 1)) = ints ((colR x t).take p) ++ [.int .i64 y] := by
        rw [List.take_add_one, ints_append]
        congr 1
        have : (colR x t)[p]? = some y := by
          simp only [colR, List.getElem?_map, List.getElem?_range hlt2, Option.map_some, List.getD_eq_getElem?_getD, hy]; rfl
        rw [this]; rfl
      refine app_set hu (hf2.le (by omega)) (by omega) (by omega) rfl rfl (by omega) (by omega) ?_
      intro v' h' hr' hf' hsame
      simp (config := { maxSteps := 1000000 }) (disch := omega) only [words, Nat.reduceAdd, Nat.reduceEqDiff, Nat.reduceBEq, ↓reduceIte, reduceCtorEq, SX.exit.injEq, if_true, if_false, Int.reduceAdd, Int.reduceSub, Int.reduceMul, Int.reduceLT, Int.reduceLE, Int.reduceEq, Int.reduceNe, Int.reduceNeg, Int.reduceToNat, Nat.reduceMul, Nat.reduceLT, Nat.reduceSub, Nat.reduceLeDiff]
      refine ⟨(p + 1, v'), by simp only; omega, by repeat (first | exact Sub.nil | refine Sub.cons (by first | rfl | (rw [Int.natCast_add]; rfl)) ?_), by simp only; omega, ?_, hf'.le (by omega), by omega, by simp only; omega, ?_⟩
      · intro b hb
        rw [hsame b (fun hc => by omega) (by omega), hag b hb]
      · rw [hstep]
        exact hr'.keep fun b hb hne => ⟨rfl, by omega⟩
    · have hlt2' : ¬ (p : Int) < ((incM x).length : Int) := by rw [hil]; omega
      have e : p = x.ini.length := by omega
      have htk : (colR x t).take p = colR x t := List.take_of_length_le (by rw [colR_len]; omega)
      rw [htk] at hu
      have c1 := hu.cells1
      have c2 := hu.boxable
      simp (config := { maxSteps := 1000000 }) (disch := omega) only [hlt2', hf20, c1, c2, wordsN, Int.reduceGT, words, Nat.reduceAdd, Nat.reduceEqDiff, Nat.reduceBEq, ↓reduceIte, reduceCtorEq, SX.exit.injEq, if_true, if_false, Int.reduceAdd, Int.reduceSub, Int.reduceMul, Int.reduceLT, Int.reduceLE, Int.reduceEq, Int.reduceNe, Int.reduceNeg, Int.reduceToNat, Nat.reduceMul, Nat.reduceLT, Nat.reduceSub, Nat.reduceLeDiff]
      have hu2 : ∀ k, n2 ≤ k → Row h2 (fun b => n ≤ b ∧ b < k) u ((colR x t).map (.int .i64)) (colR x t).length 1 := fun k hk => by
        rw [colR_len, ← e]; exact hu.keep fun b hb _ => ⟨rfl, hb.1, by omega⟩
      have hLl : ((List.range t).map (colR x)).length = t := by simp
      refine mat_app (l := colR x t) hm hag (hu2 _ (by omega)) (hf2.le (by omega)) (by omega) (by omega) (by omega) (by omega) (by rw [hLl]; omega) (by rw [hLl]; omega) ?_
      intro v' h' rows' hm' hf' hlo
      simp (config := { maxSteps := 1000000 }) (disch := omega) only [words, Nat.reduceAdd, Nat.reduceEqDiff, Nat.reduceBEq, ↓reduceIte, reduceCtorEq, SX.exit.injEq, if_true, if_false, Int.reduceAdd, Int.reduceSub, Int.reduceMul, Int.reduceLT, Int.reduceLE, Int.reduceEq, Int.reduceNe, Int.reduceNeg, Int.reduceToNat, Nat.reduceMul, Nat.reduceLT, Nat.reduceSub, Nat.reduceLeDiff]
      refine ⟨(t + 1, v', rows'), by simp only; omega, by repeat (first | exact Sub.nil | refine Sub.cons (by first | rfl | (rw [Int.natCast_add]; rfl)) ?_), by simp only; omega, ?_, hf'.le (by omega), by omega, by simp only; omega, ?_⟩
      · rw [hlo 64 (by omega), h64]
      · rw [range_take_succ]
        exact hm'.keep (by omega) fun b _ _ => rfl
  · have hlt' : ¬ (t : Int) < (x.tr.length : Int) := by omega
    have e : t = x.tr.length := by omega
    simp (config := { maxSteps := 1000000 }) (disch := omega) only [hlt', h64, wordsN, Int.reduceGT, words, Nat.reduceAdd, Nat.reduceEqDiff, Nat.reduceBEq, ↓reduceIte, reduceCtorEq, SX.exit.injEq, if_true, if_false, Int.reduceAdd, Int.reduceSub, Int.reduceMul, Int.reduceLT, Int.reduceLE, Int.reduceEq, Int.reduceNe, Int.reduceNeg, Int.reduceToNat, Nat.reduceMul, Nat.reduceLT, Nat.reduceSub, Nat.reduceLeDiff]
    refine ⟨by simp, _, rfl, ?_⟩
    have := hm.frz
    rw [e] at this
    simp [resOf, lk_cons]
    exact this
end Go.AM.SN
