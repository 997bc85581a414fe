/- A part of the proof of InvariantMinimal: lemmas on the way (AmNz, AmNa, AmNb, AmNc, AmNd, AmNe, AmNf, AmNg, AmNh, AmNi). Conditions: none of ours. -/
import Derived.Test.YteaeobmbfhaklaaAmZ6
set_option linter.unusedSectionVars false
namespace Go.AM.SN
open Go.Proofs
set_option maxRecDepth 100000
set_option linter.unusedSimpArgs false
set_option linter.unusedVariables false
theorem weightR_bound {l : List (Int × Int)} {places : Int} (ho : ArcsOk l places) (p : Int) : 0 ≤ weightR l p ∧ weightR l p ≤ 8 := by
  have : ∀ (l : List (Int × Int)), (∀ a ∈ l, 1 ≤ a.2 ∧ a.2 ≤ 8) → 0 ≤ weightR l p ∧ weightR l p ≤ 8 := by
    intro l
    induction l with
    | nil => intro _; simp [weightR]
    | cons a l ih =>
      intro hh
      unfold weightR
      split
      · have := hh a (by simp); omega
      · exact ih fun b hb => hh b (by simp [hb])
  refine this l fun a ha => ?_
  obtain ⟨j, hj, _⟩ := mem_at ha
  have := ho.each j a hj; omega
def incR (x : Nt) (p : Nat) : List Int := x.tr.map fun t => weightR t.out p - weightR t.inn p
def incM (x : Nt) : List (List Int) := (List.range x.ini.length).map (incR x)
theorem incR_len (x : Nt) (p : Nat) : (incR x p).length = x.tr.length := by simp [incR]
theorem range_take_succ {α : Type} (f : Nat → α) (i : Nat) : (List.range (i + 1)).map f = (List.range i).map f ++ [f i] := by
  rw [List.range_succ, List.map_append]; rfl
set_option maxHeartbeats 8000000 in
theorem incidence (x : Nt) (ho : NetOk x) : PSpec Try.prog 22 [netV x] (lsts (incM x)) := by
  refine PSpec.of_frz 64 ok22 rfl (by rw [noRefs, noRef_net]; rfl) (by simp only [noRef]; exact noRefs_lsts _) ?_
  have hp := ho.places
  have ht := ho.trans
  have hfe : ∀ b, Tr.get (α := Blk) .e b = none := fun b => by simp [Tr.get]
  simp (maxSteps := 1000000) (disch := omega) only [s22, hfe, wordsN, Int.reduceGT, words, Nat.reduceAdd, Nat.reduceEqDiff, Nat.reduceBEq, ↓reduceIte, reduceCtorEq, SX.exit.injEq, if_true, if_false, Int.reduceAdd, Int.reduceSub, Int.reduceMul, Int.reduceLT, Int.reduceLE, Int.reduceEq, Int.reduceNe, Int.reduceNeg, Int.reduceToNat, Nat.reduceMul, Nat.reduceLT, Nat.reduceSub, Nat.reduceLeDiff]
  refine wS_loop (fun a : Nat × AV × List AV => [(1, .ptr 64 0 0), (3, a.2.1), (4, .int .i64 a.1)]) (fun a h n => a.1 ≤ x.ini.length ∧ h.get 64 = some (.cells 0 [sli x.ini, tns x.tr]) ∧ Fresh n h ∧ 64 < n ∧ n ≤ 1000 + a.1 * 10000 ∧ Mat h n 64 a.2.1 a.2.2 ((List.range a.1).map (incR x)))
    (fun a => x.ini.length - a.1) (0, .nilsl, []) (by repeat (first | exact Sub.nil | refine Sub.cons (by first | rfl | (rw [Int.natCast_add]; rfl)) ?_)) ⟨Nat.zero_le _, get_same (by omega), (Fresh.e (n := 65)).le (by omega) |>.set (by omega) (by omega), by omega, by omega, .nil⟩ ?_
  rintro ⟨p, v, rows⟩ h n ⟨hi, h64, hf, hn0, hn, hm⟩
  dsimp only at hi hn hm ⊢
  have hf0 : ∀ b, n ≤ b → h.get b = none := hf
  by_cases hlt : p < x.ini.length
  · have hlt' : (p : Int) < (x.ini.length : Int) := by omega
    simp (maxSteps := 1000000) (disch := omega) only [hlt', h64, wordsN, Int.reduceGT, words, Nat.reduceAdd, Nat.reduceEqDiff, Nat.reduceBEq, ↓reduceIte, reduceCtorEq, SX.exit.injEq, if_true, if_false, Int.reduceAdd, Int.reduceSub, Int.reduceMul, Int.reduceLT, Int.reduceLE, Int.reduceEq, Int.reduceNe, Int.reduceNeg, Int.reduceToNat, Nat.reduceMul, Nat.reduceLT, Nat.reduceSub, Nat.reduceLeDiff]
    refine wS_loop (fun a : Nat × AV => [(1, .ptr 64 0 0), (3, v), (4, .int .i64 p), (5, a.2), (6, .int .i64 a.1)]) (fun a h2 n2 => a.1 ≤ x.tr.length ∧ (∀ b, b < n → h2.get b = h.get b) ∧ Fresh n2 h2 ∧ n ≤ n2 ∧ n2 ≤ n + 100 + a.1 * 100 ∧ Row h2 (fun b => n ≤ b ∧ b < n2) a.2 (ints ((incR x p).take a.1)) a.1 1)
      (fun a => x.tr.length - a.1) (0, .nilsl) (by repeat (first | exact Sub.nil | refine Sub.cons (by first | rfl | (rw [Int.natCast_add]; rfl)) ?_)) ⟨Nat.zero_le _, fun _ _ => rfl, hf.le (by omega), by omega, by omega, .nil⟩ ?_
    rintro ⟨t, u⟩ h2 n2 ⟨hti, hag, hf2, hnn, hnb, hu⟩
    dsimp only at hti hnb hu ⊢
    have h642 : h2.get 64 = some (.cells 0 [sli x.ini, tns x.tr]) := by rw [hag 64 hn0, h64]
    have hf20 : ∀ b, n2 ≤ b → h2.get b = none := hf2
    by_cases hlt2 : t < x.tr.length
    · obtain ⟨tt, htt⟩ := get_ex hlt2
      have hlt2' : (t : Int) < (x.tr.length : Int) := by omega
      have hd := drop_tns htt
      have hmm := List.mem_of_getElem? htt
      have hin := ho.inn tt hmm
      have hout := ho.out tt hmm
      have b1 := weightR_bound hin p
      have b2 := weightR_bound hout p
      simp (maxSteps := 1000000) (disch := omega) only [hlt2', h642, hd, wordsN, Int.reduceGT, words, Nat.reduceAdd, Nat.reduceEqDiff, Nat.reduceBEq, ↓reduceIte, reduceCtorEq, SX.exit.injEq, if_true, if_false, Int.reduceAdd, Int.reduceSub, Int.reduceMul, Int.reduceLT, Int.reduceLE, Int.reduceEq, Int.reduceNe, Int.reduceNeg, Int.reduceToNat, Nat.reduceMul, Nat.reduceLT, Nat.reduceSub, Nat.reduceLeDiff]
      refine cp (weight tt.out p (by have := hout.len; omega)) ?_
      simp (maxSteps := 1000000) (disch := omega) only [hlt2', h642, hd, wordsN, Int.reduceGT, words, Nat.reduceAdd, Nat.reduceEqDiff, Nat.reduceBEq, ↓reduceIte, reduceCtorEq, SX.exit.injEq, if_true, if_false, Int.reduceAdd, Int.reduceSub, Int.reduceMul, Int.reduceLT, Int.reduceLE, Int.reduceEq, Int.reduceNe, Int.reduceNeg, Int.reduceToNat, Nat.reduceMul, Nat.reduceLT, Nat.reduceSub, Nat.reduceLeDiff]
      refine cp (weight tt.inn p (by have := hin.len; omega)) ?_
      simp (maxSteps := 1000000) (disch := omega) only [hlt2', h642, hd, hf20, wordsN, Int.reduceGT, words, Nat.reduceAdd, Nat.reduceEqDiff, Nat.reduceBEq, ↓reduceIte, reduceCtorEq, SX.exit.injEq, if_true, if_false, Int.reduceAdd, Int.reduceSub, Int.reduceMul, Int.reduceLT, Int.reduceLE, Int.reduceEq, Int.reduceNe, Int.reduceNeg, Int.reduceToNat, Nat.reduceMul, Nat.reduceLT, Nat.reduceSub, Nat.reduceLeDiff]
      have hstep : ints ((incR x p).take (t + 1)) = ints ((incR x p).take t) ++ [.int .i64 (weightR tt.out p - weightR tt.inn p)] := by
        rw [List.take_add_one, ints_append]
        congr 1
        simp [incR, htt, ints]
      refine app_set hu (hf2.le (by omega)) (by omega) (by omega) rfl rfl (by omega) (by omega) ?_
      intro v' h' hr' hf' hsame
      simp (maxSteps := 1000000) (disch := omega) only [words, Nat.reduceAdd, Nat.reduceEqDiff, Nat.reduceBEq, ↓reduceIte, reduceCtorEq, SX.exit.injEq, if_true, if_false, Int.reduceAdd, Int.reduceSub, Int.reduceMul, Int.reduceLT, Int.reduceLE, Int.reduceEq, Int.reduceNe, Int.reduceNeg, Int.reduceToNat, Nat.reduceMul, Nat.reduceLT, Nat.reduceSub, Nat.reduceLeDiff]
      refine ⟨(t + 1, v'), by simp only; omega, by repeat (first | exact Sub.nil | refine Sub.cons (by first | rfl | (rw [Int.natCast_add]; rfl)) ?_), by simp only; omega, ?_, hf'.le (by omega), by omega, by simp only; omega, ?_⟩
      · intro b hb
        rw [hsame b (fun hc => by omega) (by omega), hag b hb]
      · rw [hstep]
        exact hr'.keep fun b hb hne => ⟨rfl, by omega⟩
    · have hlt2' : ¬ (t : Int) < (x.tr.length : Int) := by omega
      have e : t = x.tr.length := by omega
      have htk : (incR x p).take t = incR x p := List.take_of_length_le (by rw [incR_len]; omega)
      rw [htk] at hu
      have c1 := hu.cells1
      have c2 := hu.boxable
      simp (maxSteps := 1000000) (disch := omega) only [hlt2', h642, hf20, c1, c2, wordsN, Int.reduceGT, words, Nat.reduceAdd, Nat.reduceEqDiff, Nat.reduceBEq, ↓reduceIte, reduceCtorEq, SX.exit.injEq, if_true, if_false, Int.reduceAdd, Int.reduceSub, Int.reduceMul, Int.reduceLT, Int.reduceLE, Int.reduceEq, Int.reduceNe, Int.reduceNeg, Int.reduceToNat, Nat.reduceMul, Nat.reduceLT, Nat.reduceSub, Nat.reduceLeDiff]
      have hu2 : ∀ k, n2 ≤ k → Row h2 (fun b => n ≤ b ∧ b < k) u ((incR x p).map (.int .i64)) (incR x p).length 1 := fun k hk => by
        rw [incR_len, ← e]; exact hu.keep fun b hb _ => ⟨rfl, hb.1, by omega⟩
      have hLl : ((List.range p).map (incR x)).length = p := by simp
      refine mat_app (l := incR x p) hm hag (hu2 _ (by omega)) (hf2.le (by omega)) (by omega) (by omega) (by omega) (by omega) (by rw [hLl]; omega) (by rw [hLl]; omega) ?_
      intro v' h' rows' hm' hf' hlo
      simp (maxSteps := 1000000) (disch := omega) only [words, Nat.reduceAdd, Nat.reduceEqDiff, Nat.reduceBEq, ↓reduceIte, reduceCtorEq, SX.exit.injEq, if_true, if_false, Int.reduceAdd, Int.reduceSub, Int.reduceMul, Int.reduceLT, Int.reduceLE, Int.reduceEq, Int.reduceNe, Int.reduceNeg, Int.reduceToNat, Nat.reduceMul, Nat.reduceLT, Nat.reduceSub, Nat.reduceLeDiff]
      refine ⟨(p + 1, v', rows'), by simp only; omega, by repeat (first | exact Sub.nil | refine Sub.cons (by first | rfl | (rw [Int.natCast_add]; rfl)) ?_), by simp only; omega, ?_, hf'.le (by omega), by omega, by simp only; omega, ?_⟩
      · rw [hlo 64 (by omega), h64]
      · rw [range_take_succ]
        exact hm'.keep (by omega) fun b _ _ => rfl
  · have hlt' : ¬ (p : Int) < (x.ini.length : Int) := by omega
    have e : p = x.ini.length := by omega
    simp (maxSteps := 1000000) (disch := omega) only [hlt', h64, wordsN, Int.reduceGT, words, Nat.reduceAdd, Nat.reduceEqDiff, Nat.reduceBEq, ↓reduceIte, reduceCtorEq, SX.exit.injEq, if_true, if_false, Int.reduceAdd, Int.reduceSub, Int.reduceMul, Int.reduceLT, Int.reduceLE, Int.reduceEq, Int.reduceNe, Int.reduceNeg, Int.reduceToNat, Nat.reduceMul, Nat.reduceLT, Nat.reduceSub, Nat.reduceLeDiff]
    refine ⟨by simp, _, rfl, ?_⟩
    have := hm.frz
    rw [e] at this
    simp [resOf, lk_cons]
    exact this
end Go.AM.SN
namespace Go.AM.SN
open Go.Proofs
set_option maxRecDepth 100000
set_option linter.unusedSimpArgs false
set_option linter.unusedVariables false
def colR (x : Nt) (t : Nat) : List Int := (List.range x.ini.length).map fun p => (incR x p).getD t 0
def colM (x : Nt) : List (List Int) := (List.range x.tr.length).map (colR x)
theorem colR_len (x : Nt) (t : Nat) : (colR x t).length = x.ini.length := by simp [colR]
theorem incM_get {x : Nt} {p : Nat} (h : p < x.ini.length) : (incM x)[p]? = some (incR x p) := by simp [incM, h]
def rowsR (x : Nt) (kind : Int) : List (List Int) := if kind = 1 then incM x else colM x
set_option maxHeartbeats 8000000 in
theorem rows (x : Nt) (kind : Int) (ho : NetOk x) : PSpec Try.prog 17 [netV x, .int .i64 kind] (lsts (rowsR x kind)) := by
  refine PSpec.of_frz 64 ok17 rfl (by rw [noRefs, noRef_net]; rfl) (by simp only [noRef]; exact noRefs_lsts _) ?_
  have hp := ho.places
  have ht := ho.trans
  have hfe : ∀ b, Tr.get (α := Blk) .e b = none := fun b => by simp [Tr.get]
  simp (maxSteps := 1000000) (disch := omega) only [s17, hfe, wordsN, Int.reduceGT, words, Nat.reduceAdd, Nat.reduceEqDiff, Nat.reduceBEq, ↓reduceIte, reduceCtorEq, SX.exit.injEq, if_true, if_false, Int.reduceAdd, Int.reduceSub, Int.reduceMul, Int.reduceLT, Int.reduceLE, Int.reduceEq, Int.reduceNe, Int.reduceNeg, Int.reduceToNat, Nat.reduceMul, Nat.reduceLT, Nat.reduceSub, Nat.reduceLeDiff]
  refine cp (incidence x ho) ?_
  by_cases hk : kind = 1
  · simp (maxSteps := 1000000) (disch := omega) only [hk, wordsN, Int.reduceGT, words, Nat.reduceAdd, Nat.reduceEqDiff, Nat.reduceBEq, ↓reduceIte, reduceCtorEq, SX.exit.injEq, if_true, if_false, Int.reduceAdd, Int.reduceSub, Int.reduceMul, Int.reduceLT, Int.reduceLE, Int.reduceEq, Int.reduceNe, Int.reduceNeg, Int.reduceToNat, Nat.reduceMul, Nat.reduceLT, Nat.reduceSub, Nat.reduceLeDiff]
    refine ⟨by simp, _, rfl, ?_⟩
    simp [resOf, lk_cons, rowsR]
    exact FrzTo.same _
  have hrk : rowsR x kind = colM x := by simp [rowsR, hk]
  rw [hrk]
  have hil : (incM x).length = x.ini.length := by simp [incM]
  simp (maxSteps := 1000000) (disch := omega) only [hk, wordsN, Int.reduceGT, words, Nat.reduceAdd, Nat.reduceEqDiff, Nat.reduceBEq, ↓reduceIte, reduceCtorEq, SX.exit.injEq, if_true, if_false, Int.reduceAdd, Int.reduceSub, Int.reduceMul, Int.reduceLT, Int.reduceLE, Int.reduceEq, Int.reduceNe, Int.reduceNeg, Int.reduceToNat, Nat.reduceMul, Nat.reduceLT, Nat.reduceSub, Nat.reduceLeDiff]
  refine wS_loop (fun a : Nat × AV × List AV => [(2, .ptr 64 0 0), (5, lsts (incM x)), (6, a.2.1), (7, .int .i64 a.1)]) (fun a h n => a.1 ≤ x.tr.length ∧ h.get 64 = some (.cells 0 [sli x.ini, tns x.tr]) ∧ Fresh n h ∧ 64 < n ∧ n ≤ 1000 + a.1 * 10000 ∧ Mat h n 64 a.2.1 a.2.2 ((List.range a.1).map (colR x)))
    (fun a => x.tr.length - a.1) (0, .nilsl, []) (by repeat (first | exact Sub.nil | refine Sub.cons (by first | rfl | (rw [Int.natCast_add]; rfl)) ?_)) ⟨Nat.zero_le _, get_same (by omega), (Fresh.e (n := 65)).le (by omega) |>.set (by omega) (by omega), by omega, by omega, .nil⟩ ?_
  rintro ⟨t, v, rows⟩ h n ⟨hi, h64, hf, hn0, hn, hm⟩
  dsimp only at hi hn hm ⊢
  have hf0 : ∀ b, n ≤ b → h.get b = none := hf
  by_cases hlt : t < x.tr.length
  · have hlt' : (t : Int) < (x.tr.length : Int) := by omega
    simp (maxSteps := 1000000) (disch := omega) only [hlt', h64, wordsN, Int.reduceGT, words, Nat.reduceAdd, Nat.reduceEqDiff, Nat.reduceBEq, ↓reduceIte, reduceCtorEq, SX.exit.injEq, if_true, if_false, Int.reduceAdd, Int.reduceSub, Int.reduceMul, Int.reduceLT, Int.reduceLE, Int.reduceEq, Int.reduceNe, Int.reduceNeg, Int.reduceToNat, Nat.reduceMul, Nat.reduceLT, Nat.reduceSub, Nat.reduceLeDiff]
    refine wS_loop (fun a : Nat × AV => [(2, .ptr 64 0 0), (5, lsts (incM x)), (6, v), (7, .int .i64 t), (8, a.2), (9, .int .i64 a.1)]) (fun a h2 n2 => a.1 ≤ x.ini.length ∧ (∀ b, b < n → h2.get b = h.get b) ∧ Fresh n2 h2 ∧ n ≤ n2 ∧ n2 ≤ n + 100 + a.1 * 100 ∧ Row h2 (fun b => n ≤ b ∧ b < n2) a.2 (ints ((colR x t).take a.1)) a.1 1)
      (fun a => x.ini.length - a.1) (0, .nilsl) (by repeat (first | exact Sub.nil | refine Sub.cons (by first | rfl | (rw [Int.natCast_add]; rfl)) ?_)) ⟨Nat.zero_le _, fun _ _ => rfl, hf.le (by omega), by omega, by omega, .nil⟩ ?_
    rintro ⟨p, u⟩ h2 n2 ⟨hti, hag, hf2, hnn, hnb, hu⟩
    dsimp only at hti hnb hu ⊢
    have h642 : h2.get 64 = some (.cells 0 [sli x.ini, tns x.tr]) := by rw [hag 64 hn0, h64]
    have hf20 : ∀ b, n2 ≤ b → h2.get b = none := hf2
    by_cases hlt2 : p < x.ini.length
    · have hlt2' : (p : Int) < ((incM x).length : Int) := by rw [hil]; omega
      have hrow := incM_get hlt2
      obtain ⟨y, hy⟩ := get_ex (l := incR x p) (i := t) (by rw [incR_len]; exact hlt)
      have hlt3' : (t : Int) < ((incR x p).length : Int) := by rw [incR_len]; omega
      simp (maxSteps := 1000000) (disch := omega) only [hlt2', hlt3', head_lsts hrow, head_ints hy, hf20, wordsN, Int.reduceGT, words, Nat.reduceAdd, Nat.reduceEqDiff, Nat.reduceBEq, ↓reduceIte, reduceCtorEq, SX.exit.injEq, if_true, if_false, Int.reduceAdd, Int.reduceSub, Int.reduceMul, Int.reduceLT, Int.reduceLE, Int.reduceEq, Int.reduceNe, Int.reduceNeg, Int.reduceToNat, Nat.reduceMul, Nat.reduceLT, Nat.reduceSub, Nat.reduceLeDiff]
      have hstep : ints ((colR x t).take (p + 1)) = ints ((colR x t).take p) ++ [.int .i64 y] := by
        rw [List.take_add_one, ints_append]
        congr 1
        have : (colR x t)[p]? = some y := by
          simp only [colR, List.getElem?_map, List.getElem?_range hlt2, Option.map_some, List.getD_eq_getElem?_getD, hy]; rfl
        rw [this]; rfl
      refine app_set hu (hf2.le (by omega)) (by omega) (by omega) rfl rfl (by omega) (by omega) ?_
      intro v' h' hr' hf' hsame
      simp (maxSteps := 1000000) (disch := omega) only [words, Nat.reduceAdd, Nat.reduceEqDiff, Nat.reduceBEq, ↓reduceIte, reduceCtorEq, SX.exit.injEq, if_true, if_false, Int.reduceAdd, Int.reduceSub, Int.reduceMul, Int.reduceLT, Int.reduceLE, Int.reduceEq, Int.reduceNe, Int.reduceNeg, Int.reduceToNat, Nat.reduceMul, Nat.reduceLT, Nat.reduceSub, Nat.reduceLeDiff]
      refine ⟨(p + 1, v'), by simp only; omega, by repeat (first | exact Sub.nil | refine Sub.cons (by first | rfl | (rw [Int.natCast_add]; rfl)) ?_), by simp only; omega, ?_, hf'.le (by omega), by omega, by simp only; omega, ?_⟩
      · intro b hb
        rw [hsame b (fun hc => by omega) (by omega), hag b hb]
      · rw [hstep]
        exact hr'.keep fun b hb hne => ⟨rfl, by omega⟩
    · have hlt2' : ¬ (p : Int) < ((incM x).length : Int) := by rw [hil]; omega
      have e : p = x.ini.length := by omega
      have htk : (colR x t).take p = colR x t := List.take_of_length_le (by rw [colR_len]; omega)
      rw [htk] at hu
      have c1 := hu.cells1
      have c2 := hu.boxable
      simp (maxSteps := 1000000) (disch := omega) only [hlt2', hf20, c1, c2, wordsN, Int.reduceGT, words, Nat.reduceAdd, Nat.reduceEqDiff, Nat.reduceBEq, ↓reduceIte, reduceCtorEq, SX.exit.injEq, if_true, if_false, Int.reduceAdd, Int.reduceSub, Int.reduceMul, Int.reduceLT, Int.reduceLE, Int.reduceEq, Int.reduceNe, Int.reduceNeg, Int.reduceToNat, Nat.reduceMul, Nat.reduceLT, Nat.reduceSub, Nat.reduceLeDiff]
      have hu2 : ∀ k, n2 ≤ k → Row h2 (fun b => n ≤ b ∧ b < k) u ((colR x t).map (.int .i64)) (colR x t).length 1 := fun k hk => by
        rw [colR_len, ← e]; exact hu.keep fun b hb _ => ⟨rfl, hb.1, by omega⟩
      have hLl : ((List.range t).map (colR x)).length = t := by simp
      refine mat_app (l := colR x t) hm hag (hu2 _ (by omega)) (hf2.le (by omega)) (by omega) (by omega) (by omega) (by omega) (by rw [hLl]; omega) (by rw [hLl]; omega) ?_
      intro v' h' rows' hm' hf' hlo
      simp (maxSteps := 1000000) (disch := omega) only [words, Nat.reduceAdd, Nat.reduceEqDiff, Nat.reduceBEq, ↓reduceIte, reduceCtorEq, SX.exit.injEq, if_true, if_false, Int.reduceAdd, Int.reduceSub, Int.reduceMul, Int.reduceLT, Int.reduceLE, Int.reduceEq, Int.reduceNe, Int.reduceNeg, Int.reduceToNat, Nat.reduceMul, Nat.reduceLT, Nat.reduceSub, Nat.reduceLeDiff]
      refine ⟨(t + 1, v', rows'), by simp only; omega, by repeat (first | exact Sub.nil | refine Sub.cons (by first | rfl | (rw [Int.natCast_add]; rfl)) ?_), by simp only; omega, ?_, hf'.le (by omega), by omega, by simp only; omega, ?_⟩
      · rw [hlo 64 (by omega), h64]
      · rw [range_take_succ]
        exact hm'.keep (by omega) fun b _ _ => rfl
  · have hlt' : ¬ (t : Int) < (x.tr.length : Int) := by omega
    have e : t = x.tr.length := by omega
    simp (maxSteps := 1000000) (disch := omega) only [hlt', h64, wordsN, Int.reduceGT, words, Nat.reduceAdd, Nat.reduceEqDiff, Nat.reduceBEq, ↓reduceIte, reduceCtorEq, SX.exit.injEq, if_true, if_false, Int.reduceAdd, Int.reduceSub, Int.reduceMul, Int.reduceLT, Int.reduceLE, Int.reduceEq, Int.reduceNe, Int.reduceNeg, Int.reduceToNat, Nat.reduceMul, Nat.reduceLT, Nat.reduceSub, Nat.reduceLeDiff]
    refine ⟨by simp, _, rfl, ?_⟩
    have := hm.frz
    rw [e] at this
    simp [resOf, lk_cons]
    exact this
end Go.AM.SN
namespace Go.AM.SN
open Go.Proofs
set_option maxRecDepth 100000
set_option linter.unusedSimpArgs false
set_option linter.unusedVariables false
def pad (r : List Int) : List AV := ints (r ++ List.replicate (10 - r.length) 0)
theorem pad_len {r : List Int} (h : r.length ≤ 10) : (pad r).length = 10 := by simp [pad, ints]; omega
abbrev tabV (k : Nat) (R : List (List Int)) : AV := .agg [.int .i64 k, .fsl (R.flatMap pad) R.length 10]
theorem drop_flat' {α : Type} {f : α → List AV} {k : Nat} : ∀ {l : List α} {i : Nat} {x : α}, (∀ x ∈ l, (f x).length = k) → l[i]? = some x → (l.flatMap f).drop (i * k) = f x ++ (l.drop (i + 1)).flatMap f
  | [], i, x, _, h => by simp at h
  | a :: l, 0, x, _, h => by simp at h; subst h; simp
  | a :: l, i + 1, x, hf, h => by
    simp at h
    have := drop_flat' (fun y hy => hf y (by simp [hy])) h
    simp only [List.flatMap_cons, List.drop_succ_cons]
    rw [← this, show (i + 1) * k = (f a).length + i * k by rw [hf a (by simp), Nat.succ_mul, Nat.add_comm], List.drop_append, List.drop_eq_nil_of_le (by omega), Nat.add_sub_cancel_left, List.nil_append]
def rowSum : List Int → List Int → Int
  | r :: rs, w :: ws => r * w + rowSum rs ws
  | _, _ => 0
theorem rowSum_take : ∀ {l m : List Int} {i : Nat} {x y : Int}, l[i]? = some x → m[i]? = some y → rowSum (l.take (i + 1)) (m.take (i + 1)) = rowSum (l.take i) (m.take i) + x * y
  | [], _, i, x, y, h, _ => by simp at h
  | _ :: _, [], i, x, y, _, h => by simp at h
  | a :: l, b :: m, 0, x, y, h1, h2 => by
    simp at h1 h2; subst h1; subst h2; simp [rowSum]
  | a :: l, b :: m, i + 1, x, y, h1, h2 => by
    simp at h1 h2
    have := rowSum_take h1 h2
    simp only [List.take_succ_cons, rowSum] at this ⊢
    omega
theorem rowSum_bound : ∀ {l m : List Int}, (∀ x ∈ l, sm x) → (∀ x ∈ m, sm x) → -(l.length * 4294967296) ≤ rowSum l m ∧ rowSum l m ≤ l.length * 4294967296
  | [], m, _, _ => by simp [rowSum]
  | x :: l, [], _, _ => by simp [rowSum]; omega
  | x :: l, y :: m, hl, hm => by
    have h1 := rowSum_bound (l := l) (m := m) (fun z hz => hl z (by simp [hz])) (fun z hz => hm z (by simp [hz]))
    have h2 := mul_sm (hl x (by simp)) (hm y (by simp))
    simp only [rowSum, List.length_cons]
    omega
def flowsR (R : List (List Int)) (w : List Int) : Bool := R.all (fun r => rowSum r w == 0) && !w.all (· == 0)
theorem suppR_pos (w : List Int) : (0 < (suppR w w.length).length) ↔ w.all (· == 0) = false := by
  unfold suppR
  rw [List.length_map]
  constructor
  · intro h
    obtain ⟨j, hj⟩ := List.exists_mem_of_length_pos h
    rw [List.mem_filter] at hj
    simp only [List.mem_range, Bool.not_eq_true', decide_eq_false_iff_not] at hj
    rw [List.all_eq_false]
    refine ⟨w.getD j 0, ?_, by simpa using hj.2⟩
    rw [List.getD_eq_getElem?_getD, List.getElem?_eq_getElem hj.1]
    exact List.getElem_mem _
  · intro h
    rw [List.all_eq_false] at h
    obtain ⟨x, hx, hne⟩ := h
    obtain ⟨j, hj, hjl⟩ := mem_at hx
    refine List.length_pos_of_mem (a := j) ?_
    rw [List.mem_filter]
    simp only [List.mem_range, Bool.not_eq_true', decide_eq_false_iff_not]
    refine ⟨hjl, ?_⟩
    rw [List.getD_eq_getElem?_getD, hj]
    simpa using hne
set_option maxHeartbeats 8000000 in
theorem flows (k : Nat) (R : List (List Int)) (w : List Int) (hk : k ≤ 10) (hR : R.length ≤ 1000) (hl : w.length = k) (hRk : ∀ r ∈ R, r.length = k) (hRs : ∀ r ∈ R, ∀ x ∈ r, sm x) (hw : ∀ x ∈ w, sm x) :
    PSpec Try.prog 49 [tabV k R, sli w] (.bool (flowsR R w)) := by
  have hfe : ∀ b, Tr.get (α := Blk) .e b = none := fun b => by simp [Tr.get]
  have hfl : noRefs (R.flatMap pad) = true := noRefs_flat fun r => noRefs_ints _
  refine PSpec.of_flat 64 ok49 rfl (by simp only [noRefs, noRef, hfl, noRefs_ints, Bool.and_true]) rfl ?_
  simp (maxSteps := 1000000) (disch := omega) only [s49, hfe, wordsN, Int.reduceGT, words, Nat.reduceAdd, Nat.reduceEqDiff, Nat.reduceBEq, ↓reduceIte, reduceCtorEq, SX.exit.injEq, if_true, if_false, Int.reduceAdd, Int.reduceSub, Int.reduceMul, Int.reduceLT, Int.reduceLE, Int.reduceEq, Int.reduceNe, Int.reduceNeg, Int.reduceToNat, Nat.reduceMul, Nat.reduceLT, Nat.reduceSub, Nat.reduceLeDiff]
  refine wS_loop (fun i : Nat => [(1, sli w), (11, .fsl (R.flatMap pad) R.length 10), (12, .int .i64 R.length), (13, .int .i64 i)]) (fun i h n => i ≤ R.length ∧ Fresh n h ∧ n ≤ 1000 + i * 10000 ∧ ∀ j r, j < i → R[j]? = some r → rowSum r w = 0) (fun i => R.length - i) 0 (by repeat (first | exact Sub.nil | refine Sub.cons (by first | rfl | (rw [Int.natCast_add]; rfl)) ?_)) ⟨Nat.zero_le _, (Fresh.e (n := 65)).le (by omega) |>.set (by omega) (by omega), by omega, fun j r hj => absurd hj (Nat.not_lt_zero _)⟩ ?_
  rintro i h n ⟨hi, hf, hn, hb⟩
  have hf0 : ∀ b, n ≤ b → h.get b = none := hf
  by_cases hlt : i < R.length
  · obtain ⟨r, hr⟩ := get_ex hlt
    have hlt' : (i : Int) < (R.length : Int) := by omega
    have hrm := List.mem_of_getElem? hr
    have hrk := hRk r hrm
    have hd := drop_flat' (f := pad) (k := 10) (fun y hy => pad_len (by rw [hRk y hy]; omega)) hr
    have hpl : (pad r).length = 10 := pad_len (by omega)
    have ht10 : (pad r ++ (R.drop (i + 1)).flatMap pad).take 10 = pad r := by rw [← hpl, List.take_left']; rfl
    have hl10 : (10 ≤ (pad r ++ (R.drop (i + 1)).flatMap pad).length) = True := by simp [hpl]
    have hone : (pad r).all AV.one = true := by
      rw [List.all_eq_true]; intro y hy
      simp only [pad, ints, List.mem_map] at hy
      obtain ⟨z, _, rfl⟩ := hy; rfl
    have hput : putR [.int .i64 0, .int .i64 0, .int .i64 0, .int .i64 0, .int .i64 0, .int .i64 0, .int .i64 0, .int .i64 0, .int .i64 0, .int .i64 0] 0 (pad r) = pad r := by
      rcases hp : pad r with _ | ⟨a, _ | ⟨b, l⟩⟩
      · rw [hp] at hpl; cases hpl
      · rw [hp] at hpl; cases hpl
      · rw [hp] at hpl
        rw [putR_many, hpl]; simp
    simp (maxSteps := 1000000) (disch := omega) only [hlt', hd, ht10, hl10, hf0, hpl, hone, hput, wordsN, Int.reduceGT, words, Nat.reduceAdd, Nat.reduceEqDiff, Nat.reduceBEq, ↓reduceIte, reduceCtorEq, SX.exit.injEq, if_true, if_false, Int.reduceAdd, Int.reduceSub, Int.reduceMul, Int.reduceLT, Int.reduceLE, Int.reduceEq, Int.reduceNe, Int.reduceNeg, Int.reduceToNat, Nat.reduceMul, Nat.reduceLT, Nat.reduceSub, Nat.reduceLeDiff]
    refine wS_loop (fun j : Nat => [(1, sli w), (11, .fsl (R.flatMap pad) R.length 10), (12, .int .i64 R.length), (13, .int .i64 i), (6, .ptr (n + 1 + 1 + 1) 0 0), (7, .int .i64 (rowSum (r.take j) (w.take j))), (17, sli w), (18, .int .i64 w.length), (19, .int .i64 j)])
      (fun j h2 n2 => j ≤ w.length ∧ h2.get (n + 1 + 1 + 1) = some (.cells 0 (pad r)) ∧ Fresh n2 h2 ∧ n2 ≤ n + 100 + j * 100) (fun j => w.length - j) 0 (by repeat (first | exact Sub.nil | refine Sub.cons (by first | rfl | (rw [Int.natCast_add]; rfl)) ?_)) ⟨Nat.zero_le _, get_same (by omega), (by repeat (first | exact Fresh.e | exact Fresh.le (by assumption) (by omega) | refine Fresh.set ?_ (by omega) (by omega))), by omega⟩ ?_
    rintro j h2 n2 ⟨hj, hg, hf2, hnb⟩
    by_cases hjl : j < w.length
    · obtain ⟨x, hx⟩ := get_ex (l := r) (i := j) (by omega)
      obtain ⟨y, hy⟩ := get_ex hjl
      have hjl' : (j : Int) < (w.length : Int) := by omega
      have hj10 : (j : Int) < 10 := by omega
      have hpx : (pad r)[j]? = some (.int .i64 x) := by
        simp only [pad, ints, List.map_append]
        rw [List.getElem?_append_left (by simp; omega), List.getElem?_map, hx]; rfl
      have hxb := mul_sm (hRs r hrm x (List.mem_of_getElem? hx)) (hw y (List.mem_of_getElem? hy))
      have hdb := rowSum_bound (l := r.take j) (m := w.take j) (fun z hz => hRs r hrm z (List.mem_of_mem_take hz)) (fun z hz => hw z (List.mem_of_mem_take hz))
      have htl : (r.take j).length = j := by simp; omega
      rw [htl] at hdb
      have hstep := rowSum_take hx hy
      simp (maxSteps := 1000000) (disch := omega) only [hjl', hj10, hpx, hg, head_ints hy, wordsN, Int.reduceGT, words, Nat.reduceAdd, Nat.reduceEqDiff, Nat.reduceBEq, ↓reduceIte, reduceCtorEq, SX.exit.injEq, if_true, if_false, Int.reduceAdd, Int.reduceSub, Int.reduceMul, Int.reduceLT, Int.reduceLE, Int.reduceEq, Int.reduceNe, Int.reduceNeg, Int.reduceToNat, Nat.reduceMul, Nat.reduceLT, Nat.reduceSub, Nat.reduceLeDiff]
      refine ⟨j + 1, by omega, ?_, by omega, (by repeat (first | exact Fresh.e | exact Fresh.le (by assumption) (by omega) | refine Fresh.set ?_ (by omega) (by omega))), by omega⟩
      rw [hstep]
      repeat (first | exact Sub.nil | refine Sub.cons (by first | rfl | (rw [Int.natCast_add]; rfl)) ?_)
    · have hjl' : ¬ (j : Int) < (w.length : Int) := by omega
      have e : j = w.length := by omega
      have h1 : r.take j = r := List.take_of_length_le (by omega)
      have h2' : w.take j = w := List.take_of_length_le (by omega)
      rw [h1, h2']
      by_cases h0 : rowSum r w = 0
      · simp (maxSteps := 1000000) (disch := omega) only [hjl', h0, wordsN, Int.reduceGT, words, Nat.reduceAdd, Nat.reduceEqDiff, Nat.reduceBEq, ↓reduceIte, reduceCtorEq, SX.exit.injEq, if_true, if_false, Int.reduceAdd, Int.reduceSub, Int.reduceMul, Int.reduceLT, Int.reduceLE, Int.reduceEq, Int.reduceNe, Int.reduceNeg, Int.reduceToNat, Nat.reduceMul, Nat.reduceLT, Nat.reduceSub, Nat.reduceLeDiff]
        refine ⟨i + 1, by omega, by repeat (first | exact Sub.nil | refine Sub.cons (by first | rfl | (rw [Int.natCast_add]; rfl)) ?_), by omega, hf2.le (by omega), by omega, fun j' r' hj' hr' => ?_⟩
        by_cases e' : j' = i
        · subst e'; rw [hr] at hr'; cases hr'; exact h0
        · exact hb j' r' (by omega) hr'
      · simp (maxSteps := 1000000) (disch := omega) only [hjl', h0, wordsN, Int.reduceGT, words, Nat.reduceAdd, Nat.reduceEqDiff, Nat.reduceBEq, ↓reduceIte, reduceCtorEq, SX.exit.injEq, if_true, if_false, Int.reduceAdd, Int.reduceSub, Int.reduceMul, Int.reduceLT, Int.reduceLE, Int.reduceEq, Int.reduceNe, Int.reduceNeg, Int.reduceToNat, Nat.reduceMul, Nat.reduceLT, Nat.reduceSub, Nat.reduceLeDiff]
        refine ⟨by simp, _, rfl, ?_⟩
        have : R.all (fun r => rowSum r w == 0) = false := by
          rw [List.all_eq_false]; exact ⟨r, hrm, by simp [h0]⟩
        simp [resOf, lk_cons, flowsR, this]
  · have hlt' : ¬ (i : Int) < (R.length : Int) := by omega
    simp (maxSteps := 1000000) (disch := omega) only [hlt', wordsN, Int.reduceGT, words, Nat.reduceAdd, Nat.reduceEqDiff, Nat.reduceBEq, ↓reduceIte, reduceCtorEq, SX.exit.injEq, if_true, if_false, Int.reduceAdd, Int.reduceSub, Int.reduceMul, Int.reduceLT, Int.reduceLE, Int.reduceEq, Int.reduceNe, Int.reduceNeg, Int.reduceToNat, Nat.reduceMul, Nat.reduceLT, Nat.reduceSub, Nat.reduceLeDiff]
    refine cp (support w (by omega)) ?_
    have hall : R.all (fun r => rowSum r w == 0) = true := by
      rw [List.all_eq_true]
      intro r hr
      obtain ⟨j, hj, hjl⟩ := mem_at hr
      simp [hb j r (by omega) hj]
    have hsp := suppR_pos w
    simp (maxSteps := 1000000) (disch := omega) only [wordsN, Int.reduceGT, words, Nat.reduceAdd, Nat.reduceEqDiff, Nat.reduceBEq, ↓reduceIte, reduceCtorEq, SX.exit.injEq, if_true, if_false, Int.reduceAdd, Int.reduceSub, Int.reduceMul, Int.reduceLT, Int.reduceLE, Int.reduceEq, Int.reduceNe, Int.reduceNeg, Int.reduceToNat, Nat.reduceMul, Nat.reduceLT, Nat.reduceSub, Nat.reduceLeDiff]
    refine ⟨by simp, _, rfl, ?_⟩
    simp only [resOf, lk_cons, flowsR, hall, Bool.true_and]
    cases hz : w.all (· == 0) with
    | true =>
      have : ¬ 0 < (suppR w w.length).length := fun hc => by rw [hsp, hz] at hc; cases hc
      simp
      exact List.length_eq_zero_iff.1 (by omega)
    | false =>
      have := hsp.2 hz
      simp
      exact this
end Go.AM.SN
namespace Go.AM.SN
open Go.Proofs
set_option maxRecDepth 100000
set_option linter.unusedSimpArgs false
set_option linter.unusedVariables false
structure MatM (h : Heap) (n lo bo : Nat) (bs : List Nat) (m : Nat) (f : Nat → Nat → Int) : Prop where
  out : h.get bo = some (.cells 0 (bs.map fun b => AV.sl b 0 0 m 1))
  row : ∀ p b, bs[p]? = some b → h.get b = some (.cells 0 (ints ((List.range m).map (f p))))
  nod : bs.Nodup
  bnd : ∀ b ∈ bs, lo < b ∧ b < n ∧ b ≠ bo
  bo1 : lo < bo
  bo2 : bo < n
theorem MatM.keep {h h' : Heap} {n n' lo bo m : Nat} {bs : List Nat} {f : Nat → Nat → Int} (M : MatM h n lo bo bs m f) (hn : n ≤ n') (hk : ∀ b, lo < b → b < n → h'.get b = h.get b) : MatM h' n' lo bo bs m f :=
  ⟨by rw [hk bo M.bo1 M.bo2]; exact M.out, fun p b hb => by
    have := M.bnd b (List.mem_of_getElem? hb)
    rw [hk b this.1 this.2.1]; exact M.row p b hb, M.nod, fun b hb => by have := M.bnd b hb; exact ⟨this.1, by omega, this.2.2⟩, M.bo1, by have := M.bo2; omega⟩
theorem MatM.congr {h : Heap} {n lo bo m : Nat} {bs : List Nat} {f f' : Nat → Nat → Int} (M : MatM h n lo bo bs m f) (hf : ∀ p t, p < bs.length → t < m → f p t = f' p t) : MatM h n lo bo bs m f' :=
  ⟨M.out, fun p b hb => by
    rw [M.row p b hb]
    have hp : p < bs.length := (List.getElem?_eq_some_iff.1 hb).1
    have : (List.range m).map (f p) = (List.range m).map (f' p) := List.map_congr_left fun t ht => hf p t hp (by simpa using ht)
    rw [this], M.nod, M.bnd, M.bo1, M.bo2⟩
theorem MatM.upd {h : Heap} {n lo bo m p t b : Nat} {bs : List Nat} {f : Nat → Nat → Int} (M : MatM h n lo bo bs m f) (hb : bs[p]? = some b) (ht : t < m) (hl : b < 1099511627775) (v : Int) :
    MatM (h.set b (.cells 0 ((ints ((List.range m).map (f p))).set t (.int .i64 v)))) n lo bo bs m (fun p' t' => if p' = p ∧ t' = t then v else f p' t') := by
  have hbb := M.bnd b (List.mem_of_getElem? hb)
  refine ⟨by rw [get_ne hl (fun e => hbb.2.2 e.symm)]; exact M.out, fun p' b' hb' => ?_, M.nod, M.bnd, M.bo1, M.bo2⟩
  by_cases e : p' = p
  · subst e
    rw [hb] at hb'; cases hb'
    rw [get_same hl]
    congr 2
    refine List.ext_getElem? fun j => ?_
    simp only [ints, List.getElem?_set, List.length_map, List.length_range, List.getElem?_map]
    by_cases hj : t = j
    · subst hj
      simp [ht]
    · rw [if_neg hj]
      by_cases hjm : j < m
      · simp [List.getElem?_range hjm]
        exact fun e => absurd e.symm hj
      · simp [List.getElem?_eq_none (show (List.range m).length ≤ j by simp; omega)]
  · have hne : b' ≠ b := by
      intro e2; subst e2
      have h1 := (List.getElem?_eq_some_iff.1 hb)
      have h2 := (List.getElem?_eq_some_iff.1 hb')
      obtain ⟨q1, q2⟩ := h1
      obtain ⟨q3, q4⟩ := h2
      have hp := List.pairwise_iff_getElem.1 M.nod
      rcases Nat.lt_or_gt_of_ne e with hlt | hlt
      · exact hp p' p q3 q1 hlt (q4.trans q2.symm)
      · exact hp p p' q1 q3 hlt (q2.trans q4.symm)
    rw [get_ne hl hne, M.row p' b' hb']
    have : (List.range m).map (f p') = (List.range m).map (fun t' => if p' = p ∧ t' = t then v else f p' t') := List.map_congr_left fun t' _ => by simp [e]
    rw [this]
def sumW : List (Int × Int) → Int → Int
  | [], _ => 0
  | a :: l, p => (if a.1 = p then a.2 else 0) + sumW l p
theorem sumW_take : ∀ {l : List (Int × Int)} {i : Nat} {a : Int × Int} {p : Int}, l[i]? = some a → sumW (l.take (i + 1)) p = sumW (l.take i) p + (if a.1 = p then a.2 else 0)
  | [], i, a, p, h => by simp at h
  | b :: l, 0, a, p, h => by simp at h; subst h; simp [sumW]
  | b :: l, i + 1, a, p, h => by
    simp at h
    have := sumW_take (p := p) h
    simp only [List.take_succ_cons, sumW] at this ⊢
    omega
def Inc (l : List (Int × Int)) : Prop := ∀ (i : Nat) (a b : Int × Int), l[i]? = some a → l[i + 1]? = some b → a.1 < b.1
theorem Inc.tail {a : Int × Int} {l : List (Int × Int)} (h : Inc (a :: l)) : Inc l := fun i x y h1 h2 => h (i + 1) x y (by simpa using h1) (by simpa using h2)
theorem sumW_zero : ∀ {l : List (Int × Int)} {a : Int × Int} {p : Int}, Inc (a :: l) → p ≤ a.1 → sumW l p = 0
  | [], _, _, _, _ => rfl
  | b :: l, a, p, h, hp => by
    have h1 := h 0 a b rfl rfl
    have h2 := sumW_zero (p := p) h.tail (by omega)
    have h3 : b.1 ≠ p := by omega
    simp [sumW, h2, h3]
theorem weightR_sum : ∀ {l : List (Int × Int)} {p : Int}, Inc l → weightR l p = sumW l p
  | [], _, _ => rfl
  | a :: l, p, h => by
    have ih := weightR_sum (p := p) h.tail
    by_cases e : a.1 = p
    · have := sumW_zero (p := p) h (by omega)
      simp [weightR, sumW, e, this]
    · simp [weightR, sumW, e, ih]
def chg (x : Nt) (p t : Nat) : Int := match x.tr[t]? with | some a => sumW a.out p - sumW a.inn p | none => 0
theorem incR_chg {x : Nt} (ho : NetOk x) (p : Nat) : incR x p = (List.range x.tr.length).map (chg x p) := by
  refine List.ext_getElem? fun j => ?_
  by_cases hj : j < x.tr.length
  · obtain ⟨a, ha⟩ := get_ex hj
    have hm := List.mem_of_getElem? ha
    simp only [incR, List.getElem?_map, ha, List.getElem?_range hj, Option.map_some, chg]
    rw [weightR_sum (ho.out a hm).up, weightR_sum (ho.inn a hm).up]
  · rw [List.getElem?_eq_none (by rw [incR_len]; omega), List.getElem?_eq_none (by simp; omega)]
theorem sumW_bound : ∀ {l : List (Int × Int)} {p : Int}, (∀ a ∈ l, 0 ≤ a.2 ∧ a.2 ≤ 8) → 0 ≤ sumW l p ∧ sumW l p ≤ 8 * l.length
  | [], _, _ => by simp [sumW]
  | a :: l, p, h => by
    have h1 := sumW_bound (p := p) (fun b hb => h b (by simp [hb])) (l := l)
    have h2 := h a (by simp)
    simp only [sumW, List.length_cons]
    split <;> omega
theorem FrzL.of_get {h : Heap} : ∀ {xs ys : List AV}, xs.length = ys.length → (∀ (j : Nat) (a b : AV), xs[j]? = some a → ys[j]? = some b → FrzTo h a b) → FrzL h xs ys
  | [], [], _, _ => trivial
  | [], _ :: _, hl, _ => by simp at hl
  | _ :: _, [], hl, _ => by simp at hl
  | x :: xs, y :: ys, hl, hh => ⟨hh 0 x y rfl rfl, FrzL.of_get (by simpa using hl) fun j a b h1 h2 => hh (j + 1) a b (by simpa using h1) (by simpa using h2)⟩
theorem flat_zero (m : Nat) : (List.replicate m [AV.int .i64 0]).flatten = ints ((List.range m).map fun _ => 0) := by
  induction m with
  | zero => rfl
  | succ m ih => rw [List.replicate_succ', List.flatten_append, ih, List.range_succ, List.map_append, ints_append]; rfl
theorem flat_nil (m : Nat) : (List.replicate m [AV.nilsl]).flatten = List.replicate m AV.nilsl := by
  induction m with
  | zero => rfl
  | succ m ih => rw [List.replicate_succ, List.flatten_cons, ih, List.replicate_succ]; rfl
set_option maxHeartbeats 8000000 in
theorem netIncidence (x : Nt) (ho : NetOk x) : PSpec Try.prog 48 [netV x] (.tup [lsts (incM x), .int .i64 0]) := by
  refine PSpec.of_frz 64 ok48 rfl (by rw [noRefs, noRef_net]; rfl) (by simp only [noRef, noRefs, noRefs_lsts]; rfl) ?_
  have hp := ho.places
  have ht := ho.trans
  have hfe : ∀ b, Tr.get (α := Blk) .e b = none := fun b => by simp [Tr.get]
  simp (maxSteps := 1000000) (disch := omega) only [s48, hfe, wordsN, Int.reduceGT, words, Nat.reduceAdd, Nat.reduceEqDiff, Nat.reduceBEq, ↓reduceIte, reduceCtorEq, SX.exit.injEq, if_true, if_false, Int.reduceAdd, Int.reduceSub, Int.reduceMul, Int.reduceLT, Int.reduceLE, Int.reduceEq, Int.reduceNe, Int.reduceNeg, Int.reduceToNat, Nat.reduceMul, Nat.reduceLT, Nat.reduceSub, Nat.reduceLeDiff]
  refine cp (check x ho) ?_
  have hc1 : (24 : Int) * (x.ini.length : Int) ≤ 1099511627776 := by omega
  have hc3 : (x.ini.length : Int) ≤ 1099511627776 := by omega
  simp (maxSteps := 1000000) (disch := omega) only [hfe, hc1, hc3, flat_nil, Int.le_refl, wordsN, Int.reduceGT, words, Nat.reduceAdd, Nat.reduceEqDiff, Nat.reduceBEq, ↓reduceIte, reduceCtorEq, SX.exit.injEq, if_true, if_false, Int.reduceAdd, Int.reduceSub, Int.reduceMul, Int.reduceLT, Int.reduceLE, Int.reduceEq, Int.reduceNe, Int.reduceNeg, Int.reduceToNat, Nat.reduceMul, Nat.reduceLT, Nat.reduceSub, Nat.reduceLeDiff]
  refine wS_loop (fun a : Nat × List Nat => [(1, .ptr 64 0 0), (5, .sl 75 0 0 x.ini.length 1), (23, .int .i64 x.ini.length), (24, .int .i64 a.1)])
    (fun a h n => a.1 ≤ x.ini.length ∧ h.get 64 = some (.cells 0 [sli x.ini, tns x.tr]) ∧ Fresh n h ∧ 75 < n ∧ n ≤ 1000 + a.1 * 100 ∧ a.2.length = a.1 ∧
      h.get 75 = some (.cells 0 (a.2.map (fun b => AV.sl b 0 0 x.tr.length 1) ++ List.replicate (x.ini.length - a.1) .nilsl)) ∧
      (∀ b ∈ a.2, 75 < b ∧ b < n ∧ h.get b = some (.cells 0 (ints ((List.range x.tr.length).map fun _ => 0)))) ∧ a.2.Nodup)
    (fun a => x.ini.length - a.1) (0, []) (by repeat (first | exact Sub.nil | refine Sub.cons (by first | rfl | (rw [Int.natCast_add]; rfl)) ?_)) ⟨Nat.zero_le _, by rw [get_ne (by omega) (by omega), get_same (by omega)], (Fresh.e (n := 76)).le (by omega) |>.set (by omega) (by omega) |>.set (by omega) (by omega), by omega, by omega, rfl, by rw [get_same (by omega)]; rfl, fun b hb => by simp at hb, List.nodup_nil⟩ ?_
  rintro ⟨p, bs⟩ h n ⟨hi, h64, hf, hn0, hn, hbl, h75, hbs, hnd⟩
  dsimp only at hi hn hbl h75 hbs hnd ⊢
  have hf0 : ∀ b, n ≤ b → h.get b = none := hf
  by_cases hlt : p < x.ini.length
  · have hlt' : (p : Int) < (x.ini.length : Int) := by omega
    have hc2 : (8 : Int) * (x.tr.length : Int) ≤ 1099511627776 := by omega
    have hc4 : (x.tr.length : Int) ≤ 1099511627776 := by omega
    have hpl : p + 1 ≤ (bs.map (fun b => AV.sl b 0 0 x.tr.length 1) ++ List.replicate (x.ini.length - p) AV.nilsl).length := by simp; omega
    have hset : ∀ k, (bs.map (fun b => AV.sl b 0 0 x.tr.length 1) ++ List.replicate (x.ini.length - p) AV.nilsl).set p (.sl k 0 0 x.tr.length 1) = (bs ++ [k]).map (fun b => AV.sl b 0 0 x.tr.length 1) ++ List.replicate (x.ini.length - (p + 1)) AV.nilsl := by
      intro k
      rw [List.set_append_right _ _ (by simp; omega)]
      have e1 : x.ini.length - p = (x.ini.length - (p + 1)) + 1 := by omega
      rw [e1, List.replicate_succ]
      simp [hbl]
    simp (maxSteps := 1000000) (disch := omega) only [hlt', h64, hc2, hc4, Int.le_refl, flat_zero, hf0, h75, hpl, hset, wordsN, Int.reduceGT, words, Nat.reduceAdd, Nat.reduceEqDiff, Nat.reduceBEq, ↓reduceIte, reduceCtorEq, SX.exit.injEq, if_true, if_false, Int.reduceAdd, Int.reduceSub, Int.reduceMul, Int.reduceLT, Int.reduceLE, Int.reduceEq, Int.reduceNe, Int.reduceNeg, Int.reduceToNat, Nat.reduceMul, Nat.reduceLT, Nat.reduceSub, Nat.reduceLeDiff]
    refine ⟨(p + 1, bs ++ [n + 1 + 1 + 1 + 1 + 1 + 1 + 1 + 1]), by simp only; omega, by repeat (first | exact Sub.nil | refine Sub.cons (by first | rfl | (rw [Int.natCast_add]; rfl)) ?_), by simp only; omega, (by repeat (first | exact Fresh.e | exact Fresh.le (by assumption) (by omega) | refine Fresh.set ?_ (by omega) (by omega))), by omega, by simp only; omega, by simp [hbl], rfl, fun b hb => ?_, ?_⟩
    · simp only [List.mem_append, List.mem_singleton] at hb
      rcases hb with hb | rfl
      · obtain ⟨q1, q2, q3⟩ := hbs b hb
        refine ⟨q1, by omega, ?_⟩
        rw [get_ne (by omega) (by omega), get_ne (by omega) (by omega)]; exact q3
      · refine ⟨by omega, by omega, ?_⟩
        rw [get_ne (by omega) (by omega), get_same (by omega)]
    · rw [List.nodup_append]
      refine ⟨hnd, by simp, fun a ha b hb => ?_⟩
      simp only [List.mem_singleton] at hb
      subst hb
      have := (hbs a ha).2.1
      omega
  have hlt' : ¬ (p : Int) < (x.ini.length : Int) := by omega
  have e : p = x.ini.length := by omega
  have hM : MatM h n 64 75 bs x.tr.length (fun p t => if t < 0 then chg x p t else 0) := by
    refine MatM.congr (f := fun _ _ => 0) ⟨?_, fun q b hb => (hbs b (List.mem_of_getElem? hb)).2.2, hnd, fun b hb => ?_, by omega, by omega⟩ (fun q t _ _ => by simp)
    · rw [h75, e]; simp
    · have := hbs b hb; exact ⟨by omega, by omega, by omega⟩
  have hbl' : bs.length = x.ini.length := by omega
  simp (maxSteps := 1000000) (disch := omega) only [hlt', h64, wordsN, Int.reduceGT, words, Nat.reduceAdd, Nat.reduceEqDiff, Nat.reduceBEq, ↓reduceIte, reduceCtorEq, SX.exit.injEq, if_true, if_false, Int.reduceAdd, Int.reduceSub, Int.reduceMul, Int.reduceLT, Int.reduceLE, Int.reduceEq, Int.reduceNe, Int.reduceNeg, Int.reduceToNat, Nat.reduceMul, Nat.reduceLT, Nat.reduceSub, Nat.reduceLeDiff]
  refine wS_loop (fun i : Nat => [(5, .sl 75 0 0 x.ini.length 1), (36, tns x.tr), (37, .int .i64 x.tr.length), (38, .int .i64 i)])
    (fun i h n => i ≤ x.tr.length ∧ MatM h n 64 75 bs x.tr.length (fun p t => if t < i then chg x p t else 0) ∧ Fresh n h ∧ 75 < n ∧ n ≤ 10000 + i * 1000000) (fun i => x.tr.length - i) 0 (by repeat (first | exact Sub.nil | refine Sub.cons (by first | rfl | (rw [Int.natCast_add]; rfl)) ?_)) ⟨Nat.zero_le _, hM.keep (by omega) (fun _ _ _ => rfl), hf.le (by omega), by omega, by omega⟩ ?_
  clear hM hf hf0 hn0 hn h75 hbs hlt' h64 hlt hi
  rintro i h n ⟨hi, hM, hf, hn0, hn⟩
  have hf0 : ∀ b, n ≤ b → h.get b = none := hf
  by_cases hlt : i < x.tr.length
  · obtain ⟨t, htt⟩ := get_ex hlt
    have hlt' : (i : Int) < (x.tr.length : Int) := by omega
    have hd := drop_tns htt
    have hm := List.mem_of_getElem? htt
    have hin := ho.inn t hm
    have hout := ho.out t hm
    have hbn : ∀ b ∈ bs, b < n := fun b hb => (hM.bnd b hb).2.1
    have hil := hin.len
    simp (maxSteps := 1000000) (disch := omega) only [hlt', hd, hf0, wordsN, Int.reduceGT, words, Nat.reduceAdd, Nat.reduceEqDiff, Nat.reduceBEq, ↓reduceIte, reduceCtorEq, SX.exit.injEq, if_true, if_false, Int.reduceAdd, Int.reduceSub, Int.reduceMul, Int.reduceLT, Int.reduceLE, Int.reduceEq, Int.reduceNe, Int.reduceNeg, Int.reduceToNat, Nat.reduceMul, Nat.reduceLT, Nat.reduceSub, Nat.reduceLeDiff]
    refine wS_loop (fun j : Nat => [(5, .sl 75 0 0 x.ini.length 1), (36, tns x.tr), (37, .int .i64 x.tr.length), (38, .int .i64 i), (7, .int .i64 i), (8, .ptr (n + 1 + 1 + 1 + 1) 0 0), (44, arcs t.inn), (45, .int .i64 t.inn.length), (46, .int .i64 j)])
      (fun j h2 n2 => j ≤ t.inn.length ∧ h2.get (n + 1 + 1 + 1 + 1) = some (.cells 0 [.int .i64 t.ev, arcs t.inn, arcs t.out]) ∧ MatM h2 n2 64 75 bs x.tr.length (fun p tt => if tt < i then chg x p tt else if tt = i then -(sumW (t.inn.take j) p) else 0) ∧ Fresh n2 h2 ∧ n + 5 ≤ n2 ∧ n2 ≤ n + 100 + j * 100)
      (fun j => t.inn.length - j) 0 (by repeat (first | exact Sub.nil | refine Sub.cons (by first | rfl | (rw [Int.natCast_add]; rfl)) ?_)) ⟨Nat.zero_le _, get_same (by omega), (hM.keep (by omega) (fun b _ hb => by rw [get_ne (by omega) (by omega), get_ne (by omega) (by omega)])).congr (fun p tt _ _ => by simp [sumW]), (by repeat (first | exact Fresh.e | exact Fresh.le (by assumption) (by omega) | refine Fresh.set ?_ (by omega) (by omega))), by omega, by omega⟩ ?_
    rintro j h2 n2 ⟨hj, hk1, hM2, hf2, hn2, hnb2⟩
    have hf20 : ∀ b, n2 ≤ b → h2.get b = none := hf2
    by_cases hjl : j < t.inn.length
    · obtain ⟨a, ha⟩ := get_ex hjl
      have hjl' : (j : Int) < (t.inn.length : Int) := by omega
      have hda := drop_arcs ha
      obtain ⟨q1, q2, q3, q4⟩ := hin.each j a ha
      obtain ⟨P, hP⟩ : ∃ P : Nat, a.1 = (P : Int) := ⟨a.1.toNat, by omega⟩
      have hPl : P < x.ini.length := by omega
      have hPl' : (P : Int) < (x.ini.length : Int) := by omega
      obtain ⟨b, hb⟩ := get_ex (l := bs) (i := P) (by omega)
      have hbb := hM2.bnd b (List.mem_of_getElem? hb)
      have hrow := hM2.row P b hb
      have hcell : (ints ((List.range x.tr.length).map fun tt => if tt < i then chg x P tt else if tt = i then -(sumW (t.inn.take j) P) else 0))[i]? = some (.int .i64 (-(sumW (t.inn.take j) P))) := by
        simp [ints, List.getElem?_range hlt]
      have hbs2 : (bs.map fun b => AV.sl b 0 0 x.tr.length 1)[P]? = some (.sl b 0 0 x.tr.length 1) := by simp [hb]
      have hout75 := hM2.out
      have hlen1 : i + 1 ≤ (ints ((List.range x.tr.length).map fun tt => if tt < i then chg x P tt else if tt = i then -(sumW (t.inn.take j) P) else 0)).length := by simp [ints]; omega
      have hsb := sumW_bound (l := t.inn.take j) (p := P) (fun z hz => by
        obtain ⟨jz, hz1, _⟩ := mem_at (List.mem_of_mem_take hz)
        have := hin.each jz z hz1; omega)
      have hsl : (t.inn.take j).length ≤ 1000 := by simp; omega
      have hbn' := hbn b (List.mem_of_getElem? hb)
      simp (maxSteps := 1000000) (disch := omega) only [hjl', hda, hf20, hP, hPl', hbs2, hout75, hrow, hcell, hlt', hlen1, wordsN, Int.reduceGT, words, Nat.reduceAdd, Nat.reduceEqDiff, Nat.reduceBEq, ↓reduceIte, reduceCtorEq, SX.exit.injEq, if_true, if_false, Int.reduceAdd, Int.reduceSub, Int.reduceMul, Int.reduceLT, Int.reduceLE, Int.reduceEq, Int.reduceNe, Int.reduceNeg, Int.reduceToNat, Nat.reduceMul, Nat.reduceLT, Nat.reduceSub, Nat.reduceLeDiff]
      refine ⟨j + 1, by omega, by repeat (first | exact Sub.nil | refine Sub.cons (by first | rfl | (rw [Int.natCast_add]; rfl)) ?_), by omega, hk1, ?_, (by repeat (first | exact Fresh.e | exact Fresh.le (by assumption) (by omega) | refine Fresh.set ?_ (by omega) (by omega))), by omega, by omega⟩
      refine ((hM2.keep (by omega) (fun b _ hb => by rw [get_ne (by omega) (by omega), get_ne (by omega) (by omega)])).upd hb hlt (by omega) _).congr fun p' t' _ _ => ?_
      rw [sumW_take ha, hP]
      by_cases c1 : t' < i
      · have : ¬ t' = i := by omega
        simp [c1, this]
      · by_cases c2 : t' = i
        · by_cases c3 : p' = P
          · subst c3; subst c2; simp; omega
          · have : ¬ (P : Int) = (p' : Int) := by omega
            simp [c1, c2, c3, this]
        · simp [c1, c2]
    · have hjl' : ¬ (j : Int) < (t.inn.length : Int) := by omega
      have hjt : t.inn.take j = t.inn := List.take_of_length_le (by omega)
      rw [hjt] at hM2
      have hol := hout.len
      have hsb0 : ∀ p : Int, 0 ≤ sumW t.inn p ∧ sumW t.inn p ≤ 8 * t.inn.length := fun p => sumW_bound fun z hz => by
        obtain ⟨jz, hz1, _⟩ := mem_at hz
        have := hin.each jz z hz1; omega
      simp (maxSteps := 1000000) (disch := omega) only [hjl', hk1, wordsN, Int.reduceGT, words, Nat.reduceAdd, Nat.reduceEqDiff, Nat.reduceBEq, ↓reduceIte, reduceCtorEq, SX.exit.injEq, if_true, if_false, Int.reduceAdd, Int.reduceSub, Int.reduceMul, Int.reduceLT, Int.reduceLE, Int.reduceEq, Int.reduceNe, Int.reduceNeg, Int.reduceToNat, Nat.reduceMul, Nat.reduceLT, Nat.reduceSub, Nat.reduceLeDiff]
      refine wS_loop (fun j : Nat => [(5, .sl 75 0 0 x.ini.length 1), (36, tns x.tr), (37, .int .i64 x.tr.length), (38, .int .i64 i), (7, .int .i64 i), (64, arcs t.out), (65, .int .i64 t.out.length), (66, .int .i64 j)])
        (fun j h3 n3 => j ≤ t.out.length ∧ MatM h3 n3 64 75 bs x.tr.length (fun p tt => if tt < i then chg x p tt else if tt = i then -(sumW t.inn p) + sumW (t.out.take j) p else 0) ∧ Fresh n3 h3 ∧ n2 ≤ n3 ∧ n3 ≤ n2 + 100 + j * 100)
        (fun j => t.out.length - j) 0 (by repeat (first | exact Sub.nil | refine Sub.cons (by first | rfl | (rw [Int.natCast_add]; rfl)) ?_)) ⟨Nat.zero_le _, (hM2.keep (by omega) (fun b _ hb => rfl)).congr (fun p tt _ _ => by simp [sumW]), hf2.le (by omega), by omega, by omega⟩ ?_
      rintro j3 h3 n3 ⟨hj3, hM3, hf3, hn3, hnb3⟩
      have hf30 : ∀ b, n3 ≤ b → h3.get b = none := hf3
      by_cases hjl3 : j3 < t.out.length
      · obtain ⟨a, ha⟩ := get_ex hjl3
        have hjl3' : (j3 : Int) < (t.out.length : Int) := by omega
        have hda := drop_arcs ha
        obtain ⟨q1, q2, q3, q4⟩ := hout.each j3 a ha
        obtain ⟨P, hP⟩ : ∃ P : Nat, a.1 = (P : Int) := ⟨a.1.toNat, by omega⟩
        have hPl : P < x.ini.length := by omega
        have hPl' : (P : Int) < (x.ini.length : Int) := by omega
        obtain ⟨b, hb⟩ := get_ex (l := bs) (i := P) (by omega)
        have hbb := hM3.bnd b (List.mem_of_getElem? hb)
        have hrow := hM3.row P b hb
        have hcell : (ints ((List.range x.tr.length).map fun tt => if tt < i then chg x P tt else if tt = i then -(sumW t.inn P) + sumW (t.out.take j3) P else 0))[i]? = some (.int .i64 (-(sumW t.inn P) + sumW (t.out.take j3) P)) := by
          simp [ints, List.getElem?_range hlt]
        have hbs2 : (bs.map fun b => AV.sl b 0 0 x.tr.length 1)[P]? = some (.sl b 0 0 x.tr.length 1) := by simp [hb]
        have hout75 := hM3.out
        have hlen1 : i + 1 ≤ (ints ((List.range x.tr.length).map fun tt => if tt < i then chg x P tt else if tt = i then -(sumW t.inn P) + sumW (t.out.take j3) P else 0)).length := by simp [ints]; omega
        have hsb := sumW_bound (l := t.out.take j3) (p := P) (fun z hz => by
          obtain ⟨jz, hz1, _⟩ := mem_at (List.mem_of_mem_take hz)
          have := hout.each jz z hz1; omega)
        have hsl : (t.out.take j3).length ≤ 1000 := by simp; omega
        have hs0 := hsb0 P
        have hbn' := hbn b (List.mem_of_getElem? hb)
        simp (maxSteps := 1000000) (disch := omega) only [hjl3', hda, hf30, hP, hPl', hbs2, hout75, hrow, hcell, hlt', hlen1, wordsN, Int.reduceGT, words, Nat.reduceAdd, Nat.reduceEqDiff, Nat.reduceBEq, ↓reduceIte, reduceCtorEq, SX.exit.injEq, if_true, if_false, Int.reduceAdd, Int.reduceSub, Int.reduceMul, Int.reduceLT, Int.reduceLE, Int.reduceEq, Int.reduceNe, Int.reduceNeg, Int.reduceToNat, Nat.reduceMul, Nat.reduceLT, Nat.reduceSub, Nat.reduceLeDiff]
        refine ⟨j3 + 1, by omega, by repeat (first | exact Sub.nil | refine Sub.cons (by first | rfl | (rw [Int.natCast_add]; rfl)) ?_), by omega, ?_, (by repeat (first | exact Fresh.e | exact Fresh.le (by assumption) (by omega) | refine Fresh.set ?_ (by omega) (by omega))), by omega, by omega⟩
        refine ((hM3.keep (by omega) (fun b _ hb => by rw [get_ne (by omega) (by omega), get_ne (by omega) (by omega)])).upd hb hlt (by omega) _).congr fun p' t' _ _ => ?_
        rw [sumW_take ha, hP]
        by_cases c1 : t' < i
        · have : ¬ t' = i := by omega
          simp [c1, this]
        · by_cases c2 : t' = i
          · by_cases c3 : p' = P
            · subst c3; subst c2; simp; omega
            · have : ¬ (P : Int) = (p' : Int) := by omega
              simp [c1, c2, c3, this]
          · simp [c1, c2]
      · have hjl3' : ¬ (j3 : Int) < (t.out.length : Int) := by omega
        have hjt3 : t.out.take j3 = t.out := List.take_of_length_le (by omega)
        rw [hjt3] at hM3
        simp (maxSteps := 1000000) (disch := omega) only [hjl3', wordsN, Int.reduceGT, words, Nat.reduceAdd, Nat.reduceEqDiff, Nat.reduceBEq, ↓reduceIte, reduceCtorEq, SX.exit.injEq, if_true, if_false, Int.reduceAdd, Int.reduceSub, Int.reduceMul, Int.reduceLT, Int.reduceLE, Int.reduceEq, Int.reduceNe, Int.reduceNeg, Int.reduceToNat, Nat.reduceMul, Nat.reduceLT, Nat.reduceSub, Nat.reduceLeDiff]
        refine ⟨i + 1, by omega, by repeat (first | exact Sub.nil | refine Sub.cons (by first | rfl | (rw [Int.natCast_add]; rfl)) ?_), by omega, (hM3.keep (by omega) (fun b _ hb => rfl)).congr (fun p' t' _ _ => ?_), hf3.le (by omega), by omega, by omega⟩
        by_cases c1 : t' < i
        · have : t' < i + 1 := by omega
          simp [c1, this]
        · by_cases c2 : t' = i
          · subst c2
            simp [chg, htt]; omega
          · have : ¬ t' < i + 1 := by omega
            simp [c1, c2, this]
  · have hlt' : ¬ (i : Int) < (x.tr.length : Int) := by omega
    have e2 : i = x.tr.length := by omega
    simp (maxSteps := 1000000) (disch := omega) only [hlt', wordsN, Int.reduceGT, words, Nat.reduceAdd, Nat.reduceEqDiff, Nat.reduceBEq, ↓reduceIte, reduceCtorEq, SX.exit.injEq, if_true, if_false, Int.reduceAdd, Int.reduceSub, Int.reduceMul, Int.reduceLT, Int.reduceLE, Int.reduceEq, Int.reduceNe, Int.reduceNeg, Int.reduceToNat, Nat.reduceMul, Nat.reduceLT, Nat.reduceSub, Nat.reduceLeDiff]
    refine ⟨by simp, _, rfl, ?_⟩
    have hF : FrzTo h (.sl 75 0 0 x.ini.length 1) (lsts (incM x)) := by
      have hl2 : (incM x).length = x.ini.length := by simp [incM]
      rw [lsts, hl2]
      refine FrzTo.sl hM.out (by simp [hbl']) ?_
      rw [List.drop_zero, List.take_of_length_le (by simp [hbl'])]
      refine FrzL.of_get (by simp [hbl', hl2]) fun q u v h1 h2 => ?_
      have hq : q < bs.length := by
        have := (List.getElem?_eq_some_iff.1 h1).1
        simpa using this
      obtain ⟨b, hb⟩ := get_ex hq
      have hr := hM.row q b hb
      have e3 : (List.range x.tr.length).map (fun t => if t < i then chg x q t else 0) = incR x q := by
        rw [incR_chg ho]
        refine List.map_congr_left fun t ht => ?_
        have : t < i := by rw [e2]; simpa using ht
        simp [this]
      rw [e3] at hr
      have e4 : u = .sl b 0 0 x.tr.length 1 := by
        simp only [List.getElem?_map, hb, Option.map_some, Option.some.injEq] at h1; exact h1.symm
      have e5 : v = sli (incR x q) := by
        simp only [List.getElem?_map, incM_get (x := x) (p := q) (by omega), Option.map_some, Option.some.injEq] at h2; exact h2.symm
      rw [e4, e5]
      have hlen := incR_len x q
      rw [sli, hlen]
      refine FrzTo.sl hr (by simp [ints, hlen]) ?_
      rw [List.drop_zero, List.take_of_length_le (by simp [ints, hlen])]
      exact FrzL.same _
    simp only [resOf, lk_cons]
    exact FrzTo.tup ⟨hF, FrzTo.same _, trivial⟩
end Go.AM.SN
namespace Go.AM.SN
open Go.Proofs
set_option maxRecDepth 100000
set_option linter.unusedSimpArgs false
set_option linter.unusedVariables false
def tabC (x : Nt) (kind : Int) : Nat := if kind = 1 then x.ini.length else x.tr.length
def tabR (x : Nt) (kind : Int) : List (List Int) := if kind = 1 then colM x else incM x
theorem noRefs_pad (R : List (List Int)) : noRefs (R.flatMap pad) = true := noRefs_flat fun r => noRefs_ints _
end Go.AM.SN
namespace Go.AM.SN
open Go.Proofs
set_option maxRecDepth 100000
set_option linter.unusedSimpArgs false
set_option linter.unusedVariables false
def flat10 (rows : Nat) (f : Nat → Nat → Int) : List AV := ints ((List.range (rows * 10)).map fun c => f (c / 10) (c % 10))
theorem flat10_len (rows : Nat) (f : Nat → Nat → Int) : (flat10 rows f).length = rows * 10 := by simp [flat10, ints]
theorem flat10_set {rows i p : Nat} (f : Nat → Nat → Int) (hi : i < rows) (hp : p < 10) (v : Int) : (flat10 rows f).set (i * 10 + p) (.int .i64 v) = flat10 rows (fun i' p' => if i' = i ∧ p' = p then v else f i' p') := by
  refine List.ext_getElem? fun j => ?_
  simp only [flat10, ints, List.getElem?_set, List.length_map, List.length_range, List.getElem?_map]
  by_cases hj : i * 10 + p = j
  · subst hj
    have h1 : (i * 10 + p) / 10 = i := by omega
    have h2 : (i * 10 + p) % 10 = p := by omega
    have h3 : i * 10 + p < rows * 10 := by omega
    simp [h3, List.getElem?_range h3, h1, h2]
  · rw [if_neg hj]
    by_cases hjr : j < rows * 10
    · have : ¬ (j / 10 = i ∧ j % 10 = p) := by omega
      simp [List.getElem?_range hjr, this]
    · simp [List.getElem?_eq_none (show (List.range (rows * 10)).length ≤ j by simp; omega)]
theorem flat10_congr {rows : Nat} {f g : Nat → Nat → Int} (h : ∀ i p, i < rows → p < 10 → f i p = g i p) : flat10 rows f = flat10 rows g := by
  unfold flat10
  congr 1
  refine List.map_congr_left fun c hc => h _ _ ?_ (by omega)
  simp only [List.mem_range] at hc
  omega
theorem flat10_succ (n : Nat) (f : Nat → Nat → Int) : flat10 (n + 1) f = ints ((List.range 10).map (f 0)) ++ flat10 n (fun i p => f (i + 1) p) := by
  unfold flat10
  rw [show (n + 1) * 10 = 10 + n * 10 by omega, List.range_add, List.map_append, ints_append, List.map_map]
  congr 2
  refine List.map_congr_left fun c _ => ?_
  simp only [Function.comp]
  rw [show (10 + c) / 10 = c / 10 + 1 by omega, show (10 + c) % 10 = c % 10 by omega]
theorem pad_range {r : List Int} (h : r.length ≤ 10) : pad r = ints ((List.range 10).map fun p => r.getD p 0) := by
  unfold pad
  congr 1
  refine List.ext_getElem? fun j => ?_
  by_cases hj : j < r.length
  · obtain ⟨y, hy⟩ := get_ex hj
    rw [List.getElem?_append_left hj, hy, List.getElem?_map, List.getElem?_range (by omega)]
    simp [List.getD_eq_getElem?_getD, hy]
  · rw [List.getElem?_append_right (by omega), List.getElem?_map]
    by_cases hj2 : j < 10
    · rw [List.getElem?_range hj2, List.getElem?_replicate]
      simp [List.getD_eq_getElem?_getD, List.getElem?_eq_none (show r.length ≤ j by omega)]
      omega
    · rw [List.getElem?_replicate, List.getElem?_eq_none (show (List.range 10).length ≤ j by simp; omega)]
      simp; omega
theorem flat10_tab {R : List (List Int)} (hR : ∀ r ∈ R, r.length ≤ 10) : R.flatMap pad = flat10 R.length (fun i p => (R.getD i []).getD p 0) := by
  induction R with
  | nil => rfl
  | cons r R ih =>
    rw [List.flatMap_cons, List.length_cons, flat10_succ, ih fun q hq => hR q (by simp [hq]), pad_range (hR r (by simp))]
    rfl
end Go.AM.SN
namespace Go.AM.SN
open Go.Proofs
set_option maxRecDepth 100000
set_option linter.unusedSimpArgs false
set_option linter.unusedVariables false
theorem flat10_zero (rows : Nat) : (List.replicate rows [AV.int .i64 0, .int .i64 0, .int .i64 0, .int .i64 0, .int .i64 0, .int .i64 0, .int .i64 0, .int .i64 0, .int .i64 0, .int .i64 0]).flatten = flat10 rows (fun _ _ => 0) := by
  induction rows with
  | zero => rfl
  | succ n ih => rw [List.replicate_succ, List.flatten_cons, ih, flat10_succ]; rfl
theorem incR_bound {x : Nt} (ho : NetOk x) (p : Nat) : ∀ y ∈ incR x p, -8 ≤ y ∧ y ≤ 8 := by
  intro y hy
  simp only [incR, List.mem_map] at hy
  obtain ⟨t, ht, rfl⟩ := hy
  have h1 := weightR_bound (ho.inn t ht) p
  have h2 := weightR_bound (ho.out t ht) p
  omega
set_option maxHeartbeats 8000000 in
theorem newTable1 (x : Nt) (ho : NetOk x) : PSpec Try.prog 39 [netV x, .int .i64 1] (.tup [tabV (tabC x 1) (tabR x 1), .int .i64 0]) := by
  refine PSpec.of_frz 64 ok39 rfl (by rw [noRefs, noRef_net]; rfl) (by simp only [noRef, noRefs, noRefs_pad]; rfl) ?_
  have hp := ho.places
  have ht := ho.trans
  have hfe : ∀ b, Tr.get (α := Blk) .e b = none := fun b => by simp [Tr.get]
  simp (maxSteps := 1000000) (disch := omega) only [s39, hfe, wordsN, Int.reduceGT, words, Nat.reduceAdd, Nat.reduceEqDiff, Nat.reduceBEq, ↓reduceIte, reduceCtorEq, SX.exit.injEq, if_true, if_false, Int.reduceAdd, Int.reduceSub, Int.reduceMul, Int.reduceLT, Int.reduceLE, Int.reduceEq, Int.reduceNe, Int.reduceNeg, Int.reduceToNat, Nat.reduceMul, Nat.reduceLT, Nat.reduceSub, Nat.reduceLeDiff]
  refine cp (netIncidence x ho) ?_
  have hc1 : (80 : Int) * (x.tr.length : Int) ≤ 1099511627776 := by omega
  have hc3 : (x.tr.length : Int) ≤ 1099511627776 := by omega
  simp (maxSteps := 1000000) (disch := omega) only [hfe, hc1, hc3, flat10_zero, Int.le_refl, wordsN, Int.reduceGT, words, Nat.reduceAdd, Nat.reduceEqDiff, Nat.reduceBEq, ↓reduceIte, reduceCtorEq, SX.exit.injEq, if_true, if_false, Int.reduceAdd, Int.reduceSub, Int.reduceMul, Int.reduceLT, Int.reduceLE, Int.reduceEq, Int.reduceNe, Int.reduceNeg, Int.reduceToNat, Nat.reduceMul, Nat.reduceLT, Nat.reduceSub, Nat.reduceLeDiff]
  have hil : (incM x).length = x.ini.length := by simp [incM]
  refine wS_loop (fun p : Nat => [(1, .int .i64 1), (4, .ptr 65 0 0), (8, .ptr 90 0 0), (47, lsts (incM x)), (48, .int .i64 (incM x).length), (49, .int .i64 p)])
    (fun p h n => p ≤ x.ini.length ∧ h.get 65 = some (.cells 0 [.int .i64 0, .nilsl]) ∧ h.get 90 = some (.cells 0 [.int .i64 x.ini.length, .sl 88 0 0 x.tr.length 10]) ∧ h.get 88 = some (.cells 0 (flat10 x.tr.length fun i q => if q < p then (incR x q).getD i 0 else 0)))
    (fun p => x.ini.length - p) 0 (by repeat (first | exact Sub.nil | refine Sub.cons (by first | rfl | (rw [Int.natCast_add]; rfl)) ?_)) ⟨Nat.zero_le _, by rw [get_ne (by omega) (by omega), get_ne (by omega) (by omega), get_ne (by omega) (by omega), get_same (by omega)], get_same (by omega), by rw [get_ne (by omega) (by omega), get_ne (by omega) (by omega), get_same (by omega)]; simp⟩ ?_
  rintro p h n ⟨hi, h65, h90, h88⟩
  by_cases hlt : p < x.ini.length
  · have hlt' : (p : Int) < ((incM x).length : Int) := by rw [hil]; omega
    have hrow := incM_get hlt
    simp (maxSteps := 1000000) (disch := omega) only [hlt', head_lsts hrow, wordsN, Int.reduceGT, words, Nat.reduceAdd, Nat.reduceEqDiff, Nat.reduceBEq, ↓reduceIte, reduceCtorEq, SX.exit.injEq, if_true, if_false, Int.reduceAdd, Int.reduceSub, Int.reduceMul, Int.reduceLT, Int.reduceLE, Int.reduceEq, Int.reduceNe, Int.reduceNeg, Int.reduceToNat, Nat.reduceMul, Nat.reduceLT, Nat.reduceSub, Nat.reduceLeDiff]
    refine wS_loop (fun k : Nat => [(1, .int .i64 1), (4, .ptr 65 0 0), (8, .ptr 90 0 0), (47, lsts (incM x)), (48, .int .i64 (incM x).length), (49, .int .i64 p), (9, .int .i64 p), (54, sli (incR x p)), (55, .int .i64 (incR x p).length), (56, .int .i64 k)])
      (fun k h n => k ≤ x.tr.length ∧ h.get 65 = some (.cells 0 [.int .i64 0, .nilsl]) ∧ h.get 90 = some (.cells 0 [.int .i64 x.ini.length, .sl 88 0 0 x.tr.length 10]) ∧ h.get 88 = some (.cells 0 (flat10 x.tr.length fun i q => if q < p then (incR x q).getD i 0 else if q = p ∧ i < k then (incR x q).getD i 0 else 0)))
      (fun k => x.tr.length - k) 0 (by repeat (first | exact Sub.nil | refine Sub.cons (by first | rfl | (rw [Int.natCast_add]; rfl)) ?_)) ⟨Nat.zero_le _, h65, h90, by rw [h88]; simp⟩ ?_
    clear h65 h90 h88
    rintro k h n ⟨hk, h65, h90, h88⟩
    by_cases hkl : k < x.tr.length
    · obtain ⟨y, hy⟩ := get_ex (l := incR x p) (i := k) (by rw [incR_len]; exact hkl)
      have hkl' : (k : Int) < ((incR x p).length : Int) := by rw [incR_len]; omega
      have hkl2 : (k : Int) < (x.tr.length : Int) := by omega
      have hp10 : (p : Int) < 10 := by omega
      have hle : k * 10 + p + 1 ≤ (flat10 x.tr.length fun i q => if q < p then (incR x q).getD i 0 else if q = p ∧ i < k then (incR x q).getD i 0 else 0).length := by rw [flat10_len]; omega
      have hset := flat10_set (fun i q => if q < p then (incR x q).getD i 0 else if q = p ∧ i < k then (incR x q).getD i 0 else 0) hkl (show p < 10 by omega) y
      have hyb := incR_bound ho p y (List.mem_of_getElem? hy)
      simp (maxSteps := 1000000) (disch := omega) only [hkl', hkl2, hp10, head_ints hy, h90, h88, hle, hset, wordsN, Int.reduceGT, words, Nat.reduceAdd, Nat.reduceEqDiff, Nat.reduceBEq, ↓reduceIte, reduceCtorEq, SX.exit.injEq, if_true, if_false, Int.reduceAdd, Int.reduceSub, Int.reduceMul, Int.reduceLT, Int.reduceLE, Int.reduceEq, Int.reduceNe, Int.reduceNeg, Int.reduceToNat, Nat.reduceMul, Nat.reduceLT, Nat.reduceSub, Nat.reduceLeDiff]
      refine ⟨k + 1, by omega, by repeat (first | exact Sub.nil | refine Sub.cons (by first | rfl | (rw [Int.natCast_add]; rfl)) ?_), by omega, h65, congrArg (fun c => some (Blk.cells 0 c)) (flat10_congr fun i' p' _ _ => ?_)⟩
      by_cases c1 : p' = p
      · subst c1
        by_cases c2 : i' = k
        · subst c2; simp [List.getD_eq_getElem?_getD, hy]
        · have : (i' < k + 1) ↔ (i' < k) := by omega
          simp [c2, this]
      · simp [c1]
    · have hkl' : ¬ (k : Int) < ((incR x p).length : Int) := by rw [incR_len]; omega
      have e : k = x.tr.length := by omega
      simp (maxSteps := 1000000) (disch := omega) only [hkl', wordsN, Int.reduceGT, words, Nat.reduceAdd, Nat.reduceEqDiff, Nat.reduceBEq, ↓reduceIte, reduceCtorEq, SX.exit.injEq, if_true, if_false, Int.reduceAdd, Int.reduceSub, Int.reduceMul, Int.reduceLT, Int.reduceLE, Int.reduceEq, Int.reduceNe, Int.reduceNeg, Int.reduceToNat, Nat.reduceMul, Nat.reduceLT, Nat.reduceSub, Nat.reduceLeDiff]
      refine ⟨p + 1, by omega, by repeat (first | exact Sub.nil | refine Sub.cons (by first | rfl | (rw [Int.natCast_add]; rfl)) ?_), by omega, h65, h90, ?_⟩
      rw [h88]
      refine congrArg (fun c => some (Blk.cells 0 c)) (flat10_congr fun i' p' q1 _ => ?_)
      by_cases c1 : p' < p
      · have : p' < p + 1 := by omega
        simp [c1, this]
      · by_cases c2 : p' = p
        · subst c2
          have : i' < k := by omega
          simp [this]
        · have : ¬ p' < p + 1 := by omega
          simp [c1, c2, this]
  · have hlt' : ¬ (p : Int) < ((incM x).length : Int) := by rw [hil]; omega
    have e : p = x.ini.length := by omega
    simp (maxSteps := 1000000) (disch := omega) only [hlt', h90, h65, wordsN, Int.reduceGT, words, Nat.reduceAdd, Nat.reduceEqDiff, Nat.reduceBEq, ↓reduceIte, reduceCtorEq, SX.exit.injEq, if_true, if_false, Int.reduceAdd, Int.reduceSub, Int.reduceMul, Int.reduceLT, Int.reduceLE, Int.reduceEq, Int.reduceNe, Int.reduceNeg, Int.reduceToNat, Nat.reduceMul, Nat.reduceLT, Nat.reduceSub, Nat.reduceLeDiff]
    have hg : (h.set 65 (.cells 0 [.int .i64 x.ini.length, .sl 88 0 0 x.tr.length 10])).get 65 = some (.cells 0 [.int .i64 x.ini.length, .sl 88 0 0 x.tr.length 10]) := get_same (by omega)
    refine ⟨by simp, [.agg [.int .i64 x.ini.length, .sl 88 0 0 x.tr.length 10], .int .i64 0], by simp [resV, lk_cons, aLoad, HM.cells, HM.run, hg], ?_⟩
    have h88' : (h.set 65 (.cells 0 [.int .i64 x.ini.length, .sl 88 0 0 x.tr.length 10])).get 88 = some (.cells 0 ((colM x).flatMap pad)) := by
      have hcl : (colM x).length = x.tr.length := by simp [colM]
      rw [get_ne (by omega) (by omega), h88, flat10_tab (fun r hr => by simp only [colM, List.mem_map] at hr; obtain ⟨t, _, rfl⟩ := hr; rw [colR_len]; omega), hcl]
      refine congrArg (fun c => some (Blk.cells 0 c)) (flat10_congr fun i' p' q1 q2 => ?_)
      have e1 : (colM x).getD i' [] = colR x i' := by simp [colM, List.getD_eq_getElem?_getD, List.getElem?_range q1]
      rw [e1]
      by_cases c1 : p' < p
      · have c2 : p' < x.ini.length := by omega
        simp [c1, colR, List.getD_eq_getElem?_getD, List.getElem?_range c2]
      · have c2 : ¬ p' < x.ini.length := by omega
        simp [c1, colR, List.getD_eq_getElem?_getD, List.getElem?_eq_none (show (List.range x.ini.length).length ≤ p' by simp; omega)]
    have hcl : (colM x).length = x.tr.length := by simp [colM]
    simp only [resOf, tabV, tabC, tabR, if_true]
    refine FrzTo.tup ⟨FrzTo.agg ⟨FrzTo.same _, ?_, trivial⟩, FrzTo.same _, trivial⟩
    rw [hcl]
    refine FrzTo.sl h88' ?_ ?_
    · rw [flat10_tab (fun r hr => by simp only [colM, List.mem_map] at hr; obtain ⟨t, _, rfl⟩ := hr; rw [colR_len]; omega), flat10_len, hcl]; omega
    · rw [List.drop_zero, List.take_of_length_le (by rw [flat10_tab (fun r hr => by simp only [colM, List.mem_map] at hr; obtain ⟨t, _, rfl⟩ := hr; rw [colR_len]; omega), flat10_len, hcl]; omega)]
      exact FrzL.same _
end Go.AM.SN
namespace Go.AM.SN
open Go.Proofs
set_option maxRecDepth 100000
set_option linter.unusedSimpArgs false
set_option linter.unusedVariables false
theorem ints_len (l : List Int) : (ints l).length = l.length := by simp [ints]
theorem lenW : type_of% @List.length_map.{0, 0} ∧ type_of% @List.length_append.{0} ∧ type_of% @List.length_cons.{0} ∧ type_of% @List.length_nil.{0} ∧ type_of% @ints_len := ⟨@List.length_map.{0, 0}, @List.length_append.{0}, @List.length_cons.{0}, @List.length_nil.{0}, @ints_len⟩
theorem _root_.Go.AM.au0 {p : Prop} (h : p := by repeat (first | exact RO.zero | exact RO.e | refine RO.set rfl ?_)) : p := h
theorem _root_.Go.AM.au1 {p : Prop} (h : p := by repeat (first | exact RT.nil | (refine RT.cons ?_ ?_; · (first | exact Rn.any | exact Rn.x1 rfl rfl | exact Rn.x2 rfl rfl | exact Rn.x3 rfl rfl | exact Rn.x4 rfl rfl | exact Rn.x5 rfl | exact Rn.x6 rfl | exact Rn.x7 rfl | (refine Rn.slot ?_ ?_; (first | rfl | (rw [Int.natCast_add]; rfl)); (first | rfl | (simp only [noRef, noRefs, noRefs_append, noRefs_ints, noRefs_lsts, noRefs_pad, noRef_arcs, noRef_tns, Bool.and_self, Bool.and_true, Bool.true_and]; done))) | (refine Rn.fn ?_ ?_ <;> (repeat' (first | exact RnL.nil | refine RnL.cons ?_ ?_ | exact Rn.same rfl | exact Rn.x6 rfl | exact Rn.x2 rfl rfl | exact Rn.x5 rfl | exact Rn.x1 rfl rfl))))))) : p := h
set_option maxHeartbeats 8000000 in
theorem newTable2 (x : Nt) (ho : NetOk x) : PSpec Try.prog 39 [netV x, .int .i64 2] (.tup [tabV (tabC x 2) (tabR x 2), .int .i64 0]) := by
  refine PSpec.of_rn 64 ok39 rfl (by rw [noRefs, noRef_net]; rfl) (by simp only [noRef, noRefs, noRefs_pad]; rfl) ?_
  have hp := ho.places
  have ht := ho.trans
  simp (maxSteps := 1000000) (disch := first | omega | (simp only [lenW] <;> omega)) only [s39, wordsN, Int.reduceGT, wordsR, ne_eq, words, Nat.reduceAdd, Nat.reduceEqDiff, Nat.reduceBEq, ↓reduceIte, reduceCtorEq, SX.exit.injEq, if_true, if_false, Int.reduceAdd, Int.reduceSub, Int.reduceMul, Int.reduceLT, Int.reduceLE, Int.reduceEq, Int.reduceNe, Int.reduceNeg, Int.reduceToNat, Nat.reduceMul, Nat.reduceLT, Nat.reduceSub, Nat.reduceLeDiff]
  refine cp (netIncidence x ho) ?_
  have hc1 : (80 : Int) * (x.tr.length : Int) ≤ 1099511627776 := by omega
  have hc3 : (x.tr.length : Int) ≤ 1099511627776 := by omega
  have hc4 : (80 : Int) * (x.ini.length : Int) ≤ 1099511627776 := by omega
  have hc5 : (x.ini.length : Int) ≤ 1099511627776 := by omega
  simp (maxSteps := 1000000) (disch := first | omega | (simp only [lenW] <;> omega)) only [hc1, hc3, hc4, hc5, flat10_zero, wordsN, Int.reduceGT, wordsR, ne_eq, words, Nat.reduceAdd, Nat.reduceEqDiff, Nat.reduceBEq, ↓reduceIte, reduceCtorEq, SX.exit.injEq, if_true, if_false, Int.reduceAdd, Int.reduceSub, Int.reduceMul, Int.reduceLT, Int.reduceLE, Int.reduceEq, Int.reduceNe, Int.reduceNeg, Int.reduceToNat, Nat.reduceMul, Nat.reduceLT, Nat.reduceSub, Nat.reduceLeDiff]
  have hil : (incM x).length = x.ini.length := by simp [incM]
  refine wS_loopR 200 (fun p : Nat => [(1, .int .i64 2), (4, .ptr 65 0 0), (8, .ptr 90 0 0), (47, lsts (incM x)), (48, .int .i64 (incM x).length), (49, .int .i64 p)])
    (fun p => [(65, .cells 0 [.int .i64 0, .nilsl]), (90, .cells 0 [.int .i64 x.tr.length, .sl 100 0 0 x.ini.length 10]), (100, .cells 0 (flat10 x.ini.length fun i q => if i < p then (incR x i).getD q 0 else 0))])
    (fun p => p ≤ x.ini.length) (fun p => x.ini.length - p) 0 ?_ (Nat.zero_le _) ?_
  · refine ⟨[(65, .blk 65 0), (90, .blk 90 0), (100, .blk 100 0)], rfl, au0, ?_, au1⟩
    refine RB.cells rfl rfl rfl ?_ (RB.cells rfl rfl rfl ?_ (RB.cells rfl rfl rfl (RnL.eq (flat10_congr fun i q _ _ => if_neg (Nat.not_lt_zero _)) (noRefs_ints _)) RB.nil)) <;> repeat' (first | exact RB.nil | (refine RnL.same ?_; first | rfl | (simp only [noRef, noRefs, noRefs_append, noRefs_ints, noRefs_lsts, noRefs_pad, noRef_arcs, noRef_tns, Bool.and_self, Bool.and_true, Bool.true_and]; done)) | exact RnM.keyM rfl | exact RnL.nil | refine RnL.cons ?_ ?_ | (refine Rn.same ?_; first | rfl | (simp only [noRef, noRefs, noRefs_append, noRefs_ints, noRefs_lsts, noRefs_pad, noRef_arcs, noRef_tns, Bool.and_self, Bool.and_true, Bool.true_and]; done)) | exact Rn.x1 rfl rfl | exact Rn.x2 rfl rfl | exact Rn.x3 rfl rfl | exact Rn.x4 rfl rfl | exact Rn.x5 rfl | exact Rn.x6 rfl | exact Rn.x7 rfl | refine RB.newnil rfl rfl ?_ | refine RB.cells rfl rfl rfl ?_ ?_ | refine RB.map rfl rfl rfl ?_ ?_ | refine RB.cellsB rfl rfl ?_ ?_ | refine RB.mapB rfl rfl ?_ ?_)
  intro p hi
  by_cases hlt : p < x.ini.length
  · have hlt' : p < (incM x).length := by rw [hil]; omega
    have hrow := incM_get hlt
    simp (maxSteps := 1000000) (disch := first | omega | (simp only [lenW] <;> omega)) only [hlt', head_lsts hrow, wordsN, Int.reduceGT, wordsR, ne_eq, words, Nat.reduceAdd, Nat.reduceEqDiff, Nat.reduceBEq, ↓reduceIte, reduceCtorEq, SX.exit.injEq, if_true, if_false, Int.reduceAdd, Int.reduceSub, Int.reduceMul, Int.reduceLT, Int.reduceLE, Int.reduceEq, Int.reduceNe, Int.reduceNeg, Int.reduceToNat, Nat.reduceMul, Nat.reduceLT, Nat.reduceSub, Nat.reduceLeDiff]
    refine wS_loopR 300 (fun k : Nat => [(1, .int .i64 2), (4, .ptr 65 0 0), (8, .ptr 90 0 0), (47, lsts (incM x)), (48, .int .i64 (incM x).length), (49, .int .i64 p), (9, .int .i64 p), (54, sli (incR x p)), (55, .int .i64 (incR x p).length), (56, .int .i64 k)])
      (fun k => [(65, .cells 0 [.int .i64 0, .nilsl]), (90, .cells 0 [.int .i64 x.tr.length, .sl 100 0 0 x.ini.length 10]), (100, .cells 0 (flat10 x.ini.length fun i q => if i < p then (incR x i).getD q 0 else if i = p ∧ q < k then (incR x i).getD q 0 else 0))])
      (fun k => k ≤ x.tr.length) (fun k => x.tr.length - k) 0 ?_ (Nat.zero_le _) ?_
    · refine ⟨[(65, .blk 65 0), (90, .blk 90 0), (100, .blk 100 0)], rfl, au0, ?_, au1⟩
      refine RB.cells rfl rfl rfl ?_ (RB.cells rfl rfl rfl ?_ (RB.cells rfl rfl rfl (RnL.eq (flat10_congr fun i q _ _ => by simp) (noRefs_ints _)) RB.nil)) <;> repeat' (first | exact RB.nil | (refine RnL.same ?_; first | rfl | (simp only [noRef, noRefs, noRefs_append, noRefs_ints, noRefs_lsts, noRefs_pad, noRef_arcs, noRef_tns, Bool.and_self, Bool.and_true, Bool.true_and]; done)) | exact RnM.keyM rfl | exact RnL.nil | refine RnL.cons ?_ ?_ | (refine Rn.same ?_; first | rfl | (simp only [noRef, noRefs, noRefs_append, noRefs_ints, noRefs_lsts, noRefs_pad, noRef_arcs, noRef_tns, Bool.and_self, Bool.and_true, Bool.true_and]; done)) | exact Rn.x1 rfl rfl | exact Rn.x2 rfl rfl | exact Rn.x3 rfl rfl | exact Rn.x4 rfl rfl | exact Rn.x5 rfl | exact Rn.x6 rfl | exact Rn.x7 rfl | refine RB.newnil rfl rfl ?_ | refine RB.cells rfl rfl rfl ?_ ?_ | refine RB.map rfl rfl rfl ?_ ?_ | refine RB.cellsB rfl rfl ?_ ?_ | refine RB.mapB rfl rfl ?_ ?_)
    intro k hk
    by_cases hkl : k < x.tr.length
    · obtain ⟨y, hy⟩ := get_ex (l := incR x p) (i := k) (by rw [incR_len]; exact hkl)
      have hkl' : k < (incR x p).length := by rw [incR_len]; omega
      have hk10 : (k : Int) < 10 := by omega
      have hle : p * 10 + k + 1 ≤ (flat10 x.ini.length fun i q => if i < p then (incR x i).getD q 0 else if i = p ∧ q < k then (incR x i).getD q 0 else 0).length := by rw [flat10_len]; omega
      have hset := flat10_set (fun i q => if i < p then (incR x i).getD q 0 else if i = p ∧ q < k then (incR x i).getD q 0 else 0) hlt (show k < 10 by omega) y
      have hyb := incR_bound ho p y (List.mem_of_getElem? hy)
      simp (maxSteps := 1000000) (disch := first | omega | (simp only [lenW] <;> omega)) only [hkl', hlt, hk10, head_ints hy, hle, hset, wordsN, Int.reduceGT, wordsR, ne_eq, words, Nat.reduceAdd, Nat.reduceEqDiff, Nat.reduceBEq, ↓reduceIte, reduceCtorEq, SX.exit.injEq, if_true, if_false, Int.reduceAdd, Int.reduceSub, Int.reduceMul, Int.reduceLT, Int.reduceLE, Int.reduceEq, Int.reduceNe, Int.reduceNeg, Int.reduceToNat, Nat.reduceMul, Nat.reduceLT, Nat.reduceSub, Nat.reduceLeDiff]
      refine ⟨k + 1, by omega, by omega, ?_⟩
      refine ⟨[(65, .blk 65 0), (90, .blk 90 0), (100, .blk 100 0)], rfl, au0, ?_, au1⟩
      refine RB.cells rfl rfl rfl ?_ (RB.cells rfl rfl rfl ?_ (RB.cells rfl rfl rfl (RnL.eq (flat10_congr fun i q _ _ => ?_) (noRefs_ints _)) RB.nil)) <;> try repeat' (first | exact RB.nil | (refine RnL.same ?_; first | rfl | (simp only [noRef, noRefs, noRefs_append, noRefs_ints, noRefs_lsts, noRefs_pad, noRef_arcs, noRef_tns, Bool.and_self, Bool.and_true, Bool.true_and]; done)) | exact RnM.keyM rfl | exact RnL.nil | refine RnL.cons ?_ ?_ | (refine Rn.same ?_; first | rfl | (simp only [noRef, noRefs, noRefs_append, noRefs_ints, noRefs_lsts, noRefs_pad, noRef_arcs, noRef_tns, Bool.and_self, Bool.and_true, Bool.true_and]; done)) | exact Rn.x1 rfl rfl | exact Rn.x2 rfl rfl | exact Rn.x3 rfl rfl | exact Rn.x4 rfl rfl | exact Rn.x5 rfl | exact Rn.x6 rfl | exact Rn.x7 rfl | refine RB.newnil rfl rfl ?_ | refine RB.cells rfl rfl rfl ?_ ?_ | refine RB.map rfl rfl rfl ?_ ?_ | refine RB.cellsB rfl rfl ?_ ?_ | refine RB.mapB rfl rfl ?_ ?_)
      by_cases c1 : i = p
      · subst c1
        by_cases c2 : q = k
        · subst c2; simp [List.getD_eq_getElem?_getD, hy]
        · have : (q < k + 1) ↔ (q < k) := by omega
          simp [c2, this]
      · simp [c1]
    · have hkl' : ¬ k < (incR x p).length := by rw [incR_len]; omega
      have e : k = x.tr.length := by omega
      simp (maxSteps := 1000000) (disch := first | omega | (simp only [lenW] <;> omega)) only [hkl', wordsN, Int.reduceGT, wordsR, ne_eq, words, Nat.reduceAdd, Nat.reduceEqDiff, Nat.reduceBEq, ↓reduceIte, reduceCtorEq, SX.exit.injEq, if_true, if_false, Int.reduceAdd, Int.reduceSub, Int.reduceMul, Int.reduceLT, Int.reduceLE, Int.reduceEq, Int.reduceNe, Int.reduceNeg, Int.reduceToNat, Nat.reduceMul, Nat.reduceLT, Nat.reduceSub, Nat.reduceLeDiff]
      refine ⟨p + 1, by omega, by omega, ?_⟩
      refine ⟨[(65, .blk 65 0), (90, .blk 90 0), (100, .blk 100 0)], rfl, au0, ?_, au1⟩
      refine RB.cells rfl rfl rfl ?_ (RB.cells rfl rfl rfl ?_ (RB.cells rfl rfl rfl (RnL.eq (flat10_congr fun i q _ _ => ?_) (noRefs_ints _)) RB.nil)) <;> try repeat' (first | exact RB.nil | (refine RnL.same ?_; first | rfl | (simp only [noRef, noRefs, noRefs_append, noRefs_ints, noRefs_lsts, noRefs_pad, noRef_arcs, noRef_tns, Bool.and_self, Bool.and_true, Bool.true_and]; done)) | exact RnM.keyM rfl | exact RnL.nil | refine RnL.cons ?_ ?_ | (refine Rn.same ?_; first | rfl | (simp only [noRef, noRefs, noRefs_append, noRefs_ints, noRefs_lsts, noRefs_pad, noRef_arcs, noRef_tns, Bool.and_self, Bool.and_true, Bool.true_and]; done)) | exact Rn.x1 rfl rfl | exact Rn.x2 rfl rfl | exact Rn.x3 rfl rfl | exact Rn.x4 rfl rfl | exact Rn.x5 rfl | exact Rn.x6 rfl | exact Rn.x7 rfl | refine RB.newnil rfl rfl ?_ | refine RB.cells rfl rfl rfl ?_ ?_ | refine RB.map rfl rfl rfl ?_ ?_ | refine RB.cellsB rfl rfl ?_ ?_ | refine RB.mapB rfl rfl ?_ ?_)
      by_cases c1 : i < p
      · have : i < p + 1 := by omega
        simp [c1, this]
      · by_cases c2 : i = p
        · subst c2
          by_cases c3 : q < k
          · simp [c3]
          · simp [c3, List.getD_eq_getElem?_getD, List.getElem?_eq_none (show (incR x i).length ≤ q by rw [incR_len]; omega)]
        · have : ¬ i < p + 1 := by omega
          simp [c1, c2, this]
  · have hlt' : ¬ p < (incM x).length := by rw [hil]; omega
    have e : p = x.ini.length := by omega
    simp (maxSteps := 1000000) (disch := first | omega | (simp only [lenW] <;> omega)) only [hlt', wordsN, Int.reduceGT, wordsR, ne_eq, words, Nat.reduceAdd, Nat.reduceEqDiff, Nat.reduceBEq, ↓reduceIte, reduceCtorEq, SX.exit.injEq, if_true, if_false, Int.reduceAdd, Int.reduceSub, Int.reduceMul, Int.reduceLT, Int.reduceLE, Int.reduceEq, Int.reduceNe, Int.reduceNeg, Int.reduceToNat, Nat.reduceMul, Nat.reduceLT, Nat.reduceSub, Nat.reduceLeDiff]
    have hf : (flat10 x.ini.length fun i q => if i < p then (incR x i).getD q 0 else 0) = (incM x).flatMap pad := by
      rw [flat10_tab (fun r hr => by simp only [incM, List.mem_map] at hr; obtain ⟨t, _, rfl⟩ := hr; rw [incR_len]; omega), hil]
      refine flat10_congr fun i q q1 _ => ?_
      have c1 : i < p := by omega
      simp [c1, incM, List.getD_eq_getElem?_getD, List.getElem?_range q1]
    refine ⟨.inr trivial, _, rfl, Rn.tup (RnL.cons (Rn.agg (RnL.cons (Rn.same rfl) (RnL.cons ?_ RnL.nil))) (RnL.cons (Rn.same rfl) RnL.nil))⟩
    have hl : x.ini.length = (tabR x 2).length := by simp [tabR, hil]
    rw [← hl]
    refine Rn.fz0 rfl (by rw [flat10_len]) (RnL.eq ?_ (noRefs_pad _))
    rw [hf]; rfl
end Go.AM.SN
namespace Go.AM.SN
open Go.Proofs
set_option maxRecDepth 100000
set_option linter.unusedSimpArgs false
set_option linter.unusedVariables false
structure Sm where
  pl : Nat
  ini : List Nat
  mv : List (List Nat)
def u8s (l : List Nat) : List AV := l.map fun n : Nat => .int .u8 (n : Int)
def smC (s : Sm) : List AV := .int .u8 s.pl :: (u8s s.ini ++ [.fsl (s.mv.flatMap u8s) s.mv.length 5])
structure SmOk (s : Sm) : Prop where
  pl : s.pl < 256
  ini : s.ini.length = 5
  inib : ∀ x ∈ s.ini, x < 256
  mv : ∀ r ∈ s.mv, r.length = 5
  mvb : ∀ r ∈ s.mv, ∀ x ∈ r, x < 256
  many : s.mv.length ≤ 9223372036854775807
theorem tm3 (n : Nat) : Int.tmod (n : Int) 3 = ((n % 3 : Nat) : Int) := rfl
theorem tm4 (n : Nat) : Int.tmod (n : Int) 4 = ((n % 4 : Nat) : Int) := rfl
theorem tm5 (n : Nat) : Int.tmod (n : Int) 5 = ((n % 5 : Nat) : Int) := rfl
theorem tm9 (n : Nat) : Int.tmod (n : Int) 9 = ((n % 9 : Nat) : Int) := rfl
theorem td3 (n : Nat) : Int.tdiv (n : Int) 3 = ((n / 3 : Nat) : Int) := rfl
theorem noRefs_u8s (l : List Nat) : noRefs (u8s l) = true := noRefs_map fun _ => rfl
theorem noRef_sm (s : Sm) : noRefs (smC s) = true := by
  simp only [smC, noRefs, noRef, noRefs_append, noRefs_u8s, Bool.true_and, Bool.and_true]
  exact noRefs_flat noRefs_u8s
def iniR (s : Sm) (p : Nat) : List Int := (List.range p).map fun q => ((s.ini.getD q 0 % 4 : Nat) : Int)
theorem iniR_len (s : Sm) (p : Nat) : (iniR s p).length = p := by simp [iniR]
theorem iniR_succ (s : Sm) (p : Nat) : iniR s (p + 1) = iniR s p ++ [((s.ini.getD p 0 % 4 : Nat) : Int)] := by simp [iniR, List.range_succ]
def arcR (row : List Nat) (f : Nat → Nat) (n : Nat) : List (Int × Int) := (List.range n).flatMap fun p => if 0 < f (row.getD p 0 % 9) then [((p : Int), ((f (row.getD p 0 % 9) : Nat) : Int))] else []
theorem arcR_succ (row : List Nat) (f : Nat → Nat) (n : Nat) : arcR row f (n + 1) = arcR row f n ++ (if 0 < f (row.getD n 0 % 9) then [((n : Int), ((f (row.getD n 0 % 9) : Nat) : Int))] else []) := by
  simp [arcR, List.range_succ]
theorem arcR_len (row : List Nat) (f : Nat → Nat) (n : Nat) : (arcR row f n).length ≤ n := by
  induction n with
  | zero => simp [arcR]
  | succ n ih => rw [arcR_succ, List.length_append]; split <;> simp <;> omega
theorem arcs_len (l : List (Int × Int)) : (l.flatMap arcC).length = l.length * 2 := by induction l with | nil => rfl | cons a l ih => simp [List.flatMap_cons, ih, arcC]; omega
theorem tns_len (l : List Tn) : (l.flatMap tnC).length = l.length * 3 := by induction l with | nil => rfl | cons a l ih => simp [List.flatMap_cons, ih, tnC]; omega
def plN (s : Sm) : Nat := 1 + s.pl % 5
def trR (s : Sm) (i : Nat) : List Tn := (List.range i).map fun (k : Nat) => ⟨(k : Int), arcR (s.mv.getD k []) (· / 3) (plN s), arcR (s.mv.getD k []) (· % 3) (plN s)⟩
theorem trR_succ (s : Sm) (i : Nat) : trR s (i + 1) = trR s i ++ [⟨(i : Int), arcR (s.mv.getD i []) (· / 3) (plN s), arcR (s.mv.getD i []) (· % 3) (plN s)⟩] := by simp [trR, List.range_succ]
theorem trR_len (s : Sm) (i : Nat) : (trR s i).length = i := by simp [trR]
def mkN (s : Sm) : Nt := ⟨iniR s (plN s), trR s (min s.mv.length 5)⟩
theorem smC_ini {s : Sm} (ho : SmOk s) {p : Nat} (hp : p < 5) : (smC s)[1 + p]? = some (.int .u8 ((s.ini.getD p 0 : Nat) : Int)) := by
  rw [Nat.add_comm, smC, List.getElem?_cons_succ, List.getElem?_append_left (by simp [u8s, ho.ini]; exact hp)]
  obtain ⟨x, hx⟩ := get_ex (l := s.ini) (i := p) (by rw [ho.ini]; exact hp)
  simp [u8s, hx, List.getD_eq_getElem?_getD]
set_option maxHeartbeats 8000000 in
theorem make (s : Sm) (ho : SmOk s) : PSpec Try.prog 13 [.agg (smC s)] (netV (mkN s)) := by
  refine PSpec.of_rn 64 ok13 rfl (by simp only [noRefs, noRef, noRef_sm]; rfl) (noRef_net _) ?_
  have hpl : s.pl % 5 < 5 := Nat.mod_lt _ (by decide)
  have hsm := noRef_sm s
  have h0 : (smC s)[0]? = some (.int .u8 s.pl) := rfl
  simp (maxSteps := 1000000) (disch := first | omega | (simp only [lenW] <;> omega)) only [s13, tm5, tm4, tm9, td3, wordsN, Int.reduceGT, wordsR, ne_eq, words, Nat.reduceAdd, Nat.reduceEqDiff, Nat.reduceBEq, ↓reduceIte, reduceCtorEq, SX.exit.injEq, if_true, if_false, Int.reduceAdd, Int.reduceSub, Int.reduceMul, Int.reduceLT, Int.reduceLE, Int.reduceEq, Int.reduceNe, Int.reduceNeg, Int.reduceToNat, Nat.reduceMul, Nat.reduceLT, Nat.reduceSub, Nat.reduceLeDiff]
  refine wS_loopX 100 (fun p : Nat => [(1, .ptr 64 0 0), (2, .ptr 65 0 0), (3, .ptr 66 0 0), (4, .int .i64 p)])
    (fun p => [(50, .cells 0 (ints (iniR s p))), (64, .cells 0 (smC s)), (65, .cells 0 [.nilsl, .nilsl]), (66, .cells 0 [.sl 50 0 0 p 1, .nilsl])])
    (fun p => p ≤ plN s) (fun p => plN s - p) 0 0 100 (fun _ : Unit => [(1, .ptr 64 0 0), (2, .ptr 65 0 0), (3, .ptr 66 0 0)]) (fun _ => [(64, .cells 0 (smC s)), (65, .cells 0 [.nilsl, .nilsl]), (66, .cells 0 [sli (iniR s (plN s)), .nilsl])]) (fun _ => True) ?_ (Nat.zero_le _) ?_ ?_
  · refine ⟨[(50, .nil), (64, .blk 64 0), (65, .blk 65 0), (66, .blk 66 0)], rfl, au0, ?_, au1⟩
    refine RB.newnil rfl rfl (RB.cells rfl rfl rfl (RnL.same hsm) ?_)
    repeat' (first | exact RB.nil | (refine RnL.same ?_; first | rfl | (simp only [noRef, noRefs, noRefs_append, noRefs_ints, noRefs_lsts, noRefs_pad, noRef_arcs, noRef_tns, Bool.and_self, Bool.and_true, Bool.true_and]; done)) | exact RnM.keyM rfl | exact RnL.nil | refine RnL.cons ?_ ?_ | (refine Rn.same ?_; first | rfl | (simp only [noRef, noRefs, noRefs_append, noRefs_ints, noRefs_lsts, noRefs_pad, noRef_arcs, noRef_tns, Bool.and_self, Bool.and_true, Bool.true_and]; done)) | exact Rn.x1 rfl rfl | exact Rn.x2 rfl rfl | exact Rn.x3 rfl rfl | exact Rn.x4 rfl rfl | exact Rn.x5 rfl | exact Rn.x6 rfl | exact Rn.x7 rfl | refine RB.newnil rfl rfl ?_ | refine RB.cells rfl rfl rfl ?_ ?_ | refine RB.map rfl rfl rfl ?_ ?_ | refine RB.cellsB rfl rfl ?_ ?_ | refine RB.mapB rfl rfl ?_ ?_)
  · intro p hp
    have hb : s.ini.getD p 0 % 4 < 4 := Nat.mod_lt _ (by decide)
    have hs := iniR_succ s p
    have hlen := iniR_len s p
    unfold plN at hp ⊢
    by_cases hlt : p < 1 + s.pl % 5
    · have hlt' : (p : Int) < 1 + ((s.pl % 5 : Nat) : Int) := by omega
      have h5 : (p : Int) < 5 := by omega
      simp (maxSteps := 1000000) (disch := first | omega | (simp only [lenW] <;> omega)) only [hlt', h5, h0, smC_ini ho, tm5, tm4, ints_len, hlen, wordsN, Int.reduceGT, wordsR, ne_eq, words, Nat.reduceAdd, Nat.reduceEqDiff, Nat.reduceBEq, ↓reduceIte, reduceCtorEq, SX.exit.injEq, if_true, if_false, Int.reduceAdd, Int.reduceSub, Int.reduceMul, Int.reduceLT, Int.reduceLE, Int.reduceEq, Int.reduceNe, Int.reduceNeg, Int.reduceToNat, Nat.reduceMul, Nat.reduceLT, Nat.reduceSub, Nat.reduceLeDiff]
      refine ⟨p + 1, by omega, by omega, ?_⟩
      refine ⟨[(50, .blk 50 1), (64, .blk 64 0), (65, .blk 65 0), (66, .blk 66 0)], rfl, au0, ?_, au1⟩
      refine RB.cells rfl rfl rfl (RnL.eq (by rw [hs, ints_append]; rfl) (noRefs_ints _)) (RB.cells rfl rfl rfl (RnL.same hsm) ?_)
      repeat' (first | exact RB.nil | (refine RnL.same ?_; first | rfl | (simp only [noRef, noRefs, noRefs_append, noRefs_ints, noRefs_lsts, noRefs_pad, noRef_arcs, noRef_tns, Bool.and_self, Bool.and_true, Bool.true_and]; done)) | exact RnM.keyM rfl | exact RnL.nil | refine RnL.cons ?_ ?_ | (refine Rn.same ?_; first | rfl | (simp only [noRef, noRefs, noRefs_append, noRefs_ints, noRefs_lsts, noRefs_pad, noRef_arcs, noRef_tns, Bool.and_self, Bool.and_true, Bool.true_and]; done)) | exact Rn.x1 rfl rfl | exact Rn.x2 rfl rfl | exact Rn.x3 rfl rfl | exact Rn.x4 rfl rfl | exact Rn.x5 rfl | exact Rn.x6 rfl | exact Rn.x7 rfl | refine RB.newnil rfl rfl ?_ | refine RB.cells rfl rfl rfl ?_ ?_ | refine RB.map rfl rfl rfl ?_ ?_ | refine RB.cellsB rfl rfl ?_ ?_ | refine RB.mapB rfl rfl ?_ ?_)
    · have hlt' : ¬ (p : Int) < 1 + ((s.pl % 5 : Nat) : Int) := by omega
      have e : p = 1 + s.pl % 5 := by omega
      simp (maxSteps := 1000000) (disch := first | omega | (simp only [lenW] <;> omega)) only [hlt', h0, tm5, wordsN, Int.reduceGT, wordsR, ne_eq, words, Nat.reduceAdd, Nat.reduceEqDiff, Nat.reduceBEq, ↓reduceIte, reduceCtorEq, SX.exit.injEq, if_true, if_false, Int.reduceAdd, Int.reduceSub, Int.reduceMul, Int.reduceLT, Int.reduceLE, Int.reduceEq, Int.reduceNe, Int.reduceNeg, Int.reduceToNat, Nat.reduceMul, Nat.reduceLT, Nat.reduceSub, Nat.reduceLeDiff]
      refine ⟨(), ?_⟩
      refine ⟨[(64, .blk 64 0), (65, .blk 65 0), (66, .blk 66 0)], rfl, au0, ?_, au1⟩
      refine RB.cells rfl rfl rfl (RnL.same hsm) (RB.cells rfl rfl rfl (RnL.same rfl) (RB.cells rfl rfl rfl (RnL.cons (Rn.fzm rfl rfl rfl ?_ ?_ (RnL.eq (by rw [e]) (noRefs_ints _))) (RnL.same rfl)) RB.nil))
      · rw [iniR_len]; exact e.symm
      · rw [ints_len, iniR_len]; omega
  rintro _ -
  simp (maxSteps := 1000000) (disch := first | omega | (simp only [lenW] <;> omega)) only [wordsN, Int.reduceGT, wordsR, ne_eq, words, Nat.reduceAdd, Nat.reduceEqDiff, Nat.reduceBEq, ↓reduceIte, reduceCtorEq, SX.exit.injEq, if_true, if_false, Int.reduceAdd, Int.reduceSub, Int.reduceMul, Int.reduceLT, Int.reduceLE, Int.reduceEq, Int.reduceNe, Int.reduceNeg, Int.reduceToNat, Nat.reduceMul, Nat.reduceLT, Nat.reduceSub, Nat.reduceLeDiff]
  refine wS_loopX 200 (fun i : Nat => [(1, .ptr 64 0 0), (2, .ptr 65 0 0), (3, .ptr 66 0 0), (5, .int .i64 i)])
    (fun i => [(51, .cells 0 ((trR s i).flatMap tnC)), (64, .cells 0 (smC s)), (65, .cells 0 [.nilsl, .nilsl]), (66, .cells 0 [sli (iniR s (plN s)), .sl 51 0 0 i 3])])
    (fun i => i ≤ min s.mv.length 5) (fun i => 5 - i) 0 2 400 (fun _ : Unit => [(2, .ptr 65 0 0), (3, .ptr 66 0 0)]) (fun _ => [(65, .cells 0 [.nilsl, .nilsl]), (66, .cells 0 [sli (mkN s).ini, tns (mkN s).tr])]) (fun _ => True) ?_ (Nat.zero_le _) ?_ ?_
  · refine ⟨[(51, .nil), (64, .blk 64 0), (65, .blk 65 0), (66, .blk 66 0)], rfl, au0, ?_, au1⟩
    refine RB.newnil rfl rfl (RB.cells rfl rfl rfl (RnL.same hsm) ?_)
    repeat' (first | exact RB.nil | (refine RnL.same ?_; first | rfl | (simp only [noRef, noRefs, noRefs_append, noRefs_ints, noRefs_lsts, noRefs_pad, noRef_arcs, noRef_tns, Bool.and_self, Bool.and_true, Bool.true_and]; done)) | exact RnM.keyM rfl | exact RnL.nil | refine RnL.cons ?_ ?_ | (refine Rn.same ?_; first | rfl | (simp only [noRef, noRefs, noRefs_append, noRefs_ints, noRefs_lsts, noRefs_pad, noRef_arcs, noRef_tns, Bool.and_self, Bool.and_true, Bool.true_and]; done)) | exact Rn.x1 rfl rfl | exact Rn.x2 rfl rfl | exact Rn.x3 rfl rfl | exact Rn.x4 rfl rfl | exact Rn.x5 rfl | exact Rn.x6 rfl | exact Rn.x7 rfl | refine RB.newnil rfl rfl ?_ | refine RB.cells rfl rfl rfl ?_ ?_ | refine RB.map rfl rfl rfl ?_ ?_ | refine RB.cellsB rfl rfl ?_ ?_ | refine RB.mapB rfl rfl ?_ ?_)
  · intro i hi
    have h6 : (smC s)[6]? = some (.fsl (s.mv.flatMap u8s) s.mv.length 5) := by
      obtain ⟨pl, ini, mv⟩ := s
      have := ho.ini
      rcases ini with _ | ⟨a0, _ | ⟨a1, _ | ⟨a2, _ | ⟨a3, _ | ⟨a4, _ | ⟨a5, l⟩⟩⟩⟩⟩⟩ <;> simp at this
      rfl
    have htr : ∀ l : List Tn, noRefs (l.flatMap tnC) = true := fun l => noRefs_flat fun t => by simp only [tnC, noRefs, noRef_arcs, Bool.and_true]; rfl
    by_cases hlt : i < s.mv.length
    · by_cases hl5 : i < 5
      · have hl5' : (i : Int) < 5 := by omega
        obtain ⟨row, hrow⟩ := get_ex hlt
        have hrl := ho.mv row (List.mem_of_getElem? hrow)
        have hrD : s.mv.getD i [] = row := by rw [List.getD_eq_getElem?_getD, hrow]; rfl
        have hd : (s.mv.flatMap u8s).drop (i * 5) = u8s row ++ (s.mv.drop (i + 1)).flatMap u8s := drop_flat' (f := u8s) (k := 5) (fun r hr => by simp [u8s, ho.mv r hr]) hrow
        simp (maxSteps := 1000000) (disch := first | omega | (simp only [lenW] <;> omega)) only [hlt, hl5', h6, wordsN, Int.reduceGT, wordsR, ne_eq, words, Nat.reduceAdd, Nat.reduceEqDiff, Nat.reduceBEq, ↓reduceIte, reduceCtorEq, SX.exit.injEq, if_true, if_false, Int.reduceAdd, Int.reduceSub, Int.reduceMul, Int.reduceLT, Int.reduceLE, Int.reduceEq, Int.reduceNe, Int.reduceNeg, Int.reduceToNat, Nat.reduceMul, Nat.reduceLT, Nat.reduceSub, Nat.reduceLeDiff]
        refine wS_loopX 300 (fun p : Nat => [(1, .ptr 64 0 0), (2, .ptr 65 0 0), (3, .ptr 66 0 0), (5, .int .i64 i), (6, .ptr 52 0 0), (7, .int .i64 p)])
          (fun p => [(51, .cells 0 ((trR s i).flatMap tnC)), (52, .cells 0 [.int .i64 i, .sl 53 0 0 (arcR row (· / 3) p).length 2, .sl 54 0 0 (arcR row (· % 3) p).length 2]), (53, .cells 0 ((arcR row (· / 3) p).flatMap arcC)), (54, .cells 0 ((arcR row (· % 3) p).flatMap arcC)), (64, .cells 0 (smC s)), (65, .cells 0 [.nilsl, .nilsl]), (66, .cells 0 [sli (iniR s (plN s)), .sl 51 0 0 i 3])])
          (fun p => p ≤ plN s) (fun p => plN s - p) 0 4 400 (fun _ : Unit => [(1, .ptr 64 0 0), (2, .ptr 65 0 0), (3, .ptr 66 0 0), (5, .int .i64 i), (6, .ptr 52 0 0)])
          (fun _ => [(51, .cells 0 ((trR s i).flatMap tnC)), (52, .cells 0 [.int .i64 i, arcs (arcR row (· / 3) (plN s)), arcs (arcR row (· % 3) (plN s))]), (64, .cells 0 (smC s)), (65, .cells 0 [.nilsl, .nilsl]), (66, .cells 0 [sli (iniR s (plN s)), .sl 51 0 0 i 3])]) (fun _ => True) ?_ (Nat.zero_le _) ?_ ?_
        · refine ⟨[(51, .blk 51 0), (52, .blk 211 0), (53, .nil), (54, .nil), (64, .blk 64 0), (65, .blk 65 0), (66, .blk 66 0)], rfl, au0, ?_, au1⟩
          refine RB.cells rfl rfl rfl (RnL.same (htr _)) (RB.cells rfl rfl rfl ?_ (RB.newnil rfl rfl (RB.newnil rfl rfl (RB.cells rfl rfl rfl (RnL.same hsm) ?_)))) <;> repeat' (first | exact RB.nil | (refine RnL.same ?_; first | rfl | (simp only [noRef, noRefs, noRefs_append, noRefs_ints, noRefs_lsts, noRefs_pad, noRef_arcs, noRef_tns, Bool.and_self, Bool.and_true, Bool.true_and]; done)) | exact RnM.keyM rfl | exact RnL.nil | refine RnL.cons ?_ ?_ | (refine Rn.same ?_; first | rfl | (simp only [noRef, noRefs, noRefs_append, noRefs_ints, noRefs_lsts, noRefs_pad, noRef_arcs, noRef_tns, Bool.and_self, Bool.and_true, Bool.true_and]; done)) | exact Rn.x1 rfl rfl | exact Rn.x2 rfl rfl | exact Rn.x3 rfl rfl | exact Rn.x4 rfl rfl | exact Rn.x5 rfl | exact Rn.x6 rfl | exact Rn.x7 rfl | refine RB.newnil rfl rfl ?_ | refine RB.cells rfl rfl rfl ?_ ?_ | refine RB.map rfl rfl rfl ?_ ?_ | refine RB.cellsB rfl rfl ?_ ?_ | refine RB.mapB rfl rfl ?_ ?_)
        · intro p hp
          have hil := iniR_len s (plN s)
          have e1 := arcR_succ row (· / 3) p
          have e2 := arcR_succ row (· % 3) p
          have l1 := arcR_len row (· / 3) p
          have l2 := arcR_len row (· % 3) p
          by_cases hpl2 : p < plN s
          · have hp5 : p < 5 := by unfold plN at hpl2; omega
            have hp5' : (p : Int) < 5 := by omega
            obtain ⟨y, hy⟩ := get_ex (l := row) (i := p) (by omega)
            have hyD : row.getD p 0 = y := by rw [List.getD_eq_getElem?_getD, hy]; rfl
            rw [hyD] at e1 e2
            have f1 := arcs_len (arcR row (· / 3) p)
            have f2 := arcs_len (arcR row (· % 3) p)
            have hld : ((u8s row ++ (s.mv.drop (i + 1)).flatMap u8s).drop p).head? = some (.int .u8 (y : Int)) := by
              rw [List.head?_drop, List.getElem?_append_left (by simp [u8s]; omega)]; simp [u8s, hy]
            have b1 : y % 9 / 3 < 3 := by omega
            have b2 : y % 9 % 3 < 3 := by omega
            have b3 : y % 9 < 9 := by omega
            have nr : ∀ l, noRefs (List.flatMap arcC l) = true := fun l => noRefs_flat fun _ => rfl
            have hfin : ∀ (A B : List (Int × Int)) (T : Tmps) (h : Heap) (ga gb k : Nat), arcR row (· / 3) (p + 1) = A → arcR row (· % 3) (p + 1) = B → lk T 1 = .ptr 64 0 0 → lk T 2 = .ptr 65 0 0 → lk T 3 = .ptr 66 0 0 → lk T 5 = .int .i64 i → lk T 6 = .ptr 52 0 0 → lk T 7 = .int .i64 (p + 1 : Nat) →
                h.get 51 = some (.cells 0 ((trR s i).flatMap tnC)) → h.get 52 = some (.cells 0 [.int .i64 i, .sl 53 ga 0 A.length 2, .sl 54 gb 0 B.length 2]) → h.get 53 = some (.cells ga (A.flatMap arcC)) → h.get 54 = some (.cells gb (B.flatMap arcC)) →
                h.get 64 = some (.cells 0 (smC s)) → h.get 65 = some (.cells 0 [.nilsl, .nilsl]) → h.get 66 = some (.cells 0 [sli (iniR s (plN s)), .sl 51 0 0 i 3]) →
                ∃ p', plN s - p' < plN s - p ∧ p' ≤ plN s ∧ Rec 0 [(1, .ptr 64 0 0), (2, .ptr 65 0 0), (3, .ptr 66 0 0), (5, .int .i64 i), (6, .ptr 52 0 0), (7, .int .i64 (p' : Nat))] [(51, .cells 0 ((trR s i).flatMap tnC)), (52, .cells 0 [.int .i64 i, .sl 53 0 0 (arcR row (· / 3) p').length 2, .sl 54 0 0 (arcR row (· % 3) p').length 2]), (53, .cells 0 ((arcR row (· / 3) p').flatMap arcC)), (54, .cells 0 ((arcR row (· % 3) p').flatMap arcC)), (64, .cells 0 (smC s)), (65, .cells 0 [.nilsl, .nilsl]), (66, .cells 0 [sli (iniR s (plN s)), .sl 51 0 0 i 3])] T h := by
              rintro A B T h ga gb k rfl rfl t1 t2 t3 t5 t6 t7 g51 g52 g53 g54 g64 g65 g66
              refine ⟨p + 1, by omega, by omega, [(51, .blk 51 0), (52, .blk 52 0), (53, .blk 53 ga), (54, .blk 54 gb), (64, .blk 64 0), (65, .blk 65 0), (66, .blk 66 0)], rfl, RO.zero, ?_, ?_⟩
              · refine RB.cells rfl rfl g51 (RnL.same (htr _)) (RB.cells rfl rfl g52 ?_ (RB.cells rfl rfl g53 (RnL.same (nr _)) (RB.cells rfl rfl g54 (RnL.same (nr _)) (RB.cells rfl rfl g64 (RnL.same hsm) (RB.cells rfl rfl g65 ?_ (RB.cells rfl rfl g66 ?_ RB.nil)))))) <;> repeat' (first | exact RB.nil | (refine RnL.same ?_; first | rfl | (simp only [noRef, noRefs, noRefs_append, noRefs_ints, noRefs_lsts, noRefs_pad, noRef_arcs, noRef_tns, Bool.and_self, Bool.and_true, Bool.true_and]; done)) | exact RnM.keyM rfl | exact RnL.nil | refine RnL.cons ?_ ?_ | (refine Rn.same ?_; first | rfl | (simp only [noRef, noRefs, noRefs_append, noRefs_ints, noRefs_lsts, noRefs_pad, noRef_arcs, noRef_tns, Bool.and_self, Bool.and_true, Bool.true_and]; done)) | exact Rn.x1 rfl rfl | exact Rn.x2 rfl rfl | exact Rn.x3 rfl rfl | exact Rn.x4 rfl rfl | exact Rn.x5 rfl | exact Rn.x6 rfl | exact Rn.x7 rfl | refine RB.newnil rfl rfl ?_ | refine RB.cells rfl rfl rfl ?_ ?_ | refine RB.map rfl rfl rfl ?_ ?_ | refine RB.cellsB rfl rfl ?_ ?_ | refine RB.mapB rfl rfl ?_ ?_)
              · refine RT.cons' t1 ?_ (RT.cons' t2 ?_ (RT.cons' t3 ?_ (RT.cons' t5 ?_ (RT.cons' t6 ?_ (RT.cons' t7 ?_ RT.nil))))) <;> repeat' (first | exact RB.nil | (refine RnL.same ?_; first | rfl | (simp only [noRef, noRefs, noRefs_append, noRefs_ints, noRefs_lsts, noRefs_pad, noRef_arcs, noRef_tns, Bool.and_self, Bool.and_true, Bool.true_and]; done)) | exact RnM.keyM rfl | exact RnL.nil | refine RnL.cons ?_ ?_ | (refine Rn.same ?_; first | rfl | (simp only [noRef, noRefs, noRefs_append, noRefs_ints, noRefs_lsts, noRefs_pad, noRef_arcs, noRef_tns, Bool.and_self, Bool.and_true, Bool.true_and]; done)) | exact Rn.x1 rfl rfl | exact Rn.x2 rfl rfl | exact Rn.x3 rfl rfl | exact Rn.x4 rfl rfl | exact Rn.x5 rfl | exact Rn.x6 rfl | exact Rn.x7 rfl | refine RB.newnil rfl rfl ?_ | refine RB.cells rfl rfl rfl ?_ ?_ | refine RB.map rfl rfl rfl ?_ ?_ | refine RB.cellsB rfl rfl ?_ ?_ | refine RB.mapB rfl rfl ?_ ?_)
            by_cases c1 : 0 < y % 9 / 3 <;> by_cases c2 : 0 < y % 9 % 3
            · rw [if_pos c1] at e1
              rw [if_pos c2] at e2
              simp (maxSteps := 1000000) (disch := first | omega | (simp only [lenW] <;> omega)) only [hlt, h6, hd, hld, hp5', ints_len, hil, hpl2, tm9, tm3, td3, c1, c2, wordsN, Int.reduceGT, wordsR, ne_eq, words, Nat.reduceAdd, Nat.reduceEqDiff, Nat.reduceBEq, ↓reduceIte, reduceCtorEq, SX.exit.injEq, if_true, if_false, Int.reduceAdd, Int.reduceSub, Int.reduceMul, Int.reduceLT, Int.reduceLE, Int.reduceEq, Int.reduceNe, Int.reduceNeg, Int.reduceToNat, Nat.reduceMul, Nat.reduceLT, Nat.reduceSub, Nat.reduceLeDiff]
              refine hfin _ _ _ _ 1 1 0 e1 e2 ?_ ?_ ?_ ?_ ?_ ?_ ?_ ?_ ?_ ?_ ?_ ?_ ?_ <;> first | rfl | (rw [List.length_append, List.length_append]; rfl) | (rw [List.length_append]; rfl) | (rw [List.flatMap_append]; rfl)
            · rw [if_pos c1] at e1
              rw [if_neg c2, List.append_nil] at e2
              simp (maxSteps := 1000000) (disch := first | omega | (simp only [lenW] <;> omega)) only [hlt, h6, hd, hld, hp5', ints_len, hil, hpl2, tm9, tm3, td3, c1, c2, wordsN, Int.reduceGT, wordsR, ne_eq, words, Nat.reduceAdd, Nat.reduceEqDiff, Nat.reduceBEq, ↓reduceIte, reduceCtorEq, SX.exit.injEq, if_true, if_false, Int.reduceAdd, Int.reduceSub, Int.reduceMul, Int.reduceLT, Int.reduceLE, Int.reduceEq, Int.reduceNe, Int.reduceNeg, Int.reduceToNat, Nat.reduceMul, Nat.reduceLT, Nat.reduceSub, Nat.reduceLeDiff]
              refine hfin _ _ _ _ 1 0 0 e1 e2 ?_ ?_ ?_ ?_ ?_ ?_ ?_ ?_ ?_ ?_ ?_ ?_ ?_ <;> first | rfl | (rw [List.length_append, List.length_append]; rfl) | (rw [List.length_append]; rfl) | (rw [List.flatMap_append]; rfl)
            · rw [if_neg c1, List.append_nil] at e1
              rw [if_pos c2] at e2
              simp (maxSteps := 1000000) (disch := first | omega | (simp only [lenW] <;> omega)) only [hlt, h6, hd, hld, hp5', ints_len, hil, hpl2, tm9, tm3, td3, c1, c2, wordsN, Int.reduceGT, wordsR, ne_eq, words, Nat.reduceAdd, Nat.reduceEqDiff, Nat.reduceBEq, ↓reduceIte, reduceCtorEq, SX.exit.injEq, if_true, if_false, Int.reduceAdd, Int.reduceSub, Int.reduceMul, Int.reduceLT, Int.reduceLE, Int.reduceEq, Int.reduceNe, Int.reduceNeg, Int.reduceToNat, Nat.reduceMul, Nat.reduceLT, Nat.reduceSub, Nat.reduceLeDiff]
              refine hfin _ _ _ _ 0 1 0 e1 e2 ?_ ?_ ?_ ?_ ?_ ?_ ?_ ?_ ?_ ?_ ?_ ?_ ?_ <;> first | rfl | (rw [List.length_append, List.length_append]; rfl) | (rw [List.length_append]; rfl) | (rw [List.flatMap_append]; rfl)
            · rw [if_neg c1, List.append_nil] at e1
              rw [if_neg c2, List.append_nil] at e2
              simp (maxSteps := 1000000) (disch := first | omega | (simp only [lenW] <;> omega)) only [hlt, h6, hd, hld, hp5', ints_len, hil, hpl2, tm9, tm3, td3, c1, c2, wordsN, Int.reduceGT, wordsR, ne_eq, words, Nat.reduceAdd, Nat.reduceEqDiff, Nat.reduceBEq, ↓reduceIte, reduceCtorEq, SX.exit.injEq, if_true, if_false, Int.reduceAdd, Int.reduceSub, Int.reduceMul, Int.reduceLT, Int.reduceLE, Int.reduceEq, Int.reduceNe, Int.reduceNeg, Int.reduceToNat, Nat.reduceMul, Nat.reduceLT, Nat.reduceSub, Nat.reduceLeDiff]
              refine hfin _ _ _ _ 0 0 0 e1 e2 ?_ ?_ ?_ ?_ ?_ ?_ ?_ ?_ ?_ ?_ ?_ ?_ ?_ <;> first | rfl | (rw [List.length_append, List.length_append]; rfl) | (rw [List.length_append]; rfl) | (rw [List.flatMap_append]; rfl)
          · have e : p = plN s := by omega
            have f1 := arcs_len (arcR row (· / 3) p)
            have f2 := arcs_len (arcR row (· % 3) p)
            have nr : ∀ l, noRefs (List.flatMap arcC l) = true := fun l => noRefs_flat fun _ => rfl
            simp (maxSteps := 1000000) (disch := first | omega | (simp only [lenW] <;> omega)) only [hlt, h6, hd, hpl2, hil, ints_len, wordsN, Int.reduceGT, wordsR, ne_eq, words, Nat.reduceAdd, Nat.reduceEqDiff, Nat.reduceBEq, ↓reduceIte, reduceCtorEq, SX.exit.injEq, if_true, if_false, Int.reduceAdd, Int.reduceSub, Int.reduceMul, Int.reduceLT, Int.reduceLE, Int.reduceEq, Int.reduceNe, Int.reduceNeg, Int.reduceToNat, Nat.reduceMul, Nat.reduceLT, Nat.reduceSub, Nat.reduceLeDiff]
            refine ⟨(), ?_⟩
            refine ⟨[(51, .blk 51 0), (52, .blk 52 0), (64, .blk 64 0), (65, .blk 65 0), (66, .blk 66 0)], rfl, au0, ?_, au1⟩
            refine RB.cells rfl rfl rfl (RnL.same (htr _)) (RB.cells rfl rfl rfl (RnL.cons (Rn.same rfl) (RnL.cons (Rn.fzm rfl rfl rfl (by rw [e]) f1 (RnL.eq (by rw [e]) (nr _))) (RnL.cons (Rn.fzm rfl rfl rfl (by rw [e]) f2 (RnL.eq (by rw [e]) (nr _))) RnL.nil))) (RB.cells rfl rfl rfl (RnL.same hsm) ?_))
            repeat' (first | exact RB.nil | (refine RnL.same ?_; first | rfl | (simp only [noRef, noRefs, noRefs_append, noRefs_ints, noRefs_lsts, noRefs_pad, noRef_arcs, noRef_tns, Bool.and_self, Bool.and_true, Bool.true_and]; done)) | exact RnM.keyM rfl | exact RnL.nil | refine RnL.cons ?_ ?_ | (refine Rn.same ?_; first | rfl | (simp only [noRef, noRefs, noRefs_append, noRefs_ints, noRefs_lsts, noRefs_pad, noRef_arcs, noRef_tns, Bool.and_self, Bool.and_true, Bool.true_and]; done)) | exact Rn.x1 rfl rfl | exact Rn.x2 rfl rfl | exact Rn.x3 rfl rfl | exact Rn.x4 rfl rfl | exact Rn.x5 rfl | exact Rn.x6 rfl | exact Rn.x7 rfl | refine RB.newnil rfl rfl ?_ | refine RB.cells rfl rfl rfl ?_ ?_ | refine RB.map rfl rfl rfl ?_ ?_ | refine RB.cellsB rfl rfl ?_ ?_ | refine RB.mapB rfl rfl ?_ ?_)
        rintro _ -
        have f3 := tns_len (trR s i)
        have f4 := trR_len s i
        have e3 := trR_succ s i
        rw [hrD] at e3
        simp (maxSteps := 1000000) (disch := first | omega | (simp only [lenW] <;> omega)) only [wordsN, Int.reduceGT, wordsR, ne_eq, words, Nat.reduceAdd, Nat.reduceEqDiff, Nat.reduceBEq, ↓reduceIte, reduceCtorEq, SX.exit.injEq, if_true, if_false, Int.reduceAdd, Int.reduceSub, Int.reduceMul, Int.reduceLT, Int.reduceLE, Int.reduceEq, Int.reduceNe, Int.reduceNeg, Int.reduceToNat, Nat.reduceMul, Nat.reduceLT, Nat.reduceSub, Nat.reduceLeDiff]
        refine ⟨i + 1, by omega, by omega, ?_⟩
        refine ⟨[(51, .blk 51 1), (64, .blk 64 0), (65, .blk 65 0), (66, .blk 66 0)], rfl, au0, ?_, au1⟩
        refine RB.cells rfl rfl rfl (RnL.eq (by rw [e3, List.flatMap_append]; rfl) (noRefs_flat fun t => by simp only [tnC, noRefs, noRef_arcs, Bool.and_true]; rfl)) (RB.cells rfl rfl rfl (RnL.same hsm) ?_)
        repeat' (first | exact RB.nil | (refine RnL.same ?_; first | rfl | (simp only [noRef, noRefs, noRefs_append, noRefs_ints, noRefs_lsts, noRefs_pad, noRef_arcs, noRef_tns, Bool.and_self, Bool.and_true, Bool.true_and]; done)) | exact RnM.keyM rfl | exact RnL.nil | refine RnL.cons ?_ ?_ | (refine Rn.same ?_; first | rfl | (simp only [noRef, noRefs, noRefs_append, noRefs_ints, noRefs_lsts, noRefs_pad, noRef_arcs, noRef_tns, Bool.and_self, Bool.and_true, Bool.true_and]; done)) | exact Rn.x1 rfl rfl | exact Rn.x2 rfl rfl | exact Rn.x3 rfl rfl | exact Rn.x4 rfl rfl | exact Rn.x5 rfl | exact Rn.x6 rfl | exact Rn.x7 rfl | refine RB.newnil rfl rfl ?_ | refine RB.cells rfl rfl rfl ?_ ?_ | refine RB.map rfl rfl rfl ?_ ?_ | refine RB.cellsB rfl rfl ?_ ?_ | refine RB.mapB rfl rfl ?_ ?_)
      · have hl5' : ¬ (i : Int) < 5 := by omega
        have e : i = min s.mv.length 5 := by omega
        have f3 := tns_len (trR s i)
        have f4 := trR_len s i
        simp (maxSteps := 1000000) (disch := first | omega | (simp only [lenW] <;> omega)) only [hlt, hl5', h6, wordsN, Int.reduceGT, wordsR, ne_eq, words, Nat.reduceAdd, Nat.reduceEqDiff, Nat.reduceBEq, ↓reduceIte, reduceCtorEq, SX.exit.injEq, if_true, if_false, Int.reduceAdd, Int.reduceSub, Int.reduceMul, Int.reduceLT, Int.reduceLE, Int.reduceEq, Int.reduceNe, Int.reduceNeg, Int.reduceToNat, Nat.reduceMul, Nat.reduceLT, Nat.reduceSub, Nat.reduceLeDiff]
        refine ⟨(), ?_⟩
        refine ⟨[(65, .blk 65 0), (66, .blk 66 0)], rfl, au0, ?_, au1⟩
        refine RB.cells rfl rfl rfl ?_ (RB.cells rfl rfl rfl (RnL.cons (Rn.same (noRef_sli _)) (RnL.cons (Rn.fzm rfl rfl rfl (by rw [mkN, trR_len, e]) (by omega) (RnL.eq (by rw [mkN, e]) (htr _))) RnL.nil)) RB.nil)
        repeat' (first | exact RB.nil | (refine RnL.same ?_; first | rfl | (simp only [noRef, noRefs, noRefs_append, noRefs_ints, noRefs_lsts, noRefs_pad, noRef_arcs, noRef_tns, Bool.and_self, Bool.and_true, Bool.true_and]; done)) | exact RnM.keyM rfl | exact RnL.nil | refine RnL.cons ?_ ?_ | (refine Rn.same ?_; first | rfl | (simp only [noRef, noRefs, noRefs_append, noRefs_ints, noRefs_lsts, noRefs_pad, noRef_arcs, noRef_tns, Bool.and_self, Bool.and_true, Bool.true_and]; done)) | exact Rn.x1 rfl rfl | exact Rn.x2 rfl rfl | exact Rn.x3 rfl rfl | exact Rn.x4 rfl rfl | exact Rn.x5 rfl | exact Rn.x6 rfl | exact Rn.x7 rfl | refine RB.newnil rfl rfl ?_ | refine RB.cells rfl rfl rfl ?_ ?_ | refine RB.map rfl rfl rfl ?_ ?_ | refine RB.cellsB rfl rfl ?_ ?_ | refine RB.mapB rfl rfl ?_ ?_)
    · have e : i = min s.mv.length 5 := by omega
      have f3 := tns_len (trR s i)
      have f4 := trR_len s i
      simp (maxSteps := 1000000) (disch := first | omega | (simp only [lenW] <;> omega)) only [hlt, h6, wordsN, Int.reduceGT, wordsR, ne_eq, words, Nat.reduceAdd, Nat.reduceEqDiff, Nat.reduceBEq, ↓reduceIte, reduceCtorEq, SX.exit.injEq, if_true, if_false, Int.reduceAdd, Int.reduceSub, Int.reduceMul, Int.reduceLT, Int.reduceLE, Int.reduceEq, Int.reduceNe, Int.reduceNeg, Int.reduceToNat, Nat.reduceMul, Nat.reduceLT, Nat.reduceSub, Nat.reduceLeDiff]
      refine ⟨(), ?_⟩
      refine ⟨[(65, .blk 65 0), (66, .blk 66 0)], rfl, au0, ?_, au1⟩
      refine RB.cells rfl rfl rfl ?_ (RB.cells rfl rfl rfl (RnL.cons (Rn.same (noRef_sli _)) (RnL.cons (Rn.fzm rfl rfl rfl (by rw [mkN, trR_len, e]) (by omega) (RnL.eq (by rw [mkN, e]) (htr _))) RnL.nil)) RB.nil)
      repeat' (first | exact RB.nil | (refine RnL.same ?_; first | rfl | (simp only [noRef, noRefs, noRefs_append, noRefs_ints, noRefs_lsts, noRefs_pad, noRef_arcs, noRef_tns, Bool.and_self, Bool.and_true, Bool.true_and]; done)) | exact RnM.keyM rfl | exact RnL.nil | refine RnL.cons ?_ ?_ | (refine Rn.same ?_; first | rfl | (simp only [noRef, noRefs, noRefs_append, noRefs_ints, noRefs_lsts, noRefs_pad, noRef_arcs, noRef_tns, Bool.and_self, Bool.and_true, Bool.true_and]; done)) | exact Rn.x1 rfl rfl | exact Rn.x2 rfl rfl | exact Rn.x3 rfl rfl | exact Rn.x4 rfl rfl | exact Rn.x5 rfl | exact Rn.x6 rfl | exact Rn.x7 rfl | refine RB.newnil rfl rfl ?_ | refine RB.cells rfl rfl rfl ?_ ?_ | refine RB.map rfl rfl rfl ?_ ?_ | refine RB.cellsB rfl rfl ?_ ?_ | refine RB.mapB rfl rfl ?_ ?_)
  rintro _ -
  simp (maxSteps := 1000000) (disch := first | omega | (simp only [lenW] <;> omega)) only [wordsN, Int.reduceGT, wordsR, ne_eq, words, Nat.reduceAdd, Nat.reduceEqDiff, Nat.reduceBEq, ↓reduceIte, reduceCtorEq, SX.exit.injEq, if_true, if_false, Int.reduceAdd, Int.reduceSub, Int.reduceMul, Int.reduceLT, Int.reduceLE, Int.reduceEq, Int.reduceNe, Int.reduceNeg, Int.reduceToNat, Nat.reduceMul, Nat.reduceLT, Nat.reduceSub, Nat.reduceLeDiff]
  exact ⟨.inr trivial, _, rfl, Rn.same (noRef_net _)⟩
end Go.AM.SN
namespace Go.AM.SN
open Go.Proofs
set_option maxRecDepth 100000
set_option linter.unusedSimpArgs false
set_option linter.unusedVariables false
theorem arcR_mem {row : List Nat} {f : Nat → Nat} {n : Nat} {a : Int × Int} (h : a ∈ arcR row f n) : ∃ p, p < n ∧ a.1 = (p : Int) ∧ a.2 = ((f (row.getD p 0 % 9) : Nat) : Int) ∧ 0 < f (row.getD p 0 % 9) := by
  unfold arcR at h
  obtain ⟨p, hp, ha⟩ := List.mem_flatMap.1 h
  rw [List.mem_range] at hp
  split at ha
  · rename_i hc
    simp only [List.mem_singleton] at ha
    subst ha
    exact ⟨p, hp, rfl, rfl, hc⟩
  · cases ha
theorem arcR_up (row : List Nat) (f : Nat → Nat) (n : Nat) : (arcR row f n).Pairwise fun a b => a.1 < b.1 := by
  induction n with
  | zero => simp [arcR]
  | succ n ih =>
    rw [arcR_succ, List.pairwise_append]
    refine ⟨ih, ?_, ?_⟩
    · split <;> simp
    · intro a ha b hb
      obtain ⟨p, hp, h1, _⟩ := arcR_mem ha
      split at hb
      · simp only [List.mem_singleton] at hb; subst hb; rw [h1]; exact Int.ofNat_lt.2 hp
      · cases hb
theorem arcR_ok (row : List Nat) (f : Nat → Nat) (n : Nat) (hf : ∀ k, k < 9 → f k ≤ 8) (hn : n ≤ 5) : ArcsOk (arcR row f n) n where
  len := by have := arcR_len row f n; omega
  each := fun i a ha => by
    obtain ⟨p, hp, h1, h2, h3⟩ := arcR_mem (List.mem_of_getElem? ha)
    have := hf (row.getD p 0 % 9) (Nat.mod_lt _ (by decide))
    omega
  up := fun i a b ha hb => by
    obtain ⟨h1, e1⟩ := List.getElem?_eq_some_iff.1 ha
    obtain ⟨h2, e2⟩ := List.getElem?_eq_some_iff.1 hb
    have := List.pairwise_iff_getElem.1 (arcR_up row f n) i (i + 1) h1 h2 (by omega)
    rw [e1, e2] at this; exact this
theorem mkN_places (s : Sm) : (mkN s).ini.length = plN s := iniR_len s _
theorem mkN_trans (s : Sm) : (mkN s).tr.length = min s.mv.length 5 := trR_len s _
theorem mkN_ok (s : Sm) : NetOk (mkN s) where
  places := by rw [mkN_places]; unfold plN; omega
  tokens := fun y hy => by
    simp only [mkN, iniR, List.mem_map] at hy
    obtain ⟨p, _, rfl⟩ := hy
    unfold okT; omega
  trans := by rw [mkN_trans]; omega
  ev := fun t ht => by
    simp only [mkN, trR, List.mem_map, List.mem_range] at ht
    obtain ⟨k, hk, rfl⟩ := ht
    dsimp only; omega
  inn := fun t ht => by
    rw [mkN_places]
    simp only [mkN, trR, List.mem_map, List.mem_range] at ht
    obtain ⟨k, hk, rfl⟩ := ht
    exact arcR_ok _ (· / 3) _ (fun k hk => by show _ ≤ 8; omega) (show plN s ≤ 5 by unfold plN; omega)
  out := fun t ht => by
    rw [mkN_places]
    simp only [mkN, trR, List.mem_map, List.mem_range] at ht
    obtain ⟨k, hk, rfl⟩ := ht
    exact arcR_ok _ (· % 3) _ (fun k hk => by show _ ≤ 8; omega) (show plN s ≤ 5 by unfold plN; omega)
end Go.AM.SN
