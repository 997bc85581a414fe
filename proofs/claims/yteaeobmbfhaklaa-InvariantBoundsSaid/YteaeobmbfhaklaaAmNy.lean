/- Contracts for nets: the checks of a net that is fine. Conditions: none of ours. -/
import Derived.Test.YteaeobmbfhaklaaAmNw
namespace Go.AM.SN
open Go.Proofs
set_option maxRecDepth 100000
set_option linter.unusedSimpArgs false
set_option linter.unusedVariables false

structure ArcsOk (l : List (Int × Int)) (places : Int) : Prop where
  len : l.length ≤ 1000
  each : ∀ (i : Nat) (a : Int × Int), l[i]? = some a → 0 ≤ a.1 ∧ a.1 < places ∧ 1 ≤ a.2 ∧ a.2 ≤ 8
  up : ∀ (i : Nat) (a b : Int × Int), l[i]? = some a → l[i + 1]? = some b → a.1 < b.1

theorem checkArcs (l : List (Int × Int)) (places : Int) (ho : ArcsOk l places) : PSpec Try.prog 58 [arcs l, .int .i64 places] (.int .i64 0) := by
  refine PSpec.of_flat 64 ok58 rfl (by simp only [noRefs, noRef_arcs]; rfl) rfl ?_
  have hll := ho.len
  simp (config := { maxSteps := 1000000 }) (disch := omega) only [s58, words, Nat.reduceAdd, Nat.reduceEqDiff, Nat.reduceBEq, ↓reduceIte, reduceCtorEq, SX.exit.injEq, if_true, if_false, Int.reduceAdd, Int.reduceSub, Int.reduceMul, Int.reduceLT, Int.reduceLE, Int.reduceEq, Int.reduceNe, Int.reduceNeg, Int.reduceToNat, Nat.reduceMul, Nat.reduceLT, Nat.reduceSub, Nat.reduceLeDiff]
  refine wS_loop (fun i : Nat => [(0, arcs l), (1, .int .i64 places), (7, arcs l), (8, .int .i64 l.length), (9, .int .i64 i)]) (fun i h n => i ≤ l.length ∧ Fresh n h ∧ n ≤ 1000 + i * 100) (fun i => l.length - i) 0 (by repeat (first | exact Sub.nil | refine Sub.cons (by first | rfl | (rw [Int.natCast_add]; rfl)) ?_)) ⟨Nat.zero_le _, .e, by omega⟩ ?_
  rintro i h n ⟨hi, hf, hn⟩
  have hf0 : ∀ b, n ≤ b → h.get b = none := hf
  by_cases hlt : i < l.length
  · obtain ⟨a, ha⟩ := get_ex hlt
    have hlt' : (i : Int) < (l.length : Int) := by omega
    have hd := drop_arcs ha
    obtain ⟨h1, h2, h3, h4⟩ := ho.each i a ha
    have h1' : ¬ a.1 < 0 := by omega
    have h2' : ¬ places ≤ a.1 := by omega
    have h3' : ¬ a.2 < 1 := by omega
    have h4' : ¬ 8 < a.2 := by omega
    cases i with
    | zero =>
      simp only [Nat.zero_mul] at hd
      have hl0 : (0 : Int) < (l.length : Int) := by omega
      simp (config := { maxSteps := 1000000 }) (disch := omega) only [hl0, hd, hf0, h1', h2', h3', h4', Int.lt_irrefl, Int.cast_ofNat_Int, Int.natCast_zero, wordsN, Int.reduceGT, words, Nat.reduceAdd, Nat.reduceEqDiff, Nat.reduceBEq, ↓reduceIte, reduceCtorEq, SX.exit.injEq, if_true, if_false, Int.reduceAdd, Int.reduceSub, Int.reduceMul, Int.reduceLT, Int.reduceLE, Int.reduceEq, Int.reduceNe, Int.reduceNeg, Int.reduceToNat, Nat.reduceMul, Nat.reduceLT, Nat.reduceSub, Nat.reduceLeDiff]
      refine ⟨1, by omega, by repeat (first | exact Sub.nil | refine Sub.cons (by first | rfl | (rw [Int.natCast_add]; rfl)) ?_), by omega, (by repeat (first | exact Fresh.le (by assumption) (by omega) | refine Fresh.set ?_ (by omega) (by omega))), by omega⟩
    | succ i =>
      obtain ⟨p, hp⟩ := get_ex (l := l) (i := i) (by omega)
      have hup := ho.up i p a hp ha
      have hup' : ¬ a.1 ≤ p.1 := by omega
      have hdp := drop_arcs hp
      have hpos : (0 : Int) < ((i + 1 : Nat) : Int) := by omega
      have hsub : (((i + 1 : Nat) : Int) - 1) = (i : Int) := by omega
      have hlt2 : (i : Int) < (l.length : Int) := by omega
      simp (config := { maxSteps := 1000000 }) (disch := omega) only [hlt', hd, hdp, hf0, h1', h2', h3', h4', hpos, hsub, hup', hlt2, wordsN, Int.reduceGT, words, Nat.reduceAdd, Nat.reduceEqDiff, Nat.reduceBEq, ↓reduceIte, reduceCtorEq, SX.exit.injEq, if_true, if_false, Int.reduceAdd, Int.reduceSub, Int.reduceMul, Int.reduceLT, Int.reduceLE, Int.reduceEq, Int.reduceNe, Int.reduceNeg, Int.reduceToNat, Nat.reduceMul, Nat.reduceLT, Nat.reduceSub, Nat.reduceLeDiff]
      refine ⟨i + 1 + 1, by omega, by repeat (first | exact Sub.nil | refine Sub.cons (by first | rfl | (rw [Int.natCast_add]; rfl)) ?_), by omega, (by repeat (first | exact Fresh.le (by assumption) (by omega) | refine Fresh.set ?_ (by omega) (by omega))), by omega⟩
  · have hlt' : ¬ (i : Int) < (l.length : Int) := by omega
    simp (config := { maxSteps := 1000000 }) (disch := omega) only [hlt', words, Nat.reduceAdd, Nat.reduceEqDiff, Nat.reduceBEq, ↓reduceIte, reduceCtorEq, SX.exit.injEq, if_true, if_false, Int.reduceAdd, Int.reduceSub, Int.reduceMul, Int.reduceLT, Int.reduceLE, Int.reduceEq, Int.reduceNe, Int.reduceNeg, Int.reduceToNat, Nat.reduceMul, Nat.reduceLT, Nat.reduceSub, Nat.reduceLeDiff]
    exact ⟨by simp, _, rfl, by simp [resOf, lk_cons]⟩

/-! ### IndexFunc, ContainsFunc where nothing is found -/
theorem indexNone (g : Nat) (l : List Int) (hg : ∀ x ∈ l, PSpec Try.prog g [.int .i64 x] (.bool false)) (hl : l.length ≤ 1099511627776) :
    PSpec Try.prog 76 [sli l, .fn g [] []] (.int .i64 (-1)) := by
  refine PSpec.of_flat 64 ok76 rfl (by simp [noRefs, noRef, noRefs_ints]) rfl ?_
  simp (config := { maxSteps := 1000000 }) (disch := omega) only [s76, words, Nat.reduceAdd, Nat.reduceEqDiff, Nat.reduceBEq, ↓reduceIte, reduceCtorEq, SX.exit.injEq, if_true, if_false, Int.reduceAdd, Int.reduceSub, Int.reduceMul, Int.reduceLT, Int.reduceLE, Int.reduceEq, Int.reduceNe, Int.reduceNeg, Int.reduceToNat, Nat.reduceMul, Nat.reduceLT, Nat.reduceSub, Nat.reduceLeDiff]
  refine wS_loop (fun i : Nat => [(0, sli l), (1, .fn g [] []), (7, .int .i64 l.length), (8, .int .i64 i)]) (fun i h _ => h = .e ∧ i ≤ l.length) (fun i => l.length - i) 0 (by repeat (first | exact Sub.nil | refine Sub.cons (by first | rfl | (rw [Int.natCast_add]; rfl)) ?_)) ⟨rfl, Nat.zero_le _⟩ ?_
  rintro i h n ⟨rfl, hi⟩
  by_cases hlt : i < l.length
  · obtain ⟨x, hx⟩ := get_ex hlt
    have hlt' : (i : Int) < (l.length : Int) := by omega
    simp (config := { maxSteps := 1000000 }) (disch := omega) only [hlt', head_ints hx, words, Nat.reduceAdd, Nat.reduceEqDiff, Nat.reduceBEq, ↓reduceIte, reduceCtorEq, SX.exit.injEq, if_true, if_false, Int.reduceAdd, Int.reduceSub, Int.reduceMul, Int.reduceLT, Int.reduceLE, Int.reduceEq, Int.reduceNe, Int.reduceNeg, Int.reduceToNat, Nat.reduceMul, Nat.reduceLT, Nat.reduceSub, Nat.reduceLeDiff]
    refine cp (hg x (List.mem_of_getElem? hx)) ?_
    simp (config := { maxSteps := 1000000 }) (disch := omega) only [words, Nat.reduceAdd, Nat.reduceEqDiff, Nat.reduceBEq, ↓reduceIte, reduceCtorEq, SX.exit.injEq, if_true, if_false, Int.reduceAdd, Int.reduceSub, Int.reduceMul, Int.reduceLT, Int.reduceLE, Int.reduceEq, Int.reduceNe, Int.reduceNeg, Int.reduceToNat, Nat.reduceMul, Nat.reduceLT, Nat.reduceSub, Nat.reduceLeDiff]
    exact ⟨i + 1, by omega, by repeat (first | exact Sub.nil | refine Sub.cons (by first | rfl | (rw [Int.natCast_add]; rfl)) ?_), by omega⟩
  · have hlt' : ¬ (i : Int) < (l.length : Int) := by omega
    simp (config := { maxSteps := 1000000 }) (disch := omega) only [hlt', words, Nat.reduceAdd, Nat.reduceEqDiff, Nat.reduceBEq, ↓reduceIte, reduceCtorEq, SX.exit.injEq, if_true, if_false, Int.reduceAdd, Int.reduceSub, Int.reduceMul, Int.reduceLT, Int.reduceLE, Int.reduceEq, Int.reduceNe, Int.reduceNeg, Int.reduceToNat, Nat.reduceMul, Nat.reduceLT, Nat.reduceSub, Nat.reduceLeDiff]
    exact ⟨by simp, _, rfl, by simp [resOf, lk_cons]⟩

theorem containsNone (g : Nat) (l : List Int) (hg : ∀ x ∈ l, PSpec Try.prog g [.int .i64 x] (.bool false)) (hl : l.length ≤ 1099511627776) :
    PSpec Try.prog 66 [sli l, .fn g [] []] (.bool false) := by
  refine PSpec.of_flat 64 ok66 rfl (by simp [noRefs, noRef, noRefs_ints]) rfl ?_
  simp (config := { maxSteps := 1000000 }) (disch := omega) only [s66, words, Nat.reduceAdd, Nat.reduceEqDiff, Nat.reduceBEq, ↓reduceIte, reduceCtorEq, SX.exit.injEq, if_true, if_false, Int.reduceAdd, Int.reduceSub, Int.reduceMul, Int.reduceLT, Int.reduceLE, Int.reduceEq, Int.reduceNe, Int.reduceNeg, Int.reduceToNat, Nat.reduceMul, Nat.reduceLT, Nat.reduceSub, Nat.reduceLeDiff]
  refine cp (indexNone g l hg hl) ?_
  simp (config := { maxSteps := 1000000 }) (disch := omega) only [words, Nat.reduceAdd, Nat.reduceEqDiff, Nat.reduceBEq, ↓reduceIte, reduceCtorEq, SX.exit.injEq, if_true, if_false, Int.reduceAdd, Int.reduceSub, Int.reduceMul, Int.reduceLT, Int.reduceLE, Int.reduceEq, Int.reduceNe, Int.reduceNeg, Int.reduceToNat, Nat.reduceMul, Nat.reduceLT, Nat.reduceSub, Nat.reduceLeDiff]
  exact ⟨by simp, _, rfl, by simp [resOf, lk_cons]⟩

def okT (n : Int) : Prop := 0 ≤ n ∧ n ≤ 65536
theorem tok1 (n : Int) (h : okT n) : PSpec Try.prog 69 [.int .i64 n] (.bool false) := by
  obtain ⟨h1, h2⟩ := h
  have h1' : ¬ n < 0 := by omega
  have h2' : ¬ 65536 < n := by omega
  refine PSpec.of_flat 64 ok69 rfl rfl rfl ?_
  simp (config := { maxSteps := 1000000 }) (disch := omega) only [s69, h1', h2', words, Nat.reduceAdd, Nat.reduceEqDiff, Nat.reduceBEq, ↓reduceIte, reduceCtorEq, SX.exit.injEq, if_true, if_false, Int.reduceAdd, Int.reduceSub, Int.reduceMul, Int.reduceLT, Int.reduceLE, Int.reduceEq, Int.reduceNe, Int.reduceNeg, Int.reduceToNat, Nat.reduceMul, Nat.reduceLT, Nat.reduceSub, Nat.reduceLeDiff]
  exact ⟨by simp, _, rfl, by simp [resOf, lk_cons]⟩
theorem tokens (l : List Int) (hl : l.length ≤ 1099511627776) (h : ∀ x ∈ l, okT x) : PSpec Try.prog 57 [sli l] (.bool true) := by
  refine PSpec.of_flat 64 ok57 rfl (by simp [noRefs, noRef, noRefs_ints]) rfl ?_
  simp (config := { maxSteps := 1000000 }) (disch := omega) only [s57, words, Nat.reduceAdd, Nat.reduceEqDiff, Nat.reduceBEq, ↓reduceIte, reduceCtorEq, SX.exit.injEq, if_true, if_false, Int.reduceAdd, Int.reduceSub, Int.reduceMul, Int.reduceLT, Int.reduceLE, Int.reduceEq, Int.reduceNe, Int.reduceNeg, Int.reduceToNat, Nat.reduceMul, Nat.reduceLT, Nat.reduceSub, Nat.reduceLeDiff]
  refine cp (containsNone 69 l (fun x hx => tok1 x (h x hx)) hl) ?_
  simp (config := { maxSteps := 1000000 }) (disch := omega) only [words, Nat.reduceAdd, Nat.reduceEqDiff, Nat.reduceBEq, ↓reduceIte, reduceCtorEq, SX.exit.injEq, if_true, if_false, Int.reduceAdd, Int.reduceSub, Int.reduceMul, Int.reduceLT, Int.reduceLE, Int.reduceEq, Int.reduceNe, Int.reduceNeg, Int.reduceToNat, Nat.reduceMul, Nat.reduceLT, Nat.reduceSub, Nat.reduceLeDiff]
  exact ⟨by simp, _, rfl, by simp [resOf, lk_cons]⟩

structure NetOk (x : Nt) : Prop where
  places : x.ini.length ≤ 10
  tokens : ∀ y ∈ x.ini, okT y
  trans : x.tr.length ≤ 10
  ev : ∀ t ∈ x.tr, 0 ≤ t.ev ∧ t.ev < 32
  inn : ∀ t ∈ x.tr, ArcsOk t.inn x.ini.length
  out : ∀ t ∈ x.tr, ArcsOk t.out x.ini.length

theorem check (x : Nt) (ho : NetOk x) : PSpec Try.prog 37 [netV x] (.int .i64 0) := by
  refine PSpec.of_flat 64 ok37 rfl (by rw [noRefs, noRef_net]; rfl) rfl ?_
  have hp := ho.places
  have ht := ho.trans
  have hp' : ¬ (10 : Int) < (x.ini.length : Int) := by omega
  have ht' : ¬ (10 : Int) < (x.tr.length : Int) := by omega
  have hf0 : ∀ b, Tr.get (α := Blk) .e b = none := fun b => by simp [Tr.get]
  simp (config := { maxSteps := 1000000 }) (disch := omega) only [s37, hf0, hp', ht', wordsN, Int.reduceGT, words, Nat.reduceAdd, Nat.reduceEqDiff, Nat.reduceBEq, ↓reduceIte, reduceCtorEq, SX.exit.injEq, if_true, if_false, Int.reduceAdd, Int.reduceSub, Int.reduceMul, Int.reduceLT, Int.reduceLE, Int.reduceEq, Int.reduceNe, Int.reduceNeg, Int.reduceToNat, Nat.reduceMul, Nat.reduceLT, Nat.reduceSub, Nat.reduceLeDiff]
  refine cp (tokens x.ini (by omega) ho.tokens) ?_
  simp (config := { maxSteps := 1000000 }) (disch := omega) only [hp', ht', wordsN, Int.reduceGT, words, Nat.reduceAdd, Nat.reduceEqDiff, Nat.reduceBEq, ↓reduceIte, reduceCtorEq, SX.exit.injEq, if_true, if_false, Int.reduceAdd, Int.reduceSub, Int.reduceMul, Int.reduceLT, Int.reduceLE, Int.reduceEq, Int.reduceNe, Int.reduceNeg, Int.reduceToNat, Nat.reduceMul, Nat.reduceLT, Nat.reduceSub, Nat.reduceLeDiff]
  refine wS_loop (fun i : Nat => [(1, .ptr 64 0 0), (24, tns x.tr), (25, .int .i64 x.tr.length), (26, .int .i64 i)]) (fun i h n => i ≤ x.tr.length ∧ h.get 64 = some (.cells 0 [sli x.ini, tns x.tr]) ∧ Fresh n h ∧ 64 < n ∧ n ≤ 1000 + i * 1000) (fun i => x.tr.length - i) 0 (by repeat (first | exact Sub.nil | refine Sub.cons (by first | rfl | (rw [Int.natCast_add]; rfl)) ?_)) ⟨Nat.zero_le _, get_same (by omega), (Fresh.e (n := 65)).le (by omega) |>.set (by omega) (by omega), by omega, by omega⟩ ?_
  rintro i h n ⟨hi, h64, hf, hn0, hn⟩
  have hf0 : ∀ b, n ≤ b → h.get b = none := hf
  by_cases hlt : i < x.tr.length
  · obtain ⟨t, htt⟩ := get_ex hlt
    have hlt' : (i : Int) < (x.tr.length : Int) := by omega
    have hd := drop_tns htt
    have hm := List.mem_of_getElem? htt
    obtain ⟨e1, e2⟩ := ho.ev t hm
    have e1' : ¬ t.ev < 0 := by omega
    have e2' : ¬ 32 ≤ t.ev := by omega
    have hin := ho.inn t hm
    have hout := ho.out t hm
    simp (config := { maxSteps := 1000000 }) (disch := omega) only [hlt', hd, hf0, h64, e1', e2', wordsN, Int.reduceGT, words, Nat.reduceAdd, Nat.reduceEqDiff, Nat.reduceBEq, ↓reduceIte, reduceCtorEq, SX.exit.injEq, if_true, if_false, Int.reduceAdd, Int.reduceSub, Int.reduceMul, Int.reduceLT, Int.reduceLE, Int.reduceEq, Int.reduceNe, Int.reduceNeg, Int.reduceToNat, Nat.reduceMul, Nat.reduceLT, Nat.reduceSub, Nat.reduceLeDiff]
    refine wS_unroll (wLp_round ?_)
    simp (config := { maxSteps := 1000000 }) (disch := omega) only [h64, hf0, wordsN, Int.reduceGT, words, Nat.reduceAdd, Nat.reduceEqDiff, Nat.reduceBEq, ↓reduceIte, reduceCtorEq, SX.exit.injEq, if_true, if_false, Int.reduceAdd, Int.reduceSub, Int.reduceMul, Int.reduceLT, Int.reduceLE, Int.reduceEq, Int.reduceNe, Int.reduceNeg, Int.reduceToNat, Nat.reduceMul, Nat.reduceLT, Nat.reduceSub, Nat.reduceLeDiff]
    refine cp (checkArcs t.inn _ hin) ?_
    simp (config := { maxSteps := 1000000 }) (disch := omega) only [h64, hf0, wordsN, Int.reduceGT, words, Nat.reduceAdd, Nat.reduceEqDiff, Nat.reduceBEq, ↓reduceIte, reduceCtorEq, SX.exit.injEq, if_true, if_false, Int.reduceAdd, Int.reduceSub, Int.reduceMul, Int.reduceLT, Int.reduceLE, Int.reduceEq, Int.reduceNe, Int.reduceNeg, Int.reduceToNat, Nat.reduceMul, Nat.reduceLT, Nat.reduceSub, Nat.reduceLeDiff]
    refine wLp_round ?_
    simp (config := { maxSteps := 1000000 }) (disch := omega) only [h64, hf0, wordsN, Int.reduceGT, words, Nat.reduceAdd, Nat.reduceEqDiff, Nat.reduceBEq, ↓reduceIte, reduceCtorEq, SX.exit.injEq, if_true, if_false, Int.reduceAdd, Int.reduceSub, Int.reduceMul, Int.reduceLT, Int.reduceLE, Int.reduceEq, Int.reduceNe, Int.reduceNeg, Int.reduceToNat, Nat.reduceMul, Nat.reduceLT, Nat.reduceSub, Nat.reduceLeDiff]
    refine cp (checkArcs t.out _ hout) ?_
    simp (config := { maxSteps := 1000000 }) (disch := omega) only [h64, hf0, wordsN, Int.reduceGT, words, Nat.reduceAdd, Nat.reduceEqDiff, Nat.reduceBEq, ↓reduceIte, reduceCtorEq, SX.exit.injEq, if_true, if_false, Int.reduceAdd, Int.reduceSub, Int.reduceMul, Int.reduceLT, Int.reduceLE, Int.reduceEq, Int.reduceNe, Int.reduceNeg, Int.reduceToNat, Nat.reduceMul, Nat.reduceLT, Nat.reduceSub, Nat.reduceLeDiff]
    refine wLp_round ?_
    simp (config := { maxSteps := 1000000 }) (disch := omega) only [h64, hf0, wordsN, Int.reduceGT, words, Nat.reduceAdd, Nat.reduceEqDiff, Nat.reduceBEq, ↓reduceIte, reduceCtorEq, SX.exit.injEq, if_true, if_false, Int.reduceAdd, Int.reduceSub, Int.reduceMul, Int.reduceLT, Int.reduceLE, Int.reduceEq, Int.reduceNe, Int.reduceNeg, Int.reduceToNat, Nat.reduceMul, Nat.reduceLT, Nat.reduceSub, Nat.reduceLeDiff]
    exact ⟨i + 1, by omega, by repeat (first | exact Sub.nil | refine Sub.cons (by first | rfl | (rw [Int.natCast_add]; rfl)) ?_), by omega, (by repeat (first | exact Fresh.le (by assumption) (by omega) | refine Fresh.set ?_ (by omega) (by omega))), by omega, by omega⟩
  · have hlt' : ¬ (i : Int) < (x.tr.length : Int) := by omega
    simp (config := { maxSteps := 1000000 }) (disch := omega) only [hlt', words, Nat.reduceAdd, Nat.reduceEqDiff, Nat.reduceBEq, ↓reduceIte, reduceCtorEq, SX.exit.injEq, if_true, if_false, Int.reduceAdd, Int.reduceSub, Int.reduceMul, Int.reduceLT, Int.reduceLE, Int.reduceEq, Int.reduceNe, Int.reduceNeg, Int.reduceToNat, Nat.reduceMul, Nat.reduceLT, Nat.reduceSub, Nat.reduceLeDiff]
    exact ⟨by simp, _, rfl, by simp [resOf, lk_cons]⟩
end Go.AM.SN
