/- Contracts for nets: incidence (of the statements). Conditions: none of ours. -/
import Derived.Test.YteaeobmbfhaklaaAmNy
import Derived.Test.YteaeobmbfhaklaaAmQc
namespace Go.AM.SN
open Go.Proofs
set_option maxRecDepth 100000
set_option linter.unusedSimpArgs false
set_option linter.unusedVariables false

theorem weightR_bound {l : List (Int × Int)} {places : Int} (ho : ArcsOk l places) (p : Int) : 0 ≤ weightR l p ∧ weightR l p ≤ 8 := by
  have : ∀ (l : List (Int × Int)), (∀ a ∈ l, 1 ≤ a.2 ∧ a.2 ≤ 8) → 0 ≤ weightR l p ∧ weightR l p ≤ 8 := by
    intro l
    induction l with
    | nil => intro _; simp [weightR]
    | cons a l ih =>
      intro hh
      unfold weightR
      split
      · have := hh a (by simp); omega
      · exact ih fun b hb => hh b (by simp [hb])
  refine this l fun a ha => ?_
  obtain ⟨j, hj, _⟩ := mem_at ha
  have := ho.each j a hj; omega

/-- The incidence of a place with the transitions. -/
def incR (x : Nt) (p : Nat) : List Int := x.tr.map fun t => weightR t.out p - weightR t.inn p
def incM (x : Nt) : List (List Int) := (List.range x.ini.length).map (incR x)
theorem incR_len (x : Nt) (p : Nat) : (incR x p).length = x.tr.length := by simp [incR]

theorem range_take_succ {α : Type} (f : Nat → α) (i : Nat) : (List.range (i + 1)).map f = (List.range i).map f ++ [f i] := by
  rw [List.range_succ, List.map_append]; rfl

set_option maxHeartbeats 8000000 in
theorem incidence (x : Nt) (ho : NetOk x) : PSpec Try.prog 22 [netV x] (lsts (incM x)) := by
  refine PSpec.of_frz 64 ok22 rfl (by rw [noRefs, noRef_net]; rfl) (by simp only [noRef]; exact noRefs_lsts _) ?_
  have hp := ho.places
  have ht := ho.trans
  have hfe : ∀ b, Tr.get (α := Blk) .e b = none := fun b => by simp [Tr.get]
  simp (config := { maxSteps := 1000000 }) (disch := omega) only [s22, hfe, wordsN, Int.reduceGT, words, Nat.reduceAdd, Nat.reduceEqDiff, Nat.reduceBEq, ↓reduceIte, reduceCtorEq, SX.exit.injEq, if_true, if_false, Int.reduceAdd, Int.reduceSub, Int.reduceMul, Int.reduceLT, Int.reduceLE, Int.reduceEq, Int.reduceNe, Int.reduceNeg, Int.reduceToNat, Nat.reduceMul, Nat.reduceLT, Nat.reduceSub, Nat.reduceLeDiff]
  refine wS_loop (fun a : Nat × AV × List AV => [(1, .ptr 64 0 0), (3, a.2.1), (4, .int .i64 a.1)]) (fun a h n => a.1 ≤ x.ini.length ∧ h.get 64 = some (.cells 0 [sli x.ini, tns x.tr]) ∧ Fresh n h ∧ 64 < n ∧ n ≤ 1000 + a.1 * 10000 ∧ Mat h n 64 a.2.1 a.2.2 ((List.range a.1).map (incR x)))
    (fun a => x.ini.length - a.1) (0, .nilsl, []) (by repeat (first | exact Sub.nil | refine Sub.cons (by first | rfl | (rw [Int.natCast_add]; rfl)) ?_)) ⟨Nat.zero_le _, get_same (by omega), (Fresh.e (n := 65)).le (by omega) |>.set (by omega) (by omega), by omega, by omega, .nil⟩ ?_
  rintro ⟨p, v, rows⟩ h n ⟨hi, h64, hf, hn0, hn, hm⟩
  dsimp only at hi hn hm ⊢
  have hf0 : ∀ b, n ≤ b → h.get b = none := hf
  by_cases hlt : p < x.ini.length
  · have hlt' : (p : Int) < (x.ini.length : Int) := by omega
    simp (config := { maxSteps := 1000000 }) (disch := omega) only [hlt', h64, wordsN, Int.reduceGT, words, Nat.reduceAdd, Nat.reduceEqDiff, Nat.reduceBEq, ↓reduceIte, reduceCtorEq, SX.exit.injEq, if_true, if_false, Int.reduceAdd, Int.reduceSub, Int.reduceMul, Int.reduceLT, Int.reduceLE, Int.reduceEq, Int.reduceNe, Int.reduceNeg, Int.reduceToNat, Nat.reduceMul, Nat.reduceLT, Nat.reduceSub, Nat.reduceLeDiff]
    refine wS_loop (fun a : Nat × AV => [(1, .ptr 64 0 0), (3, v), (4, .int .i64 p), (5, a.2), (6, .int .i64 a.1)]) (fun a h2 n2 => a.1 ≤ x.tr.length ∧ (∀ b, b < n → h2.get b = h.get b) ∧ Fresh n2 h2 ∧ n ≤ n2 ∧ n2 ≤ n + 100 + a.1 * 100 ∧ Row h2 (fun b => n ≤ b ∧ b < n2) a.2 (ints ((incR x p).take a.1)) a.1 1)
      (fun a => x.tr.length - a.1) (0, .nilsl) (by repeat (first | exact Sub.nil | refine Sub.cons (by first | rfl | (rw [Int.natCast_add]; rfl)) ?_)) ⟨Nat.zero_le _, fun _ _ => rfl, hf.le (by omega), by omega, by omega, .nil⟩ ?_
    rintro ⟨t, u⟩ h2 n2 ⟨hti, hag, hf2, hnn, hnb, hu⟩
    dsimp only at hti hnb hu ⊢
    have h642 : h2.get 64 = some (.cells 0 [sli x.ini, tns x.tr]) := by rw [hag 64 hn0, h64]
    have hf20 : ∀ b, n2 ≤ b → h2.get b = none := hf2
    by_cases hlt2 : t < x.tr.length
    · obtain ⟨tt, htt⟩ := get_ex hlt2
      have hlt2' : (t : Int) < (x.tr.length : Int) := by omega
      have hd := drop_tns htt
      have hmm := List.mem_of_getElem? htt
      have hin := ho.inn tt hmm
      have hout := ho.out tt hmm
      have b1 := weightR_bound hin p
      have b2 := weightR_bound hout p
      simp (config := { maxSteps := 1000000 }) (disch := omega) only [hlt2', h642, hd, wordsN, Int.reduceGT, words, Nat.reduceAdd, Nat.reduceEqDiff, Nat.reduceBEq, ↓reduceIte, reduceCtorEq, SX.exit.injEq, if_true, if_false, Int.reduceAdd, Int.reduceSub, Int.reduceMul, Int.reduceLT, Int.reduceLE, Int.reduceEq, Int.reduceNe, Int.reduceNeg, Int.reduceToNat, Nat.reduceMul, Nat.reduceLT, Nat.reduceSub, Nat.reduceLeDiff]
      refine cp (weight tt.out p (by have := hout.len; omega)) ?_
      simp (config := { maxSteps := 1000000 }) (disch := omega) only [hlt2', h642, hd, wordsN, Int.reduceGT, words, Nat.reduceAdd, Nat.reduceEqDiff, Nat.reduceBEq, ↓reduceIte, reduceCtorEq, SX.exit.injEq, if_true, if_false, Int.reduceAdd, Int.reduceSub, Int.reduceMul, Int.reduceLT, Int.reduceLE, Int.reduceEq, Int.reduceNe, Int.reduceNeg, Int.reduceToNat, Nat.reduceMul, Nat.reduceLT, Nat.reduceSub, Nat.reduceLeDiff]
      refine cp (weight tt.inn p (by have := hin.len; omega)) ?_
      simp (config := { maxSteps := 1000000 }) (disch := omega) only [hlt2', h642, hd, hf20, wordsN, Int.reduceGT, words, Nat.reduceAdd, Nat.reduceEqDiff, Nat.reduceBEq, ↓reduceIte, reduceCtorEq, SX.exit.injEq, if_true, if_false, Int.reduceAdd, Int.reduceSub, Int.reduceMul, Int.reduceLT, Int.reduceLE, Int.reduceEq, Int.reduceNe, Int.reduceNeg, Int.reduceToNat, Nat.reduceMul, Nat.reduceLT, Nat.reduceSub, Nat.reduceLeDiff]
      have hstep : ints ((incR x p).take (t + 1)) = ints ((incR x p).take t) ++ [.int .i64 (weightR tt.out p - weightR tt.inn p)] := by
        rw [List.take_add_one, ints_append]
        congr 1
        simp [incR, htt, ints]
      refine app_set hu (hf2.le (by omega)) (by omega) (by omega) rfl rfl (by omega) (by omega) ?_
      intro v' h' hr' hf' hsame
      simp (config := { maxSteps := 1000000 }) (disch := omega) only [words, Nat.reduceAdd, Nat.reduceEqDiff, Nat.reduceBEq, ↓reduceIte, reduceCtorEq, SX.exit.injEq, if_true, if_false, Int.reduceAdd, Int.reduceSub, Int.reduceMul, Int.reduceLT, Int.reduceLE, Int.reduceEq, Int.reduceNe, Int.reduceNeg, Int.reduceToNat, Nat.reduceMul, Nat.reduceLT, Nat.reduceSub, Nat.reduceLeDiff]
      refine ⟨(t + 1, v'), by simp only; omega, by repeat (first | exact Sub.nil | refine Sub.cons (by first | rfl | (rw [Int.natCast_add]; rfl)) ?_), by simp only; omega, ?_, hf'.le (by omega), by omega, by simp only; omega, ?_⟩
      · intro b hb
        rw [hsame b (fun hc => by omega) (by omega), hag b hb]
      · rw [hstep]
        exact hr'.keep fun b hb hne => ⟨rfl, by omega⟩
    · have hlt2' : ¬ (t : Int) < (x.tr.length : Int) := by omega
      have e : t = x.tr.length := by omega
      have htk : (incR x p).take t = incR x p := List.take_of_length_le (by rw [incR_len]; omega)
      rw [htk] at hu
      have c1 := hu.cells1
      have c2 := hu.boxable
      simp (config := { maxSteps := 1000000 }) (disch := omega) only [hlt2', h642, hf20, c1, c2, wordsN, Int.reduceGT, words, Nat.reduceAdd, Nat.reduceEqDiff, Nat.reduceBEq, ↓reduceIte, reduceCtorEq, SX.exit.injEq, if_true, if_false, Int.reduceAdd, Int.reduceSub, Int.reduceMul, Int.reduceLT, Int.reduceLE, Int.reduceEq, Int.reduceNe, Int.reduceNeg, Int.reduceToNat, Nat.reduceMul, Nat.reduceLT, Nat.reduceSub, Nat.reduceLeDiff]
      have hu2 : ∀ k, n2 ≤ k → Row h2 (fun b => n ≤ b ∧ b < k) u ((incR x p).map (.int .i64)) (incR x p).length 1 := fun k hk => by
        rw [incR_len, ← e]; exact hu.keep fun b hb _ => ⟨rfl, hb.1, by omega⟩
      have hLl : ((List.range p).map (incR x)).length = p := by simp
      refine mat_app (l := incR x p) hm hag (hu2 _ (by omega)) (hf2.le (by omega)) (by omega) (by omega) (by omega) (by omega) (by rw [hLl]; omega) (by rw [hLl]; omega) ?_
      intro v' h' rows' hm' hf' hlo
      simp (config := { maxSteps := 1000000 }) (disch := omega) only [words, Nat.reduceAdd, Nat.reduceEqDiff, Nat.reduceBEq, ↓reduceIte, reduceCtorEq, SX.exit.injEq, if_true, if_false, Int.reduceAdd, Int.reduceSub, Int.reduceMul, Int.reduceLT, Int.reduceLE, Int.reduceEq, Int.reduceNe, Int.reduceNeg, Int.reduceToNat, Nat.reduceMul, Nat.reduceLT, Nat.reduceSub, Nat.reduceLeDiff]
      refine ⟨(p + 1, v', rows'), by simp only; omega, by repeat (first | exact Sub.nil | refine Sub.cons (by first | rfl | (rw [Int.natCast_add]; rfl)) ?_), by simp only; omega, ?_, hf'.le (by omega), by omega, by simp only; omega, ?_⟩
      · rw [hlo 64 (by omega), h64]
      · rw [range_take_succ]
        exact hm'.keep (by omega) fun b _ _ => rfl
  · have hlt' : ¬ (p : Int) < (x.ini.length : Int) := by omega
    have e : p = x.ini.length := by omega
    simp (config := { maxSteps := 1000000 }) (disch := omega) only [hlt', h64, wordsN, Int.reduceGT, words, Nat.reduceAdd, Nat.reduceEqDiff, Nat.reduceBEq, ↓reduceIte, reduceCtorEq, SX.exit.injEq, if_true, if_false, Int.reduceAdd, Int.reduceSub, Int.reduceMul, Int.reduceLT, Int.reduceLE, Int.reduceEq, Int.reduceNe, Int.reduceNeg, Int.reduceToNat, Nat.reduceMul, Nat.reduceLT, Nat.reduceSub, Nat.reduceLeDiff]
    refine ⟨by simp, _, rfl, ?_⟩
    have := hm.frz
    rw [e] at this
    simp [resOf, lk_cons]
    exact this
end Go.AM.SN
