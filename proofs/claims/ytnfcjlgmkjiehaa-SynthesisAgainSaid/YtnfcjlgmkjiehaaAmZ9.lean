/- A part of the proof of SynthesisAgainSaid: lemmas on the way (AmEw, AmEx, AmEy, AmEz, AmFa, AmFb, AmFc, AmFd, AmFe, AmFf). Conditions: none of ours. -/
import Derived.Test.YtnfcjlgmkjiehaaAmZ8
set_option linter.unusedSectionVars false
namespace Go.AM.SE
open Go.Proofs Go.AM.SD
set_option maxRecDepth 100000
set_option linter.unusedSimpArgs false
set_option linter.unusedVariables false
abbrev edV (e : Ed) : AV := .agg [.int .i64 (e.1 : Int), .int .i64 (e.2.1 : Int), .int .i64 (e.2.2 : Int)]
theorem aEq_ed (x y : Ed) : aEq (.flat true [.i, .i, .i]) true (edV x) (edV y) = some (.bool (!decide (x = y))) := by
  have : ∀ n m : Nat, decide ((n : Int) = (m : Int)) = decide (n = m) := fun n m => decide_eq_decide.2 (by omega)
  obtain ⟨a, b, c⟩ := x
  obtain ⟨a', b', c'⟩ := y
  simp only [aEq, eqCells, eqCell, if_true]
  simp only [Prod.mk.injEq, Bool.decide_and, this]
  cases decide (a = a') <;> cases decide (b = b') <;> cases decide (c = c') <;> rfl
theorem nz_inj {a b : List Nat} : decide (nz a = nz b) = decide (a = b) := by
  refine decide_eq_decide.2 ⟨fun h => ?_, fun h => by rw [h]⟩
  have : ∀ a b : List Nat, nz a = nz b → a = b := by
    intro a
    induction a with
    | nil => intro b h; cases b with
      | nil => rfl
      | cons => simp at h
    | cons x a ih => intro b h; cases b with
      | nil => simp at h
      | cons y b =>
        simp only [nz, List.map_cons, List.cons.injEq] at h
        rw [ih b h.2, show x = y by omega]
  exact this a b h
theorem eq14N (a b : List Nat) (hl : a.length ≤ 1000000) : PSpec Try.prog 14 [sliN a, sliN b] (.bool (decide (a = b))) := by
  have := sameInts (nz a) (nz b) (by simp; omega)
  rw [sli_nz, sli_nz, nz_inj] at this; exact this
def autB (x y : Aut) : Bool := decide (x.n = y.n) && (decide (x.al = y.al) && (decide (x.ms = y.ms) && decide (x.es = y.es)))
structure AOk (r : Aut) : Prop where
  al : r.al.length ≤ 1000000
  ms : r.ms.length ≤ 1000000
  es : r.es.length ≤ 10000000
set_option maxHeartbeats 32000000 in
theorem same30 (x y : Aut) (hx : AOk x) (hy : AOk y) : PSpec Try.prog 30 [aV x, aV y] (.bool (autB x y)) := by
  refine PSpec.of_flat 64 ok30 rfl (by (try simp only [noRefs, noRefs_u8, noRefs_keysI, noRefs_back, noRefs_ints, noRefs_eg, noRefs_ed, noRefs_rm, noRefs_ls, noRefs_bls, noRef, Bool.and_self, Bool.and_true]) <;> rfl) rfl ?_
  have c1 := eq14N x.al y.al hx.al
  have c2 := eq14N x.ms y.ms hx.ms
  unfold autB
  have hel := hx.es
  have hel2 := hy.es
  generalize decide (x.al = y.al) = b1 at *
  generalize decide (x.ms = y.ms) = b2 at *
  simp (maxSteps := 1000000) (disch := first | omega | exact PairsOK.mk rfl | (simp only [lenW] <;> omega)) only [s30, Int.reduceGT, ne_eq, List.length_replicate, wD, Nat.reduceAdd, Nat.reduceEqDiff, Nat.reduceBEq, ↓reduceIte, reduceCtorEq, SX.exit.injEq, if_true, if_false, Int.reduceAdd, Int.reduceSub, Int.reduceMul, Int.reduceLT, Int.reduceLE, Int.reduceEq, Int.reduceNe, Int.reduceNeg, Int.reduceToNat, Nat.reduceMul, Nat.reduceLT, Nat.reduceSub, Nat.reduceLeDiff]
  refine cp c1 ?_
  cases b1 with
  | false =>
    rw [Bool.false_and, Bool.and_false]
    simp (maxSteps := 1000000) (disch := first | omega | exact PairsOK.mk rfl | (simp only [lenW] <;> omega)) only [Int.reduceGT, ne_eq, List.length_replicate, wD, Nat.reduceAdd, Nat.reduceEqDiff, Nat.reduceBEq, ↓reduceIte, reduceCtorEq, SX.exit.injEq, if_true, if_false, Int.reduceAdd, Int.reduceSub, Int.reduceMul, Int.reduceLT, Int.reduceLE, Int.reduceEq, Int.reduceNe, Int.reduceNeg, Int.reduceToNat, Nat.reduceMul, Nat.reduceLT, Nat.reduceSub, Nat.reduceLeDiff]
    exact ⟨.inr trivial, _, rfl, rfl⟩
  | true =>
    by_cases h1 : x.n = y.n
    · rw [decide_eq_true h1, Bool.true_and, Bool.true_and]
      simp (maxSteps := 1000000) (disch := first | omega | exact PairsOK.mk rfl | (simp only [lenW] <;> omega)) only [h1, Int.reduceGT, ne_eq, List.length_replicate, wD, Nat.reduceAdd, Nat.reduceEqDiff, Nat.reduceBEq, ↓reduceIte, reduceCtorEq, SX.exit.injEq, if_true, if_false, Int.reduceAdd, Int.reduceSub, Int.reduceMul, Int.reduceLT, Int.reduceLE, Int.reduceEq, Int.reduceNe, Int.reduceNeg, Int.reduceToNat, Nat.reduceMul, Nat.reduceLT, Nat.reduceSub, Nat.reduceLeDiff]
      refine cp c2 ?_
      cases b2 with
      | false =>
        rw [Bool.false_and]
        simp (maxSteps := 1000000) (disch := first | omega | exact PairsOK.mk rfl | (simp only [lenW] <;> omega)) only [Int.reduceGT, ne_eq, List.length_replicate, wD, Nat.reduceAdd, Nat.reduceEqDiff, Nat.reduceBEq, ↓reduceIte, reduceCtorEq, SX.exit.injEq, if_true, if_false, Int.reduceAdd, Int.reduceSub, Int.reduceMul, Int.reduceLT, Int.reduceLE, Int.reduceEq, Int.reduceNe, Int.reduceNeg, Int.reduceToNat, Nat.reduceMul, Nat.reduceLT, Nat.reduceSub, Nat.reduceLeDiff]
        exact ⟨.inr trivial, _, rfl, rfl⟩
      | true =>
        rw [Bool.true_and]
        by_cases h4 : x.es.length = y.es.length
        · simp (maxSteps := 1000000) (disch := first | omega | exact PairsOK.mk rfl | (simp only [lenW] <;> omega)) only [h4, Int.reduceGT, ne_eq, List.length_replicate, wD, Nat.reduceAdd, Nat.reduceEqDiff, Nat.reduceBEq, ↓reduceIte, reduceCtorEq, SX.exit.injEq, if_true, if_false, Int.reduceAdd, Int.reduceSub, Int.reduceMul, Int.reduceLT, Int.reduceLE, Int.reduceEq, Int.reduceNe, Int.reduceNeg, Int.reduceToNat, Nat.reduceMul, Nat.reduceLT, Nat.reduceSub, Nat.reduceLeDiff]
          refine wS_loopR 100 (fun i : Nat => [(2, .ptr 50 0 0), (3, .ptr 60 0 0), (5, .int .i64 i)]) (fun _ => [(50, .cells 0 [sliN x.al, .int .i64 (y.n : Int), sliN x.ms, egsN x.es]), (60, .cells 0 [sliN y.al, .int .i64 (y.n : Int), sliN y.ms, egsN y.es])])
            (fun i => i ≤ y.es.length ∧ ∀ j, j < i → x.es[j]? = y.es[j]?) (fun i => y.es.length - i) 0 ⟨[(50, .blk 64 0), (60, .blk 65 0)], rfl, au0, au9, au10⟩ ⟨Nat.zero_le _, fun j hj => absurd hj (Nat.not_lt_zero _)⟩ ?_
          rintro i ⟨hi, hb⟩
          by_cases hlt : i < x.es.length
          · obtain ⟨p, hp⟩ := get_ex (l := x.es) (i := i) (by omega)
            obtain ⟨q, hq⟩ := get_ex (l := y.es) (i := i) (by omega)
            have hlt2 : i < y.es.length := by omega
            by_cases h0 : p = q
            · have hqq : aEq (.flat true [.i, .i, .i]) true (edV q) (edV q) = some (.bool false) := by rw [aEq_ed]; simp
              simp (maxSteps := 1000000) (disch := first | omega | exact PairsOK.mk rfl | (simp only [lenW] <;> omega)) only [hlt, hlt2, drop_eds hp, drop_eds hq, h0, hqq, Int.reduceGT, ne_eq, List.length_replicate, wD, Nat.reduceAdd, Nat.reduceEqDiff, Nat.reduceBEq, ↓reduceIte, reduceCtorEq, SX.exit.injEq, if_true, if_false, Int.reduceAdd, Int.reduceSub, Int.reduceMul, Int.reduceLT, Int.reduceLE, Int.reduceEq, Int.reduceNe, Int.reduceNeg, Int.reduceToNat, Nat.reduceMul, Nat.reduceLT, Nat.reduceSub, Nat.reduceLeDiff]
              refine ⟨i + 1, by omega, ⟨by omega, fun j hj => ?_⟩, ⟨[(50, .blk 50 0), (60, .blk 60 0)], rfl, au0, au9, au10⟩⟩
              by_cases e : j = i
              · subst e; rw [hp, hq, h0]
              · exact hb j (by omega)
            · have hqq : aEq (.flat true [.i, .i, .i]) true (edV p) (edV q) = some (.bool true) := by rw [aEq_ed]; simp [h0]
              simp (maxSteps := 1000000) (disch := first | omega | exact PairsOK.mk rfl | (simp only [lenW] <;> omega)) only [hlt, hlt2, drop_eds hp, drop_eds hq, hqq, Int.reduceGT, ne_eq, List.length_replicate, wD, Nat.reduceAdd, Nat.reduceEqDiff, Nat.reduceBEq, ↓reduceIte, reduceCtorEq, SX.exit.injEq, if_true, if_false, Int.reduceAdd, Int.reduceSub, Int.reduceMul, Int.reduceLT, Int.reduceLE, Int.reduceEq, Int.reduceNe, Int.reduceNeg, Int.reduceToNat, Nat.reduceMul, Nat.reduceLT, Nat.reduceSub, Nat.reduceLeDiff]
              refine ⟨.inr trivial, _, rfl, ?_⟩
              have : x.es ≠ y.es := fun e => by rw [e, hq] at hp; cases hp; exact h0 rfl
              simp [resOf, lk_cons, this]
          · have : x.es = y.es := List.ext_getElem? fun j => by
              by_cases hj : j < i
              · exact hb j hj
              · rw [List.getElem?_eq_none (by omega), List.getElem?_eq_none (by omega)]
            simp (maxSteps := 1000000) (disch := first | omega | exact PairsOK.mk rfl | (simp only [lenW] <;> omega)) only [hlt, Int.reduceGT, ne_eq, List.length_replicate, wD, Nat.reduceAdd, Nat.reduceEqDiff, Nat.reduceBEq, ↓reduceIte, reduceCtorEq, SX.exit.injEq, if_true, if_false, Int.reduceAdd, Int.reduceSub, Int.reduceMul, Int.reduceLT, Int.reduceLE, Int.reduceEq, Int.reduceNe, Int.reduceNeg, Int.reduceToNat, Nat.reduceMul, Nat.reduceLT, Nat.reduceSub, Nat.reduceLeDiff]
            exact ⟨.inr trivial, _, rfl, by simp [resOf, lk_cons, this]⟩
        · simp (maxSteps := 1000000) (disch := first | omega | exact PairsOK.mk rfl | (simp only [lenW] <;> omega)) only [h4, Int.reduceGT, ne_eq, List.length_replicate, wD, Nat.reduceAdd, Nat.reduceEqDiff, Nat.reduceBEq, ↓reduceIte, reduceCtorEq, SX.exit.injEq, if_true, if_false, Int.reduceAdd, Int.reduceSub, Int.reduceMul, Int.reduceLT, Int.reduceLE, Int.reduceEq, Int.reduceNe, Int.reduceNeg, Int.reduceToNat, Nat.reduceMul, Nat.reduceLT, Nat.reduceSub, Nat.reduceLeDiff]
          have : x.es ≠ y.es := fun e => h4 (by rw [e])
          exact ⟨.inr trivial, _, rfl, by simp [resOf, lk_cons, this]⟩
    · rw [decide_eq_false h1, Bool.false_and]
      simp (maxSteps := 1000000) (disch := first | omega | exact PairsOK.mk rfl | (simp only [lenW] <;> omega)) only [h1, Int.reduceGT, ne_eq, List.length_replicate, wD, Nat.reduceAdd, Nat.reduceEqDiff, Nat.reduceBEq, ↓reduceIte, reduceCtorEq, SX.exit.injEq, if_true, if_false, Int.reduceAdd, Int.reduceSub, Int.reduceMul, Int.reduceLT, Int.reduceLE, Int.reduceEq, Int.reduceNe, Int.reduceNeg, Int.reduceToNat, Nat.reduceMul, Nat.reduceLT, Nat.reduceSub, Nat.reduceLeDiff]
      exact ⟨.inr trivial, _, rfl, rfl⟩
theorem autB_refl (x : Aut) : autB x x = true := by simp [autB]
end Go.AM.SE
namespace Go.AM.SE
open Go.Proofs Go.AM.SD
set_option maxRecDepth 100000
set_option linter.unusedSimpArgs false
set_option linter.unusedVariables false
abbrev rsA (a : Aut) : List AV := [sliN a.al, .int .i64 (a.n : Int), sliN a.ms, egsN a.es]
abbrev rsN : List AV := [.nilsl, .int .i64 0, .nilsl, .nilsl]
end Go.AM.SE
namespace Go.AM.SE
open Go.Proofs Go.AM.SD
set_option maxRecDepth 100000
set_option linter.unusedSimpArgs false
set_option linter.unusedVariables false
end Go.AM.SE
namespace Go.AM.SE
open Go.Proofs Go.AM.SD
set_option maxRecDepth 100000
set_option linter.unusedSimpArgs false
set_option linter.unusedVariables false
end Go.AM.SE
set_option linter.unusedSimpArgs false
set_option linter.unusedVariables false
namespace Go.AM.SD
theorem eq_of_memG {α : Type} (f : α → Nat) : ∀ {l l' : List α}, l.Pairwise (fun a b => f a < f b) → l'.Pairwise (fun a b => f a < f b) → (∀ p, p ∈ l ↔ p ∈ l') → l = l'
  | [], [], _, _, _ => rfl
  | [], y :: l', _, _, hm => absurd ((hm y).2 (by simp)) (by simp)
  | x :: l, [], _, _, hm => absurd ((hm x).1 (by simp)) (by simp)
  | x :: l, y :: l', h, h', hm => by
    rw [List.pairwise_cons] at h h'
    have hxy : x = y := by
      rcases List.mem_cons.1 ((hm x).1 (by simp)) with e | h1
      · exact e
      · rcases List.mem_cons.1 ((hm y).2 (by simp)) with e | h2
        · exact e.symm
        · have a := h'.1 x h1; have b := h.1 y h2; omega
    subst hxy
    have : l = l' := eq_of_memG f h.2 h'.2 fun p => by
      constructor
      · intro hp
        rcases List.mem_cons.1 ((hm p).1 (List.mem_cons_of_mem _ hp)) with e | h1
        · subst e; have := h.1 _ hp; omega
        · exact h1
      · intro hp
        rcases List.mem_cons.1 ((hm p).2 (List.mem_cons_of_mem _ hp)) with e | h1
        · subst e; have := h'.1 _ hp; omega
        · exact h1
    rw [this]
theorem uniqE {es : List Ed} (h : es.Pairwise fun x y => x.1 < y.1 ∨ (x.1 = y.1 ∧ x.2.1 < y.2.1)) {e e' : Ed} (he : e ∈ es) (he' : e' ∈ es) (h1 : e.1 = e'.1) (h2 : e.2.1 = e'.2.1) : e = e' := by
  induction h with
  | nil => cases he
  | cons hx _ ih =>
    rcases List.mem_cons.1 he with rfl | m1 <;> rcases List.mem_cons.1 he' with rfl | m2
    · rfl
    · have := hx _ m2; omega
    · have := hx _ m1; omega
    · exact ih m1 m2
theorem stepA_mem {es : List Ed} (h : es.Pairwise fun x y => x.1 < y.1 ∨ (x.1 = y.1 ∧ x.2.1 < y.2.1)) {v ev to : Nat} : stepA es v ev = some to ↔ ((v, ev, to) : Ed) ∈ es := by
  unfold stepA
  constructor
  · intro hs
    cases hf : es.find? fun e => e.1 == v && e.2.1 == ev with
    | none => rw [hf] at hs; cases hs
    | some e =>
      rw [hf] at hs; cases hs
      have h1 := List.find?_some hf
      simp only [Bool.and_eq_true, beq_iff_eq] at h1
      have h2 := List.mem_of_find?_eq_some hf
      obtain ⟨a, b, c⟩ := e
      obtain ⟨rfl, rfl⟩ := h1
      exact h2
  · intro hm
    cases hf : es.find? fun e => e.1 == v && e.2.1 == ev with
    | none =>
      rw [List.find?_eq_none] at hf
      exact absurd (by simp) (hf _ hm)
    | some e =>
      have h1 := List.find?_some hf
      simp only [Bool.and_eq_true, beq_iff_eq] at h1
      rw [uniqE h (List.mem_of_find?_eq_some hf) hm h1.1 h1.2]; rfl
theorem sOut_ev {a : Aut} (h : WfA a) (v : Nat) : sOut a.es (fun _ => true) v = a.al.filterMap fun ev => (stepA a.es v ev).map fun to => ((v, ev, to) : Ed) := by
  refine eq_of_memG (fun e : Ed => e.2.1) ?_ ?_ fun e => ?_
  · have h1 : (sOut a.es (fun _ => true) v).Pairwise fun x y => x.1 < y.1 ∨ (x.1 = y.1 ∧ x.2.1 < y.2.1) := h.es.filter _
    refine h1.imp_of_mem fun {x y} hx hy hr => ?_
    have h2 := (mem_sOut.1 hx).2.1
    have h3 := (mem_sOut.1 hy).2.1
    omega
  · refine List.Pairwise.filterMap _ (R := (· < ·)) ?_ h.al
    intro x y hxy p hp q hq
    cases hs : stepA a.es v x with
    | none => rw [hs] at hp; cases hp
    | some to =>
      cases hs2 : stepA a.es v y with
      | none => rw [hs2] at hq; cases hq
      | some to2 => rw [hs] at hp; rw [hs2] at hq; cases hp; cases hq; exact hxy
  · rw [mem_sOut, List.mem_filterMap]
    constructor
    · rintro ⟨he, rfl, _⟩
      obtain ⟨x, y, z⟩ := e
      exact ⟨y, h.ev _ he, by rw [(stepA_mem h.es).2 he]; rfl⟩
    · rintro ⟨ev, hev, hm⟩
      cases hs : stepA a.es v ev with
      | none => rw [hs] at hm; cases hm
      | some to => rw [hs] at hm; cases hm; exact ⟨(stepA_mem h.es).1 hs, rfl, rfl⟩
theorem sRow_fst {a : Aut} (h : WfA a) (i v : Nat) (s : OE) : (sRow a.es (fun _ => true) i v s).1 = fRow a.al a.es v s.1 := by
  unfold sRow fRow
  rw [sOut_ev h]
  have key : ∀ (al : List Nat) (s : OE), ((al.filterMap fun ev => (stepA a.es v ev).map fun to => ((v, ev, to) : Ed)).foldl (sEd i) s).1 = al.foldl (fEv a.es v) s.1 := by
    intro al
    induction al with
    | nil => intro s; rfl
    | cons ev al ih =>
      intro s
      rw [List.filterMap_cons, List.foldl_cons]
      cases hs : stepA a.es v ev with
      | none =>
        have e : fEv a.es v s.1 ev = s.1 := by unfold fEv; rw [hs]
        rw [e]; exact ih s
      | some to =>
        have e : fEv a.es v s.1 ev = if s.1.contains to then s.1 else s.1 ++ [to] := by unfold fEv; rw [hs]
        dsimp only [Option.map_some]
        rw [List.foldl_cons, ih, e]
        congr 1
        unfold sEd
        split <;> rfl
  exact key a.al s
theorem sQ_fst {a : Aut} (h : WfA a) : ∀ (k i : Nat) (s : OE), (sQ a.es (fun _ => true) k i s).1 = fQ a.al a.es k i s.1
  | 0, _, _ => rfl
  | k + 1, i, s => by
    unfold sQ fQ
    cases s.1[i]? with
    | none => rfl
    | some v => dsimp only; rw [sQ_fst h k, sRow_fst h]
theorem sAll_fst {a : Aut} (h : WfA a) : (sAll a fun _ => true).1 = found a := by
  unfold sAll found
  rw [sQ_fst h]
  by_cases h0 : 0 < a.n
  · rw [if_pos (by simp [h0]), if_pos h0]
  · rw [if_neg (by simp [h0]), if_neg h0]
theorem canon_restr {a : Aut} (h : WfA a) : canon a = restr a (fun _ => true) := by
  have hs := (sAll_ok (left := fun _ => true) h).1
  have hf := sAll_fst h
  have he : (sAll a fun _ => true).2 = cRows a (found a) := by
    rw [hs.ed, hf]
    unfold cRows
    rw [List.flatMap_def, List.flatMap_def]
    congr 1
    refine List.map_congr_left fun i _ => ?_
    rw [sOut_ev h]
    unfold cRow
    rw [List.map_filterMap]
    congr 1
    funext ev
    rw [Option.map_map]; rfl
  unfold canon restr
  rw [he, hf]
end Go.AM.SD
namespace Go.AM.SE
open Go.Proofs Go.AM.SD
set_option maxRecDepth 100000
set_option linter.unusedSimpArgs false
set_option linter.unusedVariables false
theorem shr1 {i j : Nat} : aBin .shr (.int .u64 ((i : Int) + (j : Int))) (.int .u64 1) = some (.int .u64 (((i + j) / 2 : Nat) : Int)) := by
  have h : (((i : Int) + (j : Int)).fdiv (2 ^ (min (1 : Int).toNat 64))) = (((i + j) / 2 : Nat) : Int) := by
    rw [show min (1 : Int).toNat 64 = 1 from rfl, Int.fdiv_eq_ediv_of_nonneg _ (by decide)]; omega
  show (if (1 : Int) < 0 then none else some (AV.int .u64 (((i : Int) + (j : Int)).fdiv (2 ^ (min (1 : Int).toNat 64))))) = _
  rw [if_neg (by decide), h]
def lbN (l : List Nat) (t : Nat) : Nat := l.countP fun x => decide (x < t)
theorem lb_eq : ∀ {l : List Nat} {t i : Nat}, i ≤ l.length → (∀ j, j < i → l.getD j 0 < t) → (∀ j, i ≤ j → j < l.length → ¬ l.getD j 0 < t) → lbN l t = i
  | [], t, i, hi, _, _ => by simp at hi; subst hi; rfl
  | x :: l, t, 0, _, _, h2 => by
    unfold lbN
    rw [List.countP_eq_zero]
    intro y hy
    obtain ⟨q, hq, hql⟩ := mem_at hy
    have := h2 q (Nat.zero_le _) hql
    rw [List.getD_eq_getElem?_getD, hq] at this
    simpa using this
  | x :: l, t, i + 1, hi, h1, h2 => by
    have hx : x < t := by have := h1 0 (by omega); simpa using this
    have := lb_eq (l := l) (t := t) (i := i) (by simpa using hi) (fun j hj => by have := h1 (j + 1) (by omega); simpa using this) (fun j hj hl => by have := h2 (j + 1) (by omega) (by simpa using hl); simpa using this)
    unfold lbN at this ⊢
    rw [List.countP_cons, this, if_pos (by simpa using hx)]
theorem lb_le {l : List Nat} {t : Nat} : lbN l t ≤ l.length := List.countP_le_length
theorem srt_get {l : List Nat} (h : l.Pairwise (· ≤ ·)) {p q : Nat} (hpq : p ≤ q) (hq : q < l.length) : l.getD p 0 ≤ l.getD q 0 := by
  rw [List.getD_eq_getElem?_getD, List.getD_eq_getElem?_getD, List.getElem?_eq_getElem (by omega), List.getElem?_eq_getElem hq]
  rcases Nat.lt_or_eq_of_le hpq with h1 | h1
  · exact List.pairwise_iff_getElem.1 h p q (by omega) hq h1
  · subst h1; exact Nat.le_refl _
theorem has_lb {l : List Nat} (h : l.Pairwise (· ≤ ·)) {t i : Nat} (h1 : ∀ j, j < i → l.getD j 0 < t) (h2 : ∀ j, i ≤ j → j < l.length → ¬ l.getD j 0 < t) : l.contains t = decide (i < l.length ∧ l.getD i 0 = t) := by
  rw [Bool.eq_iff_iff, decide_eq_true_iff, List.contains_iff_mem]
  constructor
  · intro hm
    obtain ⟨q, hq, hql⟩ := mem_at hm
    have hqd : l.getD q 0 = t := by rw [List.getD_eq_getElem?_getD, hq]; rfl
    have hiq : i ≤ q := by
      refine Nat.le_of_not_lt fun h3 => ?_
      have := h1 q h3; omega
    have h4 := srt_get h hiq hql
    have h5 := h2 i (Nat.le_refl _) (by omega)
    exact ⟨by omega, by omega⟩
  · rintro ⟨hi, e⟩
    rw [← e, List.getD_eq_getElem?_getD, List.getElem?_eq_getElem hi]
    exact List.getElem_mem hi
theorem nan81 (x : Int) : PSpec Try.prog 81 [.int .i64 x] (.bool false) := by
  refine PSpec.of_flat 64 ok81 rfl (by (try simp only [noRefs, noRefs_u8, noRefs_keysI, noRefs_back, noRefs_ints, noRefs_eg, noRefs_ed, noRefs_rm, noRefs_ls, noRefs_bls, noRef, Bool.and_self, Bool.and_true]) <;> rfl) rfl ?_
  simp (maxSteps := 1000000) (disch := first | omega | exact PairsOK.mk rfl | (simp only [lenW] <;> omega)) only [s81, Int.reduceGT, ne_eq, List.length_replicate, wD, Nat.reduceAdd, Nat.reduceEqDiff, Nat.reduceBEq, ↓reduceIte, reduceCtorEq, SX.exit.injEq, if_true, if_false, Int.reduceAdd, Int.reduceSub, Int.reduceMul, Int.reduceLT, Int.reduceLE, Int.reduceEq, Int.reduceNe, Int.reduceNeg, Int.reduceToNat, Nat.reduceMul, Nat.reduceLT, Nat.reduceSub, Nat.reduceLeDiff]
  exact ⟨.inr trivial, _, rfl, rfl⟩
theorem nan66 (x : Int) : PSpec Try.prog 66 [.int .i64 x] (.bool false) := by
  refine PSpec.of_flat 64 ok66 rfl (by (try simp only [noRefs, noRefs_u8, noRefs_keysI, noRefs_back, noRefs_ints, noRefs_eg, noRefs_ed, noRefs_rm, noRefs_ls, noRefs_bls, noRef, Bool.and_self, Bool.and_true]) <;> rfl) rfl ?_
  simp (maxSteps := 1000000) (disch := first | omega | exact PairsOK.mk rfl | (simp only [lenW] <;> omega)) only [s66, Int.reduceGT, ne_eq, List.length_replicate, wD, Nat.reduceAdd, Nat.reduceEqDiff, Nat.reduceBEq, ↓reduceIte, reduceCtorEq, SX.exit.injEq, if_true, if_false, Int.reduceAdd, Int.reduceSub, Int.reduceMul, Int.reduceLT, Int.reduceLE, Int.reduceEq, Int.reduceNe, Int.reduceNeg, Int.reduceToNat, Nat.reduceMul, Nat.reduceLT, Nat.reduceSub, Nat.reduceLeDiff]
  exact ⟨.inr trivial, _, rfl, rfl⟩
theorem less65 (x y : Int) : PSpec Try.prog 65 [.int .i64 x, .int .i64 y] (.bool (decide (x < y))) := by
  refine PSpec.of_flat 64 ok65 rfl (by (try simp only [noRefs, noRefs_u8, noRefs_keysI, noRefs_back, noRefs_ints, noRefs_eg, noRefs_ed, noRefs_rm, noRefs_ls, noRefs_bls, noRef, Bool.and_self, Bool.and_true]) <;> rfl) rfl ?_
  simp (maxSteps := 1000000) (disch := first | omega | exact PairsOK.mk rfl | (simp only [lenW] <;> omega)) only [s65, Int.reduceGT, ne_eq, List.length_replicate, wD, Nat.reduceAdd, Nat.reduceEqDiff, Nat.reduceBEq, ↓reduceIte, reduceCtorEq, SX.exit.injEq, if_true, if_false, Int.reduceAdd, Int.reduceSub, Int.reduceMul, Int.reduceLT, Int.reduceLE, Int.reduceEq, Int.reduceNe, Int.reduceNeg, Int.reduceToNat, Nat.reduceMul, Nat.reduceLT, Nat.reduceSub, Nat.reduceLeDiff]
  refine cp (nan81 x) ?_
  simp (maxSteps := 1000000) (disch := first | omega | exact PairsOK.mk rfl | (simp only [lenW] <;> omega)) only [Int.reduceGT, ne_eq, List.length_replicate, wD, Nat.reduceAdd, Nat.reduceEqDiff, Nat.reduceBEq, ↓reduceIte, reduceCtorEq, SX.exit.injEq, if_true, if_false, Int.reduceAdd, Int.reduceSub, Int.reduceMul, Int.reduceLT, Int.reduceLE, Int.reduceEq, Int.reduceNe, Int.reduceNeg, Int.reduceToNat, Nat.reduceMul, Nat.reduceLT, Nat.reduceSub, Nat.reduceLeDiff]
  exact ⟨.inr trivial, _, rfl, rfl⟩
set_option maxHeartbeats 8000000 in
theorem find57 (l : List Nat) (t : Nat) (hs : l.Pairwise (· ≤ ·)) (hl : l.length ≤ 1000000) : PSpec Try.prog 57 [sliN l, .int .i64 (t : Int)] (.tup [.int .i64 (lbN l t : Int), .bool (l.contains t)]) := by
  refine PSpec.of_flat 64 ok57 rfl (by (try simp only [noRefs, noRefs_u8, noRefs_keysI, noRefs_back, noRefs_ints, noRefs_eg, noRefs_ed, noRefs_rm, noRefs_ls, noRefs_bls, noRef, Bool.and_self, Bool.and_true]) <;> rfl) rfl ?_
  simp (maxSteps := 1000000) (disch := first | omega | exact PairsOK.mk rfl | (simp only [lenW] <;> omega)) only [s57, Int.reduceGT, ne_eq, List.length_replicate, wD, Nat.reduceAdd, Nat.reduceEqDiff, Nat.reduceBEq, ↓reduceIte, reduceCtorEq, SX.exit.injEq, if_true, if_false, Int.reduceAdd, Int.reduceSub, Int.reduceMul, Int.reduceLT, Int.reduceLE, Int.reduceEq, Int.reduceNe, Int.reduceNeg, Int.reduceToNat, Nat.reduceMul, Nat.reduceLT, Nat.reduceSub, Nat.reduceLeDiff]
  refine wS_loopX 100 (fun p : Nat × Nat => [(0, sliN l), (1, .int .i64 (t : Int)), (6, .int .i64 l.length), (7, .int .i64 p.1), (8, .int .i64 p.2)]) (fun _ => [])
    (fun p => p.1 ≤ p.2 ∧ p.2 ≤ l.length ∧ (∀ q, q < p.1 → l.getD q 0 < t) ∧ ∀ q, p.2 ≤ q → q < l.length → ¬ l.getD q 0 < t) (fun p => p.2 - p.1) (0, l.length) 0 140
    (fun i : Nat => [(0, sliN l), (1, .int .i64 (t : Int)), (6, .int .i64 l.length), (7, .int .i64 i)]) (fun _ => [])
    (fun i => i ≤ l.length ∧ (∀ q, q < i → l.getD q 0 < t) ∧ ∀ q, i ≤ q → q < l.length → ¬ l.getD q 0 < t) ?_ ⟨Nat.zero_le _, Nat.le_refl _, fun q hq => absurd hq (Nat.not_lt_zero _), fun q h1 h2 => by omega⟩ ?_ ?_
  · exact ⟨[], rfl, au0, au9, au10⟩
  · rintro ⟨i, j⟩ ⟨hij, hj, h1, h2⟩
    dsimp only at hij hj h1 h2 ⊢
    by_cases hlt : i < j
    · obtain ⟨k, hk, hk1, hk2⟩ : ∃ k : Nat, aBin .shr (.int .u64 ((i : Int) + (j : Int))) (.int .u64 1) = some (.int .u64 (k : Int)) ∧ i ≤ k ∧ k < j := ⟨(i + j) / 2, shr1, by omega, by omega⟩
      have hkl : k < l.length := by omega
      have hkx : l[k]? = some (l.getD k 0) := by rw [List.getElem?_eq_getElem hkl]; simp [hkl]
      simp (maxSteps := 1000000) (disch := first | omega | exact PairsOK.mk rfl | (simp only [lenW] <;> omega)) only [hlt, hk, hkl, head_nz hkx, Int.reduceGT, ne_eq, List.length_replicate, wD, Nat.reduceAdd, Nat.reduceEqDiff, Nat.reduceBEq, ↓reduceIte, reduceCtorEq, SX.exit.injEq, if_true, if_false, Int.reduceAdd, Int.reduceSub, Int.reduceMul, Int.reduceLT, Int.reduceLE, Int.reduceEq, Int.reduceNe, Int.reduceNeg, Int.reduceToNat, Nat.reduceMul, Nat.reduceLT, Nat.reduceSub, Nat.reduceLeDiff]
      refine cp (less65 _ _) ?_
      by_cases hc : l.getD k 0 < t
      · rw [decide_eq_true (by omega)]
        simp (maxSteps := 1000000) (disch := first | omega | exact PairsOK.mk rfl | (simp only [lenW] <;> omega)) only [Int.reduceGT, ne_eq, List.length_replicate, wD, Nat.reduceAdd, Nat.reduceEqDiff, Nat.reduceBEq, ↓reduceIte, reduceCtorEq, SX.exit.injEq, if_true, if_false, Int.reduceAdd, Int.reduceSub, Int.reduceMul, Int.reduceLT, Int.reduceLE, Int.reduceEq, Int.reduceNe, Int.reduceNeg, Int.reduceToNat, Nat.reduceMul, Nat.reduceLT, Nat.reduceSub, Nat.reduceLeDiff]
        refine ⟨(k + 1, j), by dsimp only; omega, ⟨by dsimp only; omega, hj, fun q hq => ?_, h2⟩, ⟨[], rfl, au0, au9, au10⟩⟩
        have := srt_get hs (p := q) (q := k) (by dsimp only at hq; omega) hkl
        omega
      · rw [decide_eq_false (by omega)]
        simp (maxSteps := 1000000) (disch := first | omega | exact PairsOK.mk rfl | (simp only [lenW] <;> omega)) only [Int.reduceGT, ne_eq, List.length_replicate, wD, Nat.reduceAdd, Nat.reduceEqDiff, Nat.reduceBEq, ↓reduceIte, reduceCtorEq, SX.exit.injEq, if_true, if_false, Int.reduceAdd, Int.reduceSub, Int.reduceMul, Int.reduceLT, Int.reduceLE, Int.reduceEq, Int.reduceNe, Int.reduceNeg, Int.reduceToNat, Nat.reduceMul, Nat.reduceLT, Nat.reduceSub, Nat.reduceLeDiff]
        refine ⟨(i, k), by dsimp only; omega, ⟨hk1, by dsimp only; omega, h1, fun q hq hql => ?_⟩, ⟨[], rfl, au0, au9, au10⟩⟩
        have := srt_get hs (p := k) (q := q) hq hql
        omega
    · have e : i = j := by omega
      subst e
      simp (maxSteps := 1000000) (disch := first | omega | exact PairsOK.mk rfl | (simp only [lenW] <;> omega)) only [hlt, Int.reduceGT, ne_eq, List.length_replicate, wD, Nat.reduceAdd, Nat.reduceEqDiff, Nat.reduceBEq, ↓reduceIte, reduceCtorEq, SX.exit.injEq, if_true, if_false, Int.reduceAdd, Int.reduceSub, Int.reduceMul, Int.reduceLT, Int.reduceLE, Int.reduceEq, Int.reduceNe, Int.reduceNeg, Int.reduceToNat, Nat.reduceMul, Nat.reduceLT, Nat.reduceSub, Nat.reduceLeDiff]
      exact ⟨i, ⟨hj, h1, h2⟩, ⟨[], rfl, au0, au9, au10⟩⟩
  rintro i ⟨hi, h1, h2⟩
  rw [lb_eq hi h1 h2, has_lb hs h1 h2]
  by_cases hlt : i < l.length
  · have hx : l[i]? = some (l.getD i 0) := by rw [List.getElem?_eq_getElem hlt]; simp [hlt]
    by_cases he : l.getD i 0 = t
    · rw [decide_eq_true ⟨hlt, he⟩]
      rw [he] at hx
      simp (maxSteps := 1000000) (disch := first | omega | exact PairsOK.mk rfl | (simp only [lenW] <;> omega)) only [hlt, head_nz hx, Int.reduceGT, ne_eq, List.length_replicate, wD, Nat.reduceAdd, Nat.reduceEqDiff, Nat.reduceBEq, ↓reduceIte, reduceCtorEq, SX.exit.injEq, if_true, if_false, Int.reduceAdd, Int.reduceSub, Int.reduceMul, Int.reduceLT, Int.reduceLE, Int.reduceEq, Int.reduceNe, Int.reduceNeg, Int.reduceToNat, Nat.reduceMul, Nat.reduceLT, Nat.reduceSub, Nat.reduceLeDiff]
      exact ⟨.inr trivial, _, rfl, rfl⟩
    · rw [decide_eq_false fun h => he h.2]
      generalize l.getD i 0 = y at *
      have he' : ¬ (y : Int) = (t : Int) := by omega
      simp (maxSteps := 1000000) (disch := first | omega | exact PairsOK.mk rfl | (simp only [lenW] <;> omega)) only [hlt, head_nz hx, he', Int.reduceGT, ne_eq, List.length_replicate, wD, Nat.reduceAdd, Nat.reduceEqDiff, Nat.reduceBEq, ↓reduceIte, reduceCtorEq, SX.exit.injEq, if_true, if_false, Int.reduceAdd, Int.reduceSub, Int.reduceMul, Int.reduceLT, Int.reduceLE, Int.reduceEq, Int.reduceNe, Int.reduceNeg, Int.reduceToNat, Nat.reduceMul, Nat.reduceLT, Nat.reduceSub, Nat.reduceLeDiff]
      refine cp (nan66 _) ?_
      simp (maxSteps := 1000000) (disch := first | omega | exact PairsOK.mk rfl | (simp only [lenW] <;> omega)) only [Int.reduceGT, ne_eq, List.length_replicate, wD, Nat.reduceAdd, Nat.reduceEqDiff, Nat.reduceBEq, ↓reduceIte, reduceCtorEq, SX.exit.injEq, if_true, if_false, Int.reduceAdd, Int.reduceSub, Int.reduceMul, Int.reduceLT, Int.reduceLE, Int.reduceEq, Int.reduceNe, Int.reduceNeg, Int.reduceToNat, Nat.reduceMul, Nat.reduceLT, Nat.reduceSub, Nat.reduceLeDiff]
      exact ⟨.inr trivial, _, rfl, rfl⟩
  · rw [decide_eq_false fun h => hlt h.1]
    simp (maxSteps := 1000000) (disch := first | omega | exact PairsOK.mk rfl | (simp only [lenW] <;> omega)) only [hlt, Int.reduceGT, ne_eq, List.length_replicate, wD, Nat.reduceAdd, Nat.reduceEqDiff, Nat.reduceBEq, ↓reduceIte, reduceCtorEq, SX.exit.injEq, if_true, if_false, Int.reduceAdd, Int.reduceSub, Int.reduceMul, Int.reduceLT, Int.reduceLE, Int.reduceEq, Int.reduceNe, Int.reduceNeg, Int.reduceToNat, Nat.reduceMul, Nat.reduceLT, Nat.reduceSub, Nat.reduceLeDiff]
    exact ⟨.inr trivial, _, rfl, rfl⟩
end Go.AM.SE
namespace Go.AM.SE
open Go.Proofs Go.AM.SD
set_option linter.unusedSimpArgs false
set_option linter.unusedVariables false
theorem sorted_get {l : List Nat} (h : l.Pairwise (· < ·)) {p q : Nat} (hpq : p < q) (hq : q < l.length) : l.getD p 0 < l.getD q 0 := by
  rw [List.getD_eq_getElem?_getD, List.getD_eq_getElem?_getD, List.getElem?_eq_getElem (by omega), List.getElem?_eq_getElem hq]
  exact List.pairwise_iff_getElem.1 h p q (by omega) hq hpq
theorem gRaw_wf {al : List Nat} {st mk : Nat} {T : List Nat} (hs : al.Pairwise (· < ·)) (h5 : ∀ x ∈ al, x < 5) : WfA (gRaw al st mk T) := by
  have hr := gRaw_raw (st := st) (mk := mk) (T := T) (sorted_len hs h5)
  have hesn := hr.esn
  have hn5 := hr.n5
  unfold gRaw at hesn hn5 ⊢
  split
  · exact ⟨hs, h5, by simp, by simp, by simp, by simp, by simp, by simp⟩
  · rename_i hst
    rw [if_neg hst] at hesn hn5
    have hev : ∀ i, ∀ e ∈ gRow al (1 + st % 5) T i al.length, e.1 = i ∧ ∃ j, j < al.length ∧ e.2.1 = al.getD j 0 := fun i e he => by
      unfold gRow at he
      obtain ⟨j, hj, hm⟩ := List.mem_filterMap.1 he
      unfold gEd at hm
      split at hm
      · cases hm; exact ⟨rfl, j, List.mem_range.1 hj, rfl⟩
      · cases hm
    refine ⟨hs, h5, hn5, part_sorted _ _, part_lt, ?_, hesn, fun e he => ?_⟩
    · show (gPre _ _ _ _).Pairwise _
      unfold gPre
      refine pairwise_flatMap (fun i _ => ?_) (List.pairwise_lt_range.imp fun hij x hx y hy => .inl ?_)
      · unfold gRow
        refine List.Pairwise.filterMap _ (R := fun j j' => j < j' ∧ j' < al.length) ?_ (List.pairwise_lt_range.imp_of_mem fun _ hb h => ⟨h, List.mem_range.1 hb⟩)
        rintro x y ⟨hxy, hy⟩ p hp q hq
        unfold gEd at hp hq
        split at hp
        · split at hq
          · cases hp; cases hq; exact .inr ⟨rfl, sorted_get hs hxy hy⟩
          · cases hq
        · cases hp
      · rw [(hev _ x hx).1, (hev _ y hy).1]; exact hij
    · unfold gPre at he
      obtain ⟨i, _, he⟩ := List.mem_flatMap.1 he
      obtain ⟨_, j, hj, hje⟩ := hev i e he
      show e.2.1 ∈ al
      rw [hje, List.getD_eq_getElem?_getD, List.getElem?_eq_getElem hj]
      exact List.getElem_mem hj
theorem tA_same (t : Tsk) : restr (tA t) (fun _ => true) = tA t := by
  have h := gRaw_wf (al := SD.part 5 t.set) (st := t.st) (mk := t.mr) (T := t.T) (part_sorted _ _) part_lt
  show restr (canon _) _ = canon _
  rw [canon_restr h]; exact restr_again h
def allM (a : Aut) : Aut := ⟨a.al, a.n, List.range a.n, a.es⟩
theorem allM_wf {a : Aut} (h : WfA a) : WfA (allM a) := ⟨h.al, h.al5, h.n5, List.pairwise_lt_range, fun x hx => List.mem_range.1 hx, h.es, h.esn, h.ev⟩
theorem allM_kept {a : Aut} {f u : List Nat} (h : WfA a) : (pRes (allM a) f u true).kept = (pRes a f u false).kept := by
  show kept a.n (fin a.n a.es (List.range a.n) f u true).1 = kept a.n (fin a.n a.es a.ms f u false).1
  rw [fin_marked (ms := a.ms) h.esn]
theorem kept_more {a : Aut} {f u : List Nat} (h : WfA a) : ∀ x ∈ (pRes a f u true).kept, x ∈ (pRes a f u false).kept := fun x hx =>
  have hx' : x < a.n ∧ lf (fin a.n a.es a.ms f u true).1 x = true := mem_kept.1 hx
  mem_kept.2 ⟨hx'.1, fin_greatest (all := false) h.inN h.nd h.srt (fin_rgt h.inN h.nd h.srt) hx'.2⟩
theorem again_res {a : Aut} {f u : List Nat} (h : WfA a) : (pRes (pRes a f u true).sup [] u true).sup = (pRes a f u true).sup ∧ (pRes (pRes a f u true).sup [] u true).rounds = 0 ∧ (pRes (pRes a f u true).sup [] u true).orig.length = (pRes a f u true).sup.n := by
  have h1 := again_fin (forb := f) (unc := u) h
  have h2 := again_restr (left := lf (fin a.n a.es a.ms f u true).1) h
  have e : (pRes a f u true).sup = restr a (lf (fin a.n a.es a.ms f u true).1) := rfl
  rw [e]
  generalize restr a (lf (fin a.n a.es a.ms f u true).1) = S at *
  refine ⟨?_, ?_, ?_⟩
  · show restr S (lf (fin S.n S.es S.ms [] u true).1) = S
    rw [h1]; exact h2.1
  · show (fin S.n S.es S.ms [] u true).2.2 = 0
    rw [h1]
  · show (sAll S (lf (fin S.n S.es S.ms [] u true).1)).1.length = S.n
    rw [h1]; exact h2.2
end Go.AM.SE
namespace Go.AM.SE
open Go.Proofs Go.AM.SD
set_option maxRecDepth 100000
set_option linter.unusedSimpArgs false
set_option linter.unusedVariables false
abbrev froms (es : List Ed) : List Nat := es.map (·.1)
theorem drop_eds2 : ∀ (l : List Ed) (i : Nat), (l.flatMap edC).drop (i * 3) = (l.drop i).flatMap edC
  | l, 0 => by simp
  | [], i + 1 => by simp
  | e :: l, i + 1 => by
    rw [List.flatMap_cons, Nat.succ_mul, List.drop_succ_cons]
    show List.drop (i * 3 + 3) (_ :: _ :: _ :: l.flatMap edC) = _
    rw [List.drop_succ_cons, List.drop_succ_cons, List.drop_succ_cons]
    exact drop_eds2 l i
theorem take_eds2 : ∀ (l : List Ed) (i : Nat), (l.flatMap edC).take (i * 3) = (l.take i).flatMap edC
  | l, 0 => by simp
  | [], i + 1 => by simp
  | e :: l, i + 1 => by
    rw [List.flatMap_cons, Nat.succ_mul, List.take_succ_cons, List.flatMap_cons]
    show List.take (i * 3 + 3) (_ :: _ :: _ :: l.flatMap edC) = _
    rw [List.take_succ_cons, List.take_succ_cons, List.take_succ_cons, take_eds2 l i]; rfl
theorem lb_cons {x t : Nat} {l : List Nat} : lbN (x :: l) t = lbN l t + if x < t then 1 else 0 := by
  unfold lbN; rw [List.countP_cons]; simp
theorem lb_zero {l : List Nat} {t : Nat} (h : ∀ x ∈ l, t ≤ x) : lbN l t = 0 := by
  unfold lbN
  rw [List.countP_eq_zero]
  intro x hx; have := h x hx; simp; omega
theorem out_eq : ∀ {es : List Ed}, es.Pairwise (fun a b => a.1 ≤ b.1) → ∀ v : Nat, (es.drop (lbN (froms es) v)).take (lbN (froms es) (v + 1) - lbN (froms es) v) = sOut es (fun _ => true) v
  | [], _, _ => by simp [sOut]
  | e :: es, h, v => by
    rw [List.pairwise_cons] at h
    have ih := out_eq h.2 v
    have ef : froms (e :: es) = e.1 :: froms es := rfl
    have so : sOut (e :: es) (fun _ => true) v = if e.1 = v then e :: sOut es (fun _ => true) v else sOut es (fun _ => true) v := by
      unfold sOut; rw [List.filter_cons]; simp
    rw [ef, lb_cons, lb_cons, so]
    rcases Nat.lt_trichotomy e.1 v with h1 | h1 | h1
    · rw [if_pos h1, if_pos (by omega), if_neg (by omega), List.drop_succ_cons, Nat.add_sub_add_right, ih]
    · have hz : lbN (froms es) v = 0 := lb_zero fun x hx => by
        obtain ⟨y, hy, rfl⟩ := List.mem_map.1 hx
        have := h.1 y hy; omega
      rw [hz] at ih ⊢
      have i1 : ¬ e.1 < v := by omega
      have i2 : e.1 < v + 1 := by omega
      simp only [if_neg i1, if_pos i2, if_pos h1, Nat.add_zero, List.drop_zero, Nat.sub_zero, List.take_succ_cons]
      rw [List.drop_zero, Nat.sub_zero] at ih
      rw [ih]
    · have hz : lbN (froms es) v = 0 := lb_zero fun x hx => by
        obtain ⟨y, hy, rfl⟩ := List.mem_map.1 hx
        have := h.1 y hy; omega
      have hz2 : lbN (froms es) (v + 1) = 0 := lb_zero fun x hx => by
        obtain ⟨y, hy, rfl⟩ := List.mem_map.1 hx
        have := h.1 y hy; omega
      rw [hz, hz2] at ih ⊢
      rw [if_neg (by omega), if_neg (by omega), if_neg (by omega)]
      simpa using ih
theorem sub68 (e : Ed) (t : Nat) (he : e.1 ≤ 1000000) (ht : t ≤ 1000000) : PSpec Try.prog 68 [edV e, .int .i64 (t : Int)] (.int .i64 ((e.1 : Int) - (t : Int))) := by
  refine PSpec.of_flat 64 ok68 rfl (by (try simp only [noRefs, noRefs_u8, noRefs_keysI, noRefs_back, noRefs_ints, noRefs_eg, noRefs_ed, noRefs_rm, noRefs_ls, noRefs_bls, noRef, Bool.and_self, Bool.and_true]) <;> rfl) rfl ?_
  simp (maxSteps := 1000000) (disch := first | omega | exact PairsOK.mk rfl | (simp only [lenW] <;> omega)) only [s68, Int.reduceGT, ne_eq, List.length_replicate, wD, Nat.reduceAdd, Nat.reduceEqDiff, Nat.reduceBEq, ↓reduceIte, reduceCtorEq, SX.exit.injEq, if_true, if_false, Int.reduceAdd, Int.reduceSub, Int.reduceMul, Int.reduceLT, Int.reduceLE, Int.reduceEq, Int.reduceNe, Int.reduceNeg, Int.reduceToNat, Nat.reduceMul, Nat.reduceLT, Nat.reduceSub, Nat.reduceLeDiff]
  exact ⟨.inr trivial, _, rfl, rfl⟩
theorem sub69 (e : Ed) (t : Nat) (he : e.1 ≤ 1000000) (ht : t ≤ 1000000) : PSpec Try.prog 69 [edV e, .int .i64 (t : Int)] (.int .i64 ((e.1 : Int) - (t : Int))) := by
  refine PSpec.of_flat 64 ok69 rfl (by (try simp only [noRefs, noRefs_u8, noRefs_keysI, noRefs_back, noRefs_ints, noRefs_eg, noRefs_ed, noRefs_rm, noRefs_ls, noRefs_bls, noRef, Bool.and_self, Bool.and_true]) <;> rfl) rfl ?_
  simp (maxSteps := 1000000) (disch := first | omega | exact PairsOK.mk rfl | (simp only [lenW] <;> omega)) only [s69, Int.reduceGT, ne_eq, List.length_replicate, wD, Nat.reduceAdd, Nat.reduceEqDiff, Nat.reduceBEq, ↓reduceIte, reduceCtorEq, SX.exit.injEq, if_true, if_false, Int.reduceAdd, Int.reduceSub, Int.reduceMul, Int.reduceLT, Int.reduceLE, Int.reduceEq, Int.reduceNe, Int.reduceNeg, Int.reduceToNat, Nat.reduceMul, Nat.reduceLT, Nat.reduceSub, Nat.reduceLeDiff]
  exact ⟨.inr trivial, _, rfl, rfl⟩
set_option maxHeartbeats 8000000 in
theorem find67 (es : List Ed) (t : Nat) (hs : (froms es).Pairwise (· ≤ ·)) (hb : ∀ e ∈ es, e.1 ≤ 1000000) (ht : t ≤ 1000000) (hl : es.length ≤ 1000000) : PSpec Try.prog 67 [egsN es, .int .i64 (t : Int), .fn 68 [] []] (.tup [.int .i64 (lbN (froms es) t : Int), .bool ((froms es).contains t)]) := by
  refine PSpec.of_flat 64 ok67 rfl (by (try simp only [noRefs, noRefs_u8, noRefs_keysI, noRefs_back, noRefs_ints, noRefs_eg, noRefs_ed, noRefs_rm, noRefs_ls, noRefs_bls, noRef, Bool.and_self, Bool.and_true]) <;> rfl) rfl ?_
  have hfl : (froms es).length = es.length := by simp
  simp (maxSteps := 1000000) (disch := first | omega | exact PairsOK.mk rfl | (simp only [lenW] <;> omega)) only [s67, Int.reduceGT, ne_eq, List.length_replicate, wD, Nat.reduceAdd, Nat.reduceEqDiff, Nat.reduceBEq, ↓reduceIte, reduceCtorEq, SX.exit.injEq, if_true, if_false, Int.reduceAdd, Int.reduceSub, Int.reduceMul, Int.reduceLT, Int.reduceLE, Int.reduceEq, Int.reduceNe, Int.reduceNeg, Int.reduceToNat, Nat.reduceMul, Nat.reduceLT, Nat.reduceSub, Nat.reduceLeDiff]
  refine wS_loopX 100 (fun p : Nat × Nat => [(0, egsN es), (1, .int .i64 (t : Int)), (2, .fn 68 [] []), (8, .int .i64 es.length), (9, .int .i64 p.1), (10, .int .i64 p.2)]) (fun _ => [])
    (fun p => p.1 ≤ p.2 ∧ p.2 ≤ es.length ∧ (∀ q, q < p.1 → (froms es).getD q 0 < t) ∧ ∀ q, p.2 ≤ q → q < es.length → ¬ (froms es).getD q 0 < t) (fun p => p.2 - p.1) (0, es.length) 0 140
    (fun i : Nat => [(0, egsN es), (1, .int .i64 (t : Int)), (2, .fn 68 [] []), (8, .int .i64 es.length), (9, .int .i64 i)]) (fun _ => [])
    (fun i => i ≤ es.length ∧ (∀ q, q < i → (froms es).getD q 0 < t) ∧ ∀ q, i ≤ q → q < es.length → ¬ (froms es).getD q 0 < t) ?_ ⟨Nat.zero_le _, Nat.le_refl _, fun q hq => absurd hq (Nat.not_lt_zero _), fun q h1 h2 => by omega⟩ ?_ ?_
  · exact ⟨[], rfl, au0, au9, au10⟩
  · rintro ⟨i, j⟩ ⟨hij, hj, h1, h2⟩
    dsimp only at hij hj h1 h2 ⊢
    by_cases hlt : i < j
    · obtain ⟨k, hk, hk1, hk2⟩ : ∃ k : Nat, aBin .shr (.int .u64 ((i : Int) + (j : Int))) (.int .u64 1) = some (.int .u64 (k : Int)) ∧ i ≤ k ∧ k < j := ⟨(i + j) / 2, shr1, by omega, by omega⟩
      have hkl : k < es.length := by omega
      obtain ⟨e, he⟩ := get_ex hkl
      have hke : (froms es).getD k 0 = e.1 := by rw [List.getD_eq_getElem?_getD, List.getElem?_map, he]; rfl
      have heb := hb e (List.mem_of_getElem? he)
      simp (maxSteps := 1000000) (disch := first | omega | exact PairsOK.mk rfl | (simp only [lenW] <;> omega)) only [hlt, hk, hkl, drop_eds he, Int.reduceGT, ne_eq, List.length_replicate, wD, Nat.reduceAdd, Nat.reduceEqDiff, Nat.reduceBEq, ↓reduceIte, reduceCtorEq, SX.exit.injEq, if_true, if_false, Int.reduceAdd, Int.reduceSub, Int.reduceMul, Int.reduceLT, Int.reduceLE, Int.reduceEq, Int.reduceNe, Int.reduceNeg, Int.reduceToNat, Nat.reduceMul, Nat.reduceLT, Nat.reduceSub, Nat.reduceLeDiff]
      refine cp (sub68 e t heb ht) ?_
      by_cases hc : e.1 < t
      · have hc' : (e.1 : Int) - (t : Int) < 0 := by omega
        simp (maxSteps := 1000000) (disch := first | omega | exact PairsOK.mk rfl | (simp only [lenW] <;> omega)) only [hc', Int.reduceGT, ne_eq, List.length_replicate, wD, Nat.reduceAdd, Nat.reduceEqDiff, Nat.reduceBEq, ↓reduceIte, reduceCtorEq, SX.exit.injEq, if_true, if_false, Int.reduceAdd, Int.reduceSub, Int.reduceMul, Int.reduceLT, Int.reduceLE, Int.reduceEq, Int.reduceNe, Int.reduceNeg, Int.reduceToNat, Nat.reduceMul, Nat.reduceLT, Nat.reduceSub, Nat.reduceLeDiff]
        refine ⟨(k + 1, j), by dsimp only; omega, ⟨by dsimp only; omega, hj, fun q hq => ?_, h2⟩, ⟨[], rfl, au0, au9, au10⟩⟩
        have := srt_get hs (p := q) (q := k) (by dsimp only at hq; omega) (by omega)
        omega
      · have hc' : ¬ (e.1 : Int) - (t : Int) < 0 := by omega
        simp (maxSteps := 1000000) (disch := first | omega | exact PairsOK.mk rfl | (simp only [lenW] <;> omega)) only [hc', Int.reduceGT, ne_eq, List.length_replicate, wD, Nat.reduceAdd, Nat.reduceEqDiff, Nat.reduceBEq, ↓reduceIte, reduceCtorEq, SX.exit.injEq, if_true, if_false, Int.reduceAdd, Int.reduceSub, Int.reduceMul, Int.reduceLT, Int.reduceLE, Int.reduceEq, Int.reduceNe, Int.reduceNeg, Int.reduceToNat, Nat.reduceMul, Nat.reduceLT, Nat.reduceSub, Nat.reduceLeDiff]
        refine ⟨(i, k), by dsimp only; omega, ⟨hk1, by dsimp only; omega, h1, fun q hq hql => ?_⟩, ⟨[], rfl, au0, au9, au10⟩⟩
        have := srt_get hs (p := k) (q := q) hq (by omega)
        omega
    · have e : i = j := by omega
      subst e
      simp (maxSteps := 1000000) (disch := first | omega | exact PairsOK.mk rfl | (simp only [lenW] <;> omega)) only [hlt, Int.reduceGT, ne_eq, List.length_replicate, wD, Nat.reduceAdd, Nat.reduceEqDiff, Nat.reduceBEq, ↓reduceIte, reduceCtorEq, SX.exit.injEq, if_true, if_false, Int.reduceAdd, Int.reduceSub, Int.reduceMul, Int.reduceLT, Int.reduceLE, Int.reduceEq, Int.reduceNe, Int.reduceNeg, Int.reduceToNat, Nat.reduceMul, Nat.reduceLT, Nat.reduceSub, Nat.reduceLeDiff]
      exact ⟨i, ⟨hj, h1, h2⟩, ⟨[], rfl, au0, au9, au10⟩⟩
  rintro i ⟨hi, h1, h2⟩
  rw [lb_eq (by omega) h1 fun q a b => h2 q a (by omega), has_lb hs h1 fun q a b => h2 q a (by omega)]
  by_cases hlt : i < es.length
  · obtain ⟨e, he⟩ := get_ex hlt
    have hke : (froms es).getD i 0 = e.1 := by rw [List.getD_eq_getElem?_getD, List.getElem?_map, he]; rfl
    have heb := hb e (List.mem_of_getElem? he)
    rw [hke]
    by_cases hc : e.1 = t
    · rw [decide_eq_true ⟨by omega, hc⟩]
      have hc' : (e.1 : Int) - (t : Int) = 0 := by omega
      simp (maxSteps := 1000000) (disch := first | omega | exact PairsOK.mk rfl | (simp only [lenW] <;> omega)) only [hlt, drop_eds he, Int.reduceGT, ne_eq, List.length_replicate, wD, Nat.reduceAdd, Nat.reduceEqDiff, Nat.reduceBEq, ↓reduceIte, reduceCtorEq, SX.exit.injEq, if_true, if_false, Int.reduceAdd, Int.reduceSub, Int.reduceMul, Int.reduceLT, Int.reduceLE, Int.reduceEq, Int.reduceNe, Int.reduceNeg, Int.reduceToNat, Nat.reduceMul, Nat.reduceLT, Nat.reduceSub, Nat.reduceLeDiff]
      refine cp (sub68 e t heb ht) ?_
      simp (maxSteps := 1000000) (disch := first | omega | exact PairsOK.mk rfl | (simp only [lenW] <;> omega)) only [hc', Int.reduceGT, ne_eq, List.length_replicate, wD, Nat.reduceAdd, Nat.reduceEqDiff, Nat.reduceBEq, ↓reduceIte, reduceCtorEq, SX.exit.injEq, if_true, if_false, Int.reduceAdd, Int.reduceSub, Int.reduceMul, Int.reduceLT, Int.reduceLE, Int.reduceEq, Int.reduceNe, Int.reduceNeg, Int.reduceToNat, Nat.reduceMul, Nat.reduceLT, Nat.reduceSub, Nat.reduceLeDiff]
      exact ⟨.inr trivial, _, rfl, rfl⟩
    · rw [decide_eq_false fun h => hc h.2]
      have hc' : ¬ (e.1 : Int) - (t : Int) = 0 := by omega
      simp (maxSteps := 1000000) (disch := first | omega | exact PairsOK.mk rfl | (simp only [lenW] <;> omega)) only [hlt, drop_eds he, Int.reduceGT, ne_eq, List.length_replicate, wD, Nat.reduceAdd, Nat.reduceEqDiff, Nat.reduceBEq, ↓reduceIte, reduceCtorEq, SX.exit.injEq, if_true, if_false, Int.reduceAdd, Int.reduceSub, Int.reduceMul, Int.reduceLT, Int.reduceLE, Int.reduceEq, Int.reduceNe, Int.reduceNeg, Int.reduceToNat, Nat.reduceMul, Nat.reduceLT, Nat.reduceSub, Nat.reduceLeDiff]
      refine cp (sub68 e t heb ht) ?_
      simp (maxSteps := 1000000) (disch := first | omega | exact PairsOK.mk rfl | (simp only [lenW] <;> omega)) only [hc', Int.reduceGT, ne_eq, List.length_replicate, wD, Nat.reduceAdd, Nat.reduceEqDiff, Nat.reduceBEq, ↓reduceIte, reduceCtorEq, SX.exit.injEq, if_true, if_false, Int.reduceAdd, Int.reduceSub, Int.reduceMul, Int.reduceLT, Int.reduceLE, Int.reduceEq, Int.reduceNe, Int.reduceNeg, Int.reduceToNat, Nat.reduceMul, Nat.reduceLT, Nat.reduceSub, Nat.reduceLeDiff]
      exact ⟨.inr trivial, _, rfl, rfl⟩
  · rw [decide_eq_false fun h => hlt (by omega)]
    simp (maxSteps := 1000000) (disch := first | omega | exact PairsOK.mk rfl | (simp only [lenW] <;> omega)) only [hlt, Int.reduceGT, ne_eq, List.length_replicate, wD, Nat.reduceAdd, Nat.reduceEqDiff, Nat.reduceBEq, ↓reduceIte, reduceCtorEq, SX.exit.injEq, if_true, if_false, Int.reduceAdd, Int.reduceSub, Int.reduceMul, Int.reduceLT, Int.reduceLE, Int.reduceEq, Int.reduceNe, Int.reduceNeg, Int.reduceToNat, Nat.reduceMul, Nat.reduceLT, Nat.reduceSub, Nat.reduceLeDiff]
    exact ⟨.inr trivial, _, rfl, rfl⟩
set_option maxHeartbeats 8000000 in
theorem find67b (es : List Ed) (t : Nat) (hs : (froms es).Pairwise (· ≤ ·)) (hb : ∀ e ∈ es, e.1 ≤ 1000000) (ht : t ≤ 1000000) (hl : es.length ≤ 1000000) : PSpec Try.prog 67 [egsN es, .int .i64 (t : Int), .fn 69 [] []] (.tup [.int .i64 (lbN (froms es) t : Int), .bool ((froms es).contains t)]) := by
  refine PSpec.of_flat 64 ok67 rfl (by (try simp only [noRefs, noRefs_u8, noRefs_keysI, noRefs_back, noRefs_ints, noRefs_eg, noRefs_ed, noRefs_rm, noRefs_ls, noRefs_bls, noRef, Bool.and_self, Bool.and_true]) <;> rfl) rfl ?_
  have hfl : (froms es).length = es.length := by simp
  simp (maxSteps := 1000000) (disch := first | omega | exact PairsOK.mk rfl | (simp only [lenW] <;> omega)) only [s67, Int.reduceGT, ne_eq, List.length_replicate, wD, Nat.reduceAdd, Nat.reduceEqDiff, Nat.reduceBEq, ↓reduceIte, reduceCtorEq, SX.exit.injEq, if_true, if_false, Int.reduceAdd, Int.reduceSub, Int.reduceMul, Int.reduceLT, Int.reduceLE, Int.reduceEq, Int.reduceNe, Int.reduceNeg, Int.reduceToNat, Nat.reduceMul, Nat.reduceLT, Nat.reduceSub, Nat.reduceLeDiff]
  refine wS_loopX 100 (fun p : Nat × Nat => [(0, egsN es), (1, .int .i64 (t : Int)), (2, .fn 69 [] []), (8, .int .i64 es.length), (9, .int .i64 p.1), (10, .int .i64 p.2)]) (fun _ => [])
    (fun p => p.1 ≤ p.2 ∧ p.2 ≤ es.length ∧ (∀ q, q < p.1 → (froms es).getD q 0 < t) ∧ ∀ q, p.2 ≤ q → q < es.length → ¬ (froms es).getD q 0 < t) (fun p => p.2 - p.1) (0, es.length) 0 140
    (fun i : Nat => [(0, egsN es), (1, .int .i64 (t : Int)), (2, .fn 69 [] []), (8, .int .i64 es.length), (9, .int .i64 i)]) (fun _ => [])
    (fun i => i ≤ es.length ∧ (∀ q, q < i → (froms es).getD q 0 < t) ∧ ∀ q, i ≤ q → q < es.length → ¬ (froms es).getD q 0 < t) ?_ ⟨Nat.zero_le _, Nat.le_refl _, fun q hq => absurd hq (Nat.not_lt_zero _), fun q h1 h2 => by omega⟩ ?_ ?_
  · exact ⟨[], rfl, au0, au9, au10⟩
  · rintro ⟨i, j⟩ ⟨hij, hj, h1, h2⟩
    dsimp only at hij hj h1 h2 ⊢
    by_cases hlt : i < j
    · obtain ⟨k, hk, hk1, hk2⟩ : ∃ k : Nat, aBin .shr (.int .u64 ((i : Int) + (j : Int))) (.int .u64 1) = some (.int .u64 (k : Int)) ∧ i ≤ k ∧ k < j := ⟨(i + j) / 2, shr1, by omega, by omega⟩
      have hkl : k < es.length := by omega
      obtain ⟨e, he⟩ := get_ex hkl
      have hke : (froms es).getD k 0 = e.1 := by rw [List.getD_eq_getElem?_getD, List.getElem?_map, he]; rfl
      have heb := hb e (List.mem_of_getElem? he)
      simp (maxSteps := 1000000) (disch := first | omega | exact PairsOK.mk rfl | (simp only [lenW] <;> omega)) only [hlt, hk, hkl, drop_eds he, Int.reduceGT, ne_eq, List.length_replicate, wD, Nat.reduceAdd, Nat.reduceEqDiff, Nat.reduceBEq, ↓reduceIte, reduceCtorEq, SX.exit.injEq, if_true, if_false, Int.reduceAdd, Int.reduceSub, Int.reduceMul, Int.reduceLT, Int.reduceLE, Int.reduceEq, Int.reduceNe, Int.reduceNeg, Int.reduceToNat, Nat.reduceMul, Nat.reduceLT, Nat.reduceSub, Nat.reduceLeDiff]
      refine cp (sub69 e t heb ht) ?_
      by_cases hc : e.1 < t
      · have hc' : (e.1 : Int) - (t : Int) < 0 := by omega
        simp (maxSteps := 1000000) (disch := first | omega | exact PairsOK.mk rfl | (simp only [lenW] <;> omega)) only [hc', Int.reduceGT, ne_eq, List.length_replicate, wD, Nat.reduceAdd, Nat.reduceEqDiff, Nat.reduceBEq, ↓reduceIte, reduceCtorEq, SX.exit.injEq, if_true, if_false, Int.reduceAdd, Int.reduceSub, Int.reduceMul, Int.reduceLT, Int.reduceLE, Int.reduceEq, Int.reduceNe, Int.reduceNeg, Int.reduceToNat, Nat.reduceMul, Nat.reduceLT, Nat.reduceSub, Nat.reduceLeDiff]
        refine ⟨(k + 1, j), by dsimp only; omega, ⟨by dsimp only; omega, hj, fun q hq => ?_, h2⟩, ⟨[], rfl, au0, au9, au10⟩⟩
        have := srt_get hs (p := q) (q := k) (by dsimp only at hq; omega) (by omega)
        omega
      · have hc' : ¬ (e.1 : Int) - (t : Int) < 0 := by omega
        simp (maxSteps := 1000000) (disch := first | omega | exact PairsOK.mk rfl | (simp only [lenW] <;> omega)) only [hc', Int.reduceGT, ne_eq, List.length_replicate, wD, Nat.reduceAdd, Nat.reduceEqDiff, Nat.reduceBEq, ↓reduceIte, reduceCtorEq, SX.exit.injEq, if_true, if_false, Int.reduceAdd, Int.reduceSub, Int.reduceMul, Int.reduceLT, Int.reduceLE, Int.reduceEq, Int.reduceNe, Int.reduceNeg, Int.reduceToNat, Nat.reduceMul, Nat.reduceLT, Nat.reduceSub, Nat.reduceLeDiff]
        refine ⟨(i, k), by dsimp only; omega, ⟨hk1, by dsimp only; omega, h1, fun q hq hql => ?_⟩, ⟨[], rfl, au0, au9, au10⟩⟩
        have := srt_get hs (p := k) (q := q) hq (by omega)
        omega
    · have e : i = j := by omega
      subst e
      simp (maxSteps := 1000000) (disch := first | omega | exact PairsOK.mk rfl | (simp only [lenW] <;> omega)) only [hlt, Int.reduceGT, ne_eq, List.length_replicate, wD, Nat.reduceAdd, Nat.reduceEqDiff, Nat.reduceBEq, ↓reduceIte, reduceCtorEq, SX.exit.injEq, if_true, if_false, Int.reduceAdd, Int.reduceSub, Int.reduceMul, Int.reduceLT, Int.reduceLE, Int.reduceEq, Int.reduceNe, Int.reduceNeg, Int.reduceToNat, Nat.reduceMul, Nat.reduceLT, Nat.reduceSub, Nat.reduceLeDiff]
      exact ⟨i, ⟨hj, h1, h2⟩, ⟨[], rfl, au0, au9, au10⟩⟩
  rintro i ⟨hi, h1, h2⟩
  rw [lb_eq (by omega) h1 fun q a b => h2 q a (by omega), has_lb hs h1 fun q a b => h2 q a (by omega)]
  by_cases hlt : i < es.length
  · obtain ⟨e, he⟩ := get_ex hlt
    have hke : (froms es).getD i 0 = e.1 := by rw [List.getD_eq_getElem?_getD, List.getElem?_map, he]; rfl
    have heb := hb e (List.mem_of_getElem? he)
    rw [hke]
    by_cases hc : e.1 = t
    · rw [decide_eq_true ⟨by omega, hc⟩]
      have hc' : (e.1 : Int) - (t : Int) = 0 := by omega
      simp (maxSteps := 1000000) (disch := first | omega | exact PairsOK.mk rfl | (simp only [lenW] <;> omega)) only [hlt, drop_eds he, Int.reduceGT, ne_eq, List.length_replicate, wD, Nat.reduceAdd, Nat.reduceEqDiff, Nat.reduceBEq, ↓reduceIte, reduceCtorEq, SX.exit.injEq, if_true, if_false, Int.reduceAdd, Int.reduceSub, Int.reduceMul, Int.reduceLT, Int.reduceLE, Int.reduceEq, Int.reduceNe, Int.reduceNeg, Int.reduceToNat, Nat.reduceMul, Nat.reduceLT, Nat.reduceSub, Nat.reduceLeDiff]
      refine cp (sub69 e t heb ht) ?_
      simp (maxSteps := 1000000) (disch := first | omega | exact PairsOK.mk rfl | (simp only [lenW] <;> omega)) only [hc', Int.reduceGT, ne_eq, List.length_replicate, wD, Nat.reduceAdd, Nat.reduceEqDiff, Nat.reduceBEq, ↓reduceIte, reduceCtorEq, SX.exit.injEq, if_true, if_false, Int.reduceAdd, Int.reduceSub, Int.reduceMul, Int.reduceLT, Int.reduceLE, Int.reduceEq, Int.reduceNe, Int.reduceNeg, Int.reduceToNat, Nat.reduceMul, Nat.reduceLT, Nat.reduceSub, Nat.reduceLeDiff]
      exact ⟨.inr trivial, _, rfl, rfl⟩
    · rw [decide_eq_false fun h => hc h.2]
      have hc' : ¬ (e.1 : Int) - (t : Int) = 0 := by omega
      simp (maxSteps := 1000000) (disch := first | omega | exact PairsOK.mk rfl | (simp only [lenW] <;> omega)) only [hlt, drop_eds he, Int.reduceGT, ne_eq, List.length_replicate, wD, Nat.reduceAdd, Nat.reduceEqDiff, Nat.reduceBEq, ↓reduceIte, reduceCtorEq, SX.exit.injEq, if_true, if_false, Int.reduceAdd, Int.reduceSub, Int.reduceMul, Int.reduceLT, Int.reduceLE, Int.reduceEq, Int.reduceNe, Int.reduceNeg, Int.reduceToNat, Nat.reduceMul, Nat.reduceLT, Nat.reduceSub, Nat.reduceLeDiff]
      refine cp (sub69 e t heb ht) ?_
      simp (maxSteps := 1000000) (disch := first | omega | exact PairsOK.mk rfl | (simp only [lenW] <;> omega)) only [hc', Int.reduceGT, ne_eq, List.length_replicate, wD, Nat.reduceAdd, Nat.reduceEqDiff, Nat.reduceBEq, ↓reduceIte, reduceCtorEq, SX.exit.injEq, if_true, if_false, Int.reduceAdd, Int.reduceSub, Int.reduceMul, Int.reduceLT, Int.reduceLE, Int.reduceEq, Int.reduceNe, Int.reduceNeg, Int.reduceToNat, Nat.reduceMul, Nat.reduceLT, Nat.reduceSub, Nat.reduceLeDiff]
      exact ⟨.inr trivial, _, rfl, rfl⟩
  · rw [decide_eq_false fun h => hlt (by omega)]
    simp (maxSteps := 1000000) (disch := first | omega | exact PairsOK.mk rfl | (simp only [lenW] <;> omega)) only [hlt, Int.reduceGT, ne_eq, List.length_replicate, wD, Nat.reduceAdd, Nat.reduceEqDiff, Nat.reduceBEq, ↓reduceIte, reduceCtorEq, SX.exit.injEq, if_true, if_false, Int.reduceAdd, Int.reduceSub, Int.reduceMul, Int.reduceLT, Int.reduceLE, Int.reduceEq, Int.reduceNe, Int.reduceNeg, Int.reduceToNat, Nat.reduceMul, Nat.reduceLT, Nat.reduceSub, Nat.reduceLeDiff]
    exact ⟨.inr trivial, _, rfl, rfl⟩
set_option maxHeartbeats 8000000 in
theorem out58 (a : Aut) (v : Nat) (h : WfA a) (hel : a.es.length ≤ 1000000) (hv : v ≤ 1000) : PSpec Try.prog 58 [aV a, .int .i64 (v : Int)] (egsN (sOut a.es (fun _ => true) v)) := by
  have hs : (froms a.es).Pairwise (· ≤ ·) := by rw [List.pairwise_map]; exact h.srt
  have hb : ∀ e ∈ a.es, e.1 ≤ 1000000 := fun e he => by have := (h.esn e he).1; have := h.n5; omega
  have f1 := find67 a.es v hs hb (by omega) hel
  have f2 := find67b a.es (v + 1) hs hb (by omega) hel
  have e1 : ((v + 1 : Nat) : Int) = (v : Int) + 1 := by omega
  rw [e1] at f2
  have ho := out_eq h.srt v
  have l1 := lb_le (l := froms a.es) (t := v + 1)
  rw [List.length_map] at l1
  have hm : lbN (froms a.es) v ≤ lbN (froms a.es) (v + 1) := List.countP_mono_left fun x _ hx => by simp at hx ⊢; omega
  generalize (froms a.es).contains v = b1 at *
  generalize (froms a.es).contains (v + 1) = b2 at *
  generalize lbN (froms a.es) v = p at *
  generalize lbN (froms a.es) (v + 1) = q at *
  have hlen : q - p = (sOut a.es (fun _ => true) v).length := by rw [← ho, List.length_take, List.length_drop]; omega
  have hpq : (p : Int) ≤ (q : Int) := by omega
  have hql : (q : Int) ≤ (a.es.length : Int) := by omega
  refine PSpec.of_rn 64 ok58 rfl (by (try simp only [noRefs, noRefs_u8, noRefs_keysI, noRefs_back, noRefs_ints, noRefs_eg, noRefs_ed, noRefs_rm, noRefs_ls, noRefs_bls, noRef, Bool.and_self, Bool.and_true]) <;> rfl) (noRef_egsN _) ?_
  simp (maxSteps := 1000000) (disch := first | omega | exact PairsOK.mk rfl | (simp only [lenW] <;> omega)) only [s58, Int.reduceGT, ne_eq, List.length_replicate, wD, Nat.reduceAdd, Nat.reduceEqDiff, Nat.reduceBEq, ↓reduceIte, reduceCtorEq, SX.exit.injEq, if_true, if_false, Int.reduceAdd, Int.reduceSub, Int.reduceMul, Int.reduceLT, Int.reduceLE, Int.reduceEq, Int.reduceNe, Int.reduceNeg, Int.reduceToNat, Nat.reduceMul, Nat.reduceLT, Nat.reduceSub, Nat.reduceLeDiff]
  refine cp f1 ?_
  simp (maxSteps := 1000000) (disch := first | omega | exact PairsOK.mk rfl | (simp only [lenW] <;> omega)) only [Int.reduceGT, ne_eq, List.length_replicate, wD, Nat.reduceAdd, Nat.reduceEqDiff, Nat.reduceBEq, ↓reduceIte, reduceCtorEq, SX.exit.injEq, if_true, if_false, Int.reduceAdd, Int.reduceSub, Int.reduceMul, Int.reduceLT, Int.reduceLE, Int.reduceEq, Int.reduceNe, Int.reduceNeg, Int.reduceToNat, Nat.reduceMul, Nat.reduceLT, Nat.reduceSub, Nat.reduceLeDiff]
  refine cp f2 ?_
  simp (maxSteps := 1000000) (disch := first | omega | exact PairsOK.mk rfl | (simp only [lenW] <;> omega)) only [hpq, hql, aSlice_fslB, Int.reduceGT, ne_eq, List.length_replicate, wD, Nat.reduceAdd, Nat.reduceEqDiff, Nat.reduceBEq, ↓reduceIte, reduceCtorEq, SX.exit.injEq, if_true, if_false, Int.reduceAdd, Int.reduceSub, Int.reduceMul, Int.reduceLT, Int.reduceLE, Int.reduceEq, Int.reduceNe, Int.reduceNeg, Int.reduceToNat, Nat.reduceMul, Nat.reduceLT, Nat.reduceSub, Nat.reduceLeDiff]
  refine ⟨.inr trivial, _, rfl, ?_⟩
  rw [drop_eds2, take_eds2, ho, hlen]
  exact Rn.same (noRef_egsN _)
end Go.AM.SE
namespace Go.AM.SE
open Go.Proofs Go.AM.SD
set_option maxRecDepth 100000
set_option linter.unusedSimpArgs false
set_option linter.unusedVariables false
def pl (n : Nat) (o : List Nat) : List Int := (List.range n).map fun x => if o.contains x then ((SD.idx o x : Nat) : Int) else -1
theorem pl_len {n : Nat} {o : List Nat} : (pl n o).length = n := by simp [pl]
theorem pl_get {n : Nat} {o : List Nat} {x : Nat} (hx : x < n) : (pl n o).getD x 0 = if o.contains x then ((SD.idx o x : Nat) : Int) else -1 := by
  unfold pl; rw [List.getD_eq_getElem?_getD, List.getElem?_map, List.getElem?_range hx]; rfl
theorem pl_set {n : Nat} {o : List Nat} {x : Nat} (hx : x ∉ o) : (pl n o).set x (o.length : Int) = pl n (o ++ [x]) := by
  refine List.ext_getElem (by simp [pl]) fun j h1 h2 => ?_
  have hj : j < n := by simpa [pl] using h2
  rw [List.getElem_set]
  simp only [pl, List.getElem_map, List.getElem_range]
  by_cases e : x = j
  · subst e
    rw [if_pos rfl, if_pos (by simp), SD.idx_new hx]
  · rw [if_neg e]
    by_cases hm : j ∈ o
    · rw [if_pos (by simpa using hm), if_pos (by simp [hm]), SD.idx_app hm]
    · have e2 : ¬ j = x := fun h => e h.symm
      rw [if_neg (by simpa using hm), if_neg (by simp [hm, e2])]
theorem pl_start {n : Nat} (h0 : 0 < n) : (List.replicate n (-1 : Int)).set 0 0 = pl n [0] := by
  refine List.ext_getElem (by simp [pl]) fun j h1 h2 => ?_
  have hj : j < n := by simpa [pl] using h2
  rw [List.getElem_set]
  simp only [pl, List.getElem_map, List.getElem_range, List.getElem_replicate]
  by_cases e : 0 = j
  · subst e; rw [if_pos rfl, if_pos (by simp)]; rfl
  · have e2 : ¬ j = 0 := fun h => e h.symm
    rw [if_neg e, if_neg (by simp [e2])]
abbrev cnB (a : Aut) (m e : Nat) : List AV := [.sl 83 0 0 a.al.length 1, .int .i64 0, .sl 77 0 0 m 1, .sl 76 0 0 e 3]
abbrev tru : Nat → Bool := fun _ => true
set_option maxHeartbeats 64000000 in
theorem canonical44 (a : Aut) (h : WfA a) (hel : a.es.length ≤ 1000000) : PSpec Try.prog 44 [aV a] (aV (restr a tru)) := by
  have hn5 := h.n5
  have hal : a.al.length ≤ 5 := nodup_len 5 a.al (by rw [List.nodup_iff_pairwise_ne]; exact h.al.imp fun h => by omega) h.al5
  have hml : a.ms.length ≤ a.n := nodup_len a.n a.ms h.nd h.msn
  have hmsP : a.ms.Pairwise (· ≤ ·) := h.ms.imp fun h => by omega
  have hn' : (a.n : Int) ≤ 1099511627776 := by omega
  have hn8 : (8 : Int) * (a.n : Int) ≤ 1099511627776 := by omega
  refine PSpec.of_rn 40 ok44 rfl (by (try simp only [noRefs, noRefs_u8, noRefs_keysI, noRefs_back, noRefs_ints, noRefs_eg, noRefs_ed, noRefs_rm, noRefs_ls, noRefs_bls, noRef, Bool.and_self, Bool.and_true]) <;> rfl) (noRef_aV _) ?_
  simp (maxSteps := 1000000) (disch := first | omega | exact PairsOK.mk rfl | (simp only [lenW] <;> omega)) only [s44, Int.reduceGT, ne_eq, List.length_replicate, wD, Nat.reduceAdd, Nat.reduceEqDiff, Nat.reduceBEq, ↓reduceIte, reduceCtorEq, SX.exit.injEq, if_true, if_false, Int.reduceAdd, Int.reduceSub, Int.reduceMul, Int.reduceLT, Int.reduceLE, Int.reduceEq, Int.reduceNe, Int.reduceNeg, Int.reduceToNat, Nat.reduceMul, Nat.reduceLT, Nat.reduceSub, Nat.reduceLeDiff]
  refine ch (HSpec.of_O (b := 83) (by (try simp only [noRefs, noRefs_u8, noRefs_keysI, noRefs_back, noRefs_ints, noRefs_eg, noRefs_ed, noRefs_rm, noRefs_ls, noRefs_bls, noRef, Bool.and_self, Bool.and_true]) <;> rfl) (clone56 a.al (by omega)) (by repeat (first | exact Fresh.e | exact Fresh.le (by assumption) (by omega) | refine Fresh.set ?_ (by omega) (by omega))) rfl) ?_
  by_cases h0 : a.n = 0
  · have h0' : (a.n : Int) = 0 := by omega
    have e : sAll a tru = ([], []) := by unfold sAll; rw [h0]; rfl
    have hr : restr a tru = ⟨a.al, 0, [], []⟩ := by unfold restr; rw [e]; rfl
    simp (maxSteps := 1000000) (disch := first | omega | exact PairsOK.mk rfl | (simp only [lenW] <;> omega)) only [h0', Int.reduceGT, ne_eq, List.length_replicate, wD, Nat.reduceAdd, Nat.reduceEqDiff, Nat.reduceBEq, ↓reduceIte, reduceCtorEq, SX.exit.injEq, if_true, if_false, Int.reduceAdd, Int.reduceSub, Int.reduceMul, Int.reduceLT, Int.reduceLE, Int.reduceEq, Int.reduceNe, Int.reduceNeg, Int.reduceToNat, Nat.reduceMul, Nat.reduceLT, Nat.reduceSub, Nat.reduceLeDiff]
    refine ⟨.inr trivial, _, rfl, ?_⟩
    rw [hr]
    exact Rn.agg (RnL.cons (Rn.fz0 (g := 0) rfl (by simp [ints]) (RnL.same (noRefs_ints _))) (RnL.cons (Rn.same rfl) (RnL.cons Rn.nilK (RnL.cons Rn.nilK RnL.nil))))
  have h0' : ¬ (a.n : Int) = 0 := by omega
  have h0p : 0 < a.n := by omega
  have h0n : (0 : Int) < (a.n : Int) := by omega
  simp (maxSteps := 1000000) (disch := first | omega | exact PairsOK.mk rfl | (simp only [lenW] <;> omega)) only [h0', hn', hn8, ints_rep, Int.reduceGT, ne_eq, List.length_replicate, wD, Nat.reduceAdd, Nat.reduceEqDiff, Nat.reduceBEq, ↓reduceIte, reduceCtorEq, SX.exit.injEq, if_true, if_false, Int.reduceAdd, Int.reduceSub, Int.reduceMul, Int.reduceLT, Int.reduceLE, Int.reduceEq, Int.reduceNe, Int.reduceNeg, Int.reduceToNat, Nat.reduceMul, Nat.reduceLT, Nat.reduceSub, Nat.reduceLeDiff]
  refine wS_loopX 100 (fun i : Nat => [(1, .ptr 50 0 0), (2, .ptr 60 0 0), (3, .ptr 69 0 0), (4, .sl 78 0 0 a.n 1), (24, .int .i64 a.n), (25, .int .i64 i)])
    (fun i => [(50, .cells 0 (rsA a)), (60, .cells 0 rsN), (69, .cells 0 [.sl 83 0 0 a.al.length 1, .int .i64 0, .nilsl, .nilsl]), (83, .cells 0 (ints (nz a.al))), (78, .cells 0 (ints (List.replicate i (-1) ++ List.replicate (a.n - i) 0)))])
    (fun i => i ≤ a.n) (fun i => a.n - i) 0 0 120
    (fun _ : Unit => [(1, .ptr 50 0 0), (2, .ptr 60 0 0), (3, .ptr 69 0 0), (4, .sl 78 0 0 a.n 1)])
    (fun _ => [(50, .cells 0 (rsA a)), (60, .cells 0 rsN), (69, .cells 0 [.sl 83 0 0 a.al.length 1, .int .i64 0, .nilsl, .nilsl]), (83, .cells 0 (ints (nz a.al))), (78, .cells 0 (ints (List.replicate a.n (-1))))]) (fun _ => True) ?_ (Nat.zero_le _) ?_ ?_
  · exact ⟨[(50, .blk 40 0), (60, .blk 41 0), (69, .blk 46 0), (83, .blk 83 0), (78, .blk 53 0)], rfl, au0, au9, au10⟩
  · rintro i hi
    by_cases hlt : i < a.n
    · have h1 : i + 1 ≤ i + (a.n - i) := by omega
      simp (maxSteps := 1000000) (disch := first | omega | exact PairsOK.mk rfl | (simp only [lenW] <;> omega)) only [hlt, h1, ints_set, half_setI hlt, Int.reduceGT, ne_eq, List.length_replicate, wD, Nat.reduceAdd, Nat.reduceEqDiff, Nat.reduceBEq, ↓reduceIte, reduceCtorEq, SX.exit.injEq, if_true, if_false, Int.reduceAdd, Int.reduceSub, Int.reduceMul, Int.reduceLT, Int.reduceLE, Int.reduceEq, Int.reduceNe, Int.reduceNeg, Int.reduceToNat, Nat.reduceMul, Nat.reduceLT, Nat.reduceSub, Nat.reduceLeDiff]
      exact ⟨i + 1, by omega, by omega, ⟨[(50, .blk 50 0), (60, .blk 60 0), (69, .blk 69 0), (83, .blk 83 0), (78, .blk 78 0)], rfl, au0, au9, au10⟩⟩
    · have e : i = a.n := by omega
      subst e
      have e2 : List.replicate a.n (-1 : Int) ++ List.replicate (a.n - a.n) 0 = List.replicate a.n (-1) := by simp
      simp (maxSteps := 1000000) (disch := first | omega | exact PairsOK.mk rfl | (simp only [lenW] <;> omega)) only [hlt, Int.reduceGT, ne_eq, List.length_replicate, wD, Nat.reduceAdd, Nat.reduceEqDiff, Nat.reduceBEq, ↓reduceIte, reduceCtorEq, SX.exit.injEq, if_true, if_false, Int.reduceAdd, Int.reduceSub, Int.reduceMul, Int.reduceLT, Int.reduceLE, Int.reduceEq, Int.reduceNe, Int.reduceNeg, Int.reduceToNat, Nat.reduceMul, Nat.reduceLT, Nat.reduceSub, Nat.reduceLeDiff]
      refine ⟨(), ?_⟩
      rw [e2]
      exact ⟨[(50, .blk 50 0), (60, .blk 60 0), (69, .blk 69 0), (83, .blk 83 0), (78, .blk 78 0)], rfl, au0, au9, au10⟩
  rintro _ _
  have hp1 : 1 ≤ a.n := h0p
  have hps := pl_start h0p
  simp (maxSteps := 1000000) (disch := first | omega | exact PairsOK.mk rfl | (simp only [lenW] <;> omega)) only [h0n, hp1, ints_set, hps, Int.reduceGT, ne_eq, List.length_replicate, wD, Nat.reduceAdd, Nat.reduceEqDiff, Nat.reduceBEq, ↓reduceIte, reduceCtorEq, SX.exit.injEq, if_true, if_false, Int.reduceAdd, Int.reduceSub, Int.reduceMul, Int.reduceLT, Int.reduceLE, Int.reduceEq, Int.reduceNe, Int.reduceNeg, Int.reduceToNat, Nat.reduceMul, Nat.reduceLT, Nat.reduceSub, Nat.reduceLeDiff]
  have hsi : SI a.n a.es tru 0 (([0], []) : OE) := ⟨⟨by simp, fun x hx => by simp at hx; omega⟩, fun _ _ => rfl, Nat.zero_le _, fun j v hj => by omega, by simp⟩
  have hq0 : sQ a.es tru (a.n + 1) 0 ([0], []) = sAll a tru := by
    unfold sAll; rw [if_pos (by simp [h0p])]
  refine wS_loopX 180 (fun t : Nat × OE => [(1, .ptr 50 0 0), (2, .ptr 60 0 0), (3, .ptr 69 0 0), (4, .sl 78 0 0 a.n 1), (6, .sl 75 0 0 t.2.1.length 1), (7, .int .i64 t.1)])
    (fun t => [(50, .cells 0 (rsA a)), (60, .cells 0 rsN), (69, .cells 0 (cnB a (mks a t.1 t.2.1).length t.2.2.length)), (83, .cells 0 (ints (nz a.al))), (78, .cells 0 (ints (pl a.n t.2.1))), (75, .cells 0 (ints (nz t.2.1))), (76, .cells 0 (t.2.2.flatMap edC)), (77, .cells 0 (ints (nz (mks a t.1 t.2.1))))])
    (fun t => t.1 ≤ a.n ∧ SI a.n a.es tru t.1 t.2 ∧ t.2.2.length ≤ t.1 * 1000000 ∧ sQ a.es tru (a.n + 1 - t.1) t.1 t.2 = sAll a tru) (fun t => a.n + 1 - t.1) (0, ([0], [])) 2 260
    (fun _ : Unit => [(2, .ptr 60 0 0), (3, .ptr 69 0 0), (6, .sl 75 0 0 (sAll a tru).1.length 1)])
    (fun _ => [(60, .cells 0 rsN), (69, .cells 0 (cnB a (restr a tru).ms.length (restr a tru).es.length)), (83, .cells 0 (ints (nz a.al))), (75, .cells 0 (ints (nz (sAll a tru).1))), (76, .cells 0 ((restr a tru).es.flatMap edC)), (77, .cells 0 (ints (nz (restr a tru).ms)))]) (fun _ => True) ?_ ⟨Nat.zero_le _, hsi, Nat.zero_le _, hq0⟩ ?_ ?_
  · dsimp only
    have hms0 : mks a 0 [0] = [] := rfl
    rw [hms0]
    exact ⟨[(50, .blk 50 0), (60, .blk 60 0), (69, .blk 69 0), (83, .blk 83 0), (78, .blk 78 0), (75, .blk 123 0), (76, .nil), (77, .nil)], rfl, au0, au9, au10⟩
  · rintro ⟨i, s⟩ ⟨hi, hsi, hsl, hq⟩
    dsimp only at hi hsi hsl hq ⊢
    have hfl := hsi.fi.len
    have hile := hsi.le
    by_cases hlt : i < s.1.length
    · obtain ⟨v, hv⟩ := get_ex hlt
      have hvn := hsi.fi.lt v (List.mem_of_getElem? hv)
      have hin' : i < a.n := by omega
      have hsi' := hsi.step h.esn hv
      have hq' : sQ a.es tru (a.n + 1 - (i + 1)) (i + 1) (sRow a.es tru i v s) = sAll a tru := by
        rw [← hq, show a.n + 1 - i = (a.n + 1 - (i + 1)) + 1 by omega]
        simp only [sQ, hv]
      have hrow := fun j => row_fold (n := a.n) (left := tru) i ((sOut a.es tru v).take j) s (fun e he => ⟨(h.esn e (mem_sOut.1 (List.mem_of_mem_take he)).1).2, rfl⟩) hsi.fi hsi.lft
      have hol := sOut_len a.es tru v
      have hmn := mks_succ (a := a) hv
      have hmsl := @mks_len a i s.1
      have hmapp : mks a (i + 1) (sRow a.es tru i v s).1 = mks a (i + 1) s.1 := by
        obtain ⟨_, _, ⟨t, ht⟩, _⟩ := row_fold (n := a.n) (left := tru) i (sOut a.es tru v) s (fun e he => ⟨(h.esn e (mem_sOut.1 he).1).2, rfl⟩) hsi.fi hsi.lft
        have ht : (sRow a.es tru i v s).1 = s.1 ++ t := ht
        rw [ht, mks_app (by omega)]
      have hc := find57 a.ms v hmsP (by omega)
      have ho := out58 a v h hel (by omega)
      generalize hM0 : mks a i s.1 = M0 at *
      generalize hM : mks a (i + 1) s.1 = M at *
      simp (maxSteps := 1000000) (disch := first | omega | exact PairsOK.mk rfl | (simp only [lenW] <;> omega)) only [hlt, get_ints (nz_at hv), Int.reduceGT, ne_eq, List.length_replicate, wD, Nat.reduceAdd, Nat.reduceEqDiff, Nat.reduceBEq, ↓reduceIte, reduceCtorEq, SX.exit.injEq, if_true, if_false, Int.reduceAdd, Int.reduceSub, Int.reduceMul, Int.reduceLT, Int.reduceLE, Int.reduceEq, Int.reduceNe, Int.reduceNeg, Int.reduceToNat, Nat.reduceMul, Nat.reduceLT, Nat.reduceSub, Nat.reduceLeDiff]
      refine cp hc ?_
      by_cases hmv : a.ms.contains v = true
      · rw [if_pos hmv] at hmn
        rw [hmv]
        simp (maxSteps := 1000000) (disch := first | omega | exact PairsOK.mk rfl | (simp only [lenW] <;> omega)) only [hlt, get_ints (nz_at hv), Int.reduceGT, ne_eq, List.length_replicate, wD, Nat.reduceAdd, Nat.reduceEqDiff, Nat.reduceBEq, ↓reduceIte, reduceCtorEq, SX.exit.injEq, if_true, if_false, Int.reduceAdd, Int.reduceSub, Int.reduceMul, Int.reduceLT, Int.reduceLE, Int.reduceEq, Int.reduceNe, Int.reduceNeg, Int.reduceToNat, Nat.reduceMul, Nat.reduceLT, Nat.reduceSub, Nat.reduceLeDiff]
        refine cp ho ?_
        simp (maxSteps := 1000000) (disch := first | omega | exact PairsOK.mk rfl | (simp only [lenW] <;> omega)) only [Int.reduceGT, ne_eq, List.length_replicate, wD, Nat.reduceAdd, Nat.reduceEqDiff, Nat.reduceBEq, ↓reduceIte, reduceCtorEq, SX.exit.injEq, if_true, if_false, Int.reduceAdd, Int.reduceSub, Int.reduceMul, Int.reduceLT, Int.reduceLE, Int.reduceEq, Int.reduceNe, Int.reduceNeg, Int.reduceToNat, Nat.reduceMul, Nat.reduceLT, Nat.reduceSub, Nat.reduceLeDiff]
        refine wS_loopX 300 (fun j : Nat => [(1, .ptr 50 0 0), (2, .ptr 60 0 0), (3, .ptr 69 0 0), (4, .sl 78 0 0 a.n 1), (6, .sl 75 0 0 (((sOut a.es tru v).take j).foldl (sEd i) s).1.length 1), (7, .int .i64 i), (63, egsN (sOut a.es tru v)), (64, .int .i64 (sOut a.es tru v).length), (65, .int .i64 j)])
          (fun j => [(50, .cells 0 (rsA a)), (60, .cells 0 rsN), (69, .cells 0 (cnB a M.length (((sOut a.es tru v).take j).foldl (sEd i) s).2.length)), (83, .cells 0 (ints (nz a.al))), (78, .cells 0 (ints (pl a.n (((sOut a.es tru v).take j).foldl (sEd i) s).1))), (75, .cells 0 (ints (nz (((sOut a.es tru v).take j).foldl (sEd i) s).1))), (76, .cells 0 ((((sOut a.es tru v).take j).foldl (sEd i) s).2.flatMap edC)), (77, .cells 0 (ints (nz M)))])
          (fun j => j ≤ (sOut a.es tru v).length) (fun j => (sOut a.es tru v).length - j) 0 4 400
          (fun _ : Unit => [(1, .ptr 50 0 0), (2, .ptr 60 0 0), (3, .ptr 69 0 0), (4, .sl 78 0 0 a.n 1), (6, .sl 75 0 0 (sRow a.es tru i v s).1.length 1), (7, .int .i64 i)])
          (fun _ => [(50, .cells 0 (rsA a)), (60, .cells 0 rsN), (69, .cells 0 (cnB a M.length (sRow a.es tru i v s).2.length)), (83, .cells 0 (ints (nz a.al))), (78, .cells 0 (ints (pl a.n (sRow a.es tru i v s).1))), (75, .cells 0 (ints (nz (sRow a.es tru i v s).1))), (76, .cells 0 ((sRow a.es tru i v s).2.flatMap edC)), (77, .cells 0 (ints (nz M)))]) (fun _ => True) ?_ (Nat.zero_le _) ?_ ?_
        · rw [hmn, List.length_append, nz_append, ints_append]
          exact ⟨[(50, .blk 50 0), (60, .blk 60 0), (69, .blk 69 0), (83, .blk 83 0), (78, .blk 78 0), (75, .blk 75 0), (76, .blk 76 0), (77, .blk 77 1)], rfl, au0, au9, au10⟩
        · rintro j hj
          by_cases hjl : j < (sOut a.es tru v).length
          · obtain ⟨e, he⟩ := get_ex hjl
            have hem := mem_sOut.1 (List.mem_of_getElem? he)
            have hto := (h.esn e hem.1).2
            obtain ⟨k1, _, _, _, _⟩ := hrow j
            have hfi := k1.len
            have hstep := sRow_take (i := i) (s := s) he
            have hsl2 := sRow_len (i := i) ((sOut a.es tru v).take j) s
            rw [List.length_take] at hsl2
            generalize (((sOut a.es tru v).take j).foldl (sEd i) s) = t at *
            have hel2 := ed_len t.2
            have hpl := pl_len (n := a.n) (o := t.1)
            have hpg := pl_get (o := t.1) hto
            have hpt : e.2.2 < (pl a.n t.1).length := by omega
            have hp1 : e.2.2 + 1 ≤ (pl a.n t.1).length := by omega
            by_cases hc : e.2.2 ∈ t.1
            · have h2 : sEd i t e = (t.1, t.2 ++ [(i, e.2.1, SD.idx t.1 e.2.2)]) := if_pos (by simpa using hc)
              rw [h2] at hstep
              rw [if_pos (by simpa using hc)] at hpg
              have h3 : ¬ ((SD.idx t.1 e.2.2 : Nat) : Int) < 0 := by omega
              generalize SD.idx t.1 e.2.2 = q at *
              simp (maxSteps := 1000000) (disch := first | omega | exact PairsOK.mk rfl | (simp only [lenW] <;> omega)) only [hjl, drop_eds he, hto, get_intsD hpt, hpg, h3, hel2, Int.reduceGT, ne_eq, List.length_replicate, wD, Nat.reduceAdd, Nat.reduceEqDiff, Nat.reduceBEq, ↓reduceIte, reduceCtorEq, SX.exit.injEq, if_true, if_false, Int.reduceAdd, Int.reduceSub, Int.reduceMul, Int.reduceLT, Int.reduceLE, Int.reduceEq, Int.reduceNe, Int.reduceNeg, Int.reduceToNat, Nat.reduceMul, Nat.reduceLT, Nat.reduceSub, Nat.reduceLeDiff]
              refine ⟨j + 1, by omega, by omega, ?_⟩
              rw [hstep, List.flatMap_append, List.length_append]
              exact ⟨[(50, .blk 50 0), (60, .blk 60 0), (69, .blk 69 0), (83, .blk 83 0), (78, .blk 78 0), (75, .blk 75 0), (76, .blk 76 1), (77, .blk 77 0)], rfl, au0, au9, au10⟩
            · have h2 : sEd i t e = (t.1 ++ [e.2.2], t.2 ++ [(i, e.2.1, t.1.length)]) := if_neg (by simpa using hc)
              rw [h2] at hstep
              rw [if_neg (by simpa using hc)] at hpg
              have hps := pl_set (n := a.n) hc
              have h3 : (-1 : Int) < 0 := by decide
              have hpl2 : e.2.2 < (pl a.n (t.1 ++ [e.2.2])).length := by rw [pl_len]; exact hto
              have hpg2 : (pl a.n (t.1 ++ [e.2.2])).getD e.2.2 0 = (t.1.length : Int) := by
                rw [pl_get hto, if_pos (by simp), SD.idx_new hc]
              simp (maxSteps := 1000000) (disch := first | omega | exact PairsOK.mk rfl | (simp only [lenW] <;> omega)) only [hjl, drop_eds he, hto, get_intsD hpt, hpg, h3, hel2, hp1, ints_set, hps, get_intsD hpl2, hpg2, Int.reduceGT, ne_eq, List.length_replicate, wD, Nat.reduceAdd, Nat.reduceEqDiff, Nat.reduceBEq, ↓reduceIte, reduceCtorEq, SX.exit.injEq, if_true, if_false, Int.reduceAdd, Int.reduceSub, Int.reduceMul, Int.reduceLT, Int.reduceLE, Int.reduceEq, Int.reduceNe, Int.reduceNeg, Int.reduceToNat, Nat.reduceMul, Nat.reduceLT, Nat.reduceSub, Nat.reduceLeDiff]
              refine ⟨j + 1, by omega, by omega, ?_⟩
              rw [hstep, List.flatMap_append, List.length_append]
              dsimp only
              rw [List.length_append, nz_append, ints_append]
              exact ⟨[(50, .blk 50 0), (60, .blk 60 0), (69, .blk 69 0), (83, .blk 83 0), (78, .blk 78 0), (75, .blk 75 1), (76, .blk 76 1), (77, .blk 77 0)], rfl, au0, au9, au10⟩
          · have e : j = (sOut a.es tru v).length := by omega
            subst e
            simp (maxSteps := 1000000) (disch := first | omega | exact PairsOK.mk rfl | (simp only [lenW] <;> omega)) only [hjl, Int.reduceGT, ne_eq, List.length_replicate, wD, Nat.reduceAdd, Nat.reduceEqDiff, Nat.reduceBEq, ↓reduceIte, reduceCtorEq, SX.exit.injEq, if_true, if_false, Int.reduceAdd, Int.reduceSub, Int.reduceMul, Int.reduceLT, Int.reduceLE, Int.reduceEq, Int.reduceNe, Int.reduceNeg, Int.reduceToNat, Nat.reduceMul, Nat.reduceLT, Nat.reduceSub, Nat.reduceLeDiff]
            refine ⟨(), ?_⟩
            exact ⟨[(50, .blk 50 0), (60, .blk 60 0), (69, .blk 69 0), (83, .blk 83 0), (78, .blk 78 0), (75, .blk 75 0), (76, .blk 76 0), (77, .blk 77 0)], rfl, au0, au9, au10⟩
        rintro _ _
        have hsl3 : (sRow a.es tru i v s).2.length = s.2.length + (sOut a.es tru v).length := sRow_len _ _
        have hol3 := sOut_len a.es tru v
        simp (maxSteps := 1000000) (disch := first | omega | exact PairsOK.mk rfl | (simp only [lenW] <;> omega)) only [Int.reduceGT, ne_eq, List.length_replicate, wD, Nat.reduceAdd, Nat.reduceEqDiff, Nat.reduceBEq, ↓reduceIte, reduceCtorEq, SX.exit.injEq, if_true, if_false, Int.reduceAdd, Int.reduceSub, Int.reduceMul, Int.reduceLT, Int.reduceLE, Int.reduceEq, Int.reduceNe, Int.reduceNeg, Int.reduceToNat, Nat.reduceMul, Nat.reduceLT, Nat.reduceSub, Nat.reduceLeDiff]
        refine ⟨(i + 1, sRow a.es tru i v s), by dsimp only; omega, ⟨hin', hsi', by dsimp only; omega, hq'⟩, ?_⟩
        dsimp only
        rw [hmapp]
        exact ⟨[(50, .blk 50 0), (60, .blk 60 0), (69, .blk 69 0), (83, .blk 83 0), (78, .blk 78 0), (75, .blk 75 0), (76, .blk 76 0), (77, .blk 77 0)], rfl, au0, au9, au10⟩
      · rw [if_neg hmv, List.append_nil] at hmn
        rw [Bool.not_eq_true] at hmv
        rw [hmv]
        simp (maxSteps := 1000000) (disch := first | omega | exact PairsOK.mk rfl | (simp only [lenW] <;> omega)) only [hlt, get_ints (nz_at hv), Int.reduceGT, ne_eq, List.length_replicate, wD, Nat.reduceAdd, Nat.reduceEqDiff, Nat.reduceBEq, ↓reduceIte, reduceCtorEq, SX.exit.injEq, if_true, if_false, Int.reduceAdd, Int.reduceSub, Int.reduceMul, Int.reduceLT, Int.reduceLE, Int.reduceEq, Int.reduceNe, Int.reduceNeg, Int.reduceToNat, Nat.reduceMul, Nat.reduceLT, Nat.reduceSub, Nat.reduceLeDiff]
        refine cp ho ?_
        simp (maxSteps := 1000000) (disch := first | omega | exact PairsOK.mk rfl | (simp only [lenW] <;> omega)) only [Int.reduceGT, ne_eq, List.length_replicate, wD, Nat.reduceAdd, Nat.reduceEqDiff, Nat.reduceBEq, ↓reduceIte, reduceCtorEq, SX.exit.injEq, if_true, if_false, Int.reduceAdd, Int.reduceSub, Int.reduceMul, Int.reduceLT, Int.reduceLE, Int.reduceEq, Int.reduceNe, Int.reduceNeg, Int.reduceToNat, Nat.reduceMul, Nat.reduceLT, Nat.reduceSub, Nat.reduceLeDiff]
        refine wS_loopX 300 (fun j : Nat => [(1, .ptr 50 0 0), (2, .ptr 60 0 0), (3, .ptr 69 0 0), (4, .sl 78 0 0 a.n 1), (6, .sl 75 0 0 (((sOut a.es tru v).take j).foldl (sEd i) s).1.length 1), (7, .int .i64 i), (63, egsN (sOut a.es tru v)), (64, .int .i64 (sOut a.es tru v).length), (65, .int .i64 j)])
          (fun j => [(50, .cells 0 (rsA a)), (60, .cells 0 rsN), (69, .cells 0 (cnB a M.length (((sOut a.es tru v).take j).foldl (sEd i) s).2.length)), (83, .cells 0 (ints (nz a.al))), (78, .cells 0 (ints (pl a.n (((sOut a.es tru v).take j).foldl (sEd i) s).1))), (75, .cells 0 (ints (nz (((sOut a.es tru v).take j).foldl (sEd i) s).1))), (76, .cells 0 ((((sOut a.es tru v).take j).foldl (sEd i) s).2.flatMap edC)), (77, .cells 0 (ints (nz M)))])
          (fun j => j ≤ (sOut a.es tru v).length) (fun j => (sOut a.es tru v).length - j) 0 4 400
          (fun _ : Unit => [(1, .ptr 50 0 0), (2, .ptr 60 0 0), (3, .ptr 69 0 0), (4, .sl 78 0 0 a.n 1), (6, .sl 75 0 0 (sRow a.es tru i v s).1.length 1), (7, .int .i64 i)])
          (fun _ => [(50, .cells 0 (rsA a)), (60, .cells 0 rsN), (69, .cells 0 (cnB a M.length (sRow a.es tru i v s).2.length)), (83, .cells 0 (ints (nz a.al))), (78, .cells 0 (ints (pl a.n (sRow a.es tru i v s).1))), (75, .cells 0 (ints (nz (sRow a.es tru i v s).1))), (76, .cells 0 ((sRow a.es tru i v s).2.flatMap edC)), (77, .cells 0 (ints (nz M)))]) (fun _ => True) ?_ (Nat.zero_le _) ?_ ?_
        · rw [hmn]
          exact ⟨[(50, .blk 50 0), (60, .blk 60 0), (69, .blk 69 0), (83, .blk 83 0), (78, .blk 78 0), (75, .blk 75 0), (76, .blk 76 0), (77, .blk 77 0)], rfl, au0, au9, au10⟩
        · rintro j hj
          by_cases hjl : j < (sOut a.es tru v).length
          · obtain ⟨e, he⟩ := get_ex hjl
            have hem := mem_sOut.1 (List.mem_of_getElem? he)
            have hto := (h.esn e hem.1).2
            obtain ⟨k1, _, _, _, _⟩ := hrow j
            have hfi := k1.len
            have hstep := sRow_take (i := i) (s := s) he
            have hsl2 := sRow_len (i := i) ((sOut a.es tru v).take j) s
            rw [List.length_take] at hsl2
            generalize (((sOut a.es tru v).take j).foldl (sEd i) s) = t at *
            have hel2 := ed_len t.2
            have hpl := pl_len (n := a.n) (o := t.1)
            have hpg := pl_get (o := t.1) hto
            have hpt : e.2.2 < (pl a.n t.1).length := by omega
            have hp1 : e.2.2 + 1 ≤ (pl a.n t.1).length := by omega
            by_cases hc : e.2.2 ∈ t.1
            · have h2 : sEd i t e = (t.1, t.2 ++ [(i, e.2.1, SD.idx t.1 e.2.2)]) := if_pos (by simpa using hc)
              rw [h2] at hstep
              rw [if_pos (by simpa using hc)] at hpg
              have h3 : ¬ ((SD.idx t.1 e.2.2 : Nat) : Int) < 0 := by omega
              generalize SD.idx t.1 e.2.2 = q at *
              simp (maxSteps := 1000000) (disch := first | omega | exact PairsOK.mk rfl | (simp only [lenW] <;> omega)) only [hjl, drop_eds he, hto, get_intsD hpt, hpg, h3, hel2, Int.reduceGT, ne_eq, List.length_replicate, wD, Nat.reduceAdd, Nat.reduceEqDiff, Nat.reduceBEq, ↓reduceIte, reduceCtorEq, SX.exit.injEq, if_true, if_false, Int.reduceAdd, Int.reduceSub, Int.reduceMul, Int.reduceLT, Int.reduceLE, Int.reduceEq, Int.reduceNe, Int.reduceNeg, Int.reduceToNat, Nat.reduceMul, Nat.reduceLT, Nat.reduceSub, Nat.reduceLeDiff]
              refine ⟨j + 1, by omega, by omega, ?_⟩
              rw [hstep, List.flatMap_append, List.length_append]
              exact ⟨[(50, .blk 50 0), (60, .blk 60 0), (69, .blk 69 0), (83, .blk 83 0), (78, .blk 78 0), (75, .blk 75 0), (76, .blk 76 1), (77, .blk 77 0)], rfl, au0, au9, au10⟩
            · have h2 : sEd i t e = (t.1 ++ [e.2.2], t.2 ++ [(i, e.2.1, t.1.length)]) := if_neg (by simpa using hc)
              rw [h2] at hstep
              rw [if_neg (by simpa using hc)] at hpg
              have hps := pl_set (n := a.n) hc
              have h3 : (-1 : Int) < 0 := by decide
              have hpl2 : e.2.2 < (pl a.n (t.1 ++ [e.2.2])).length := by rw [pl_len]; exact hto
              have hpg2 : (pl a.n (t.1 ++ [e.2.2])).getD e.2.2 0 = (t.1.length : Int) := by
                rw [pl_get hto, if_pos (by simp), SD.idx_new hc]
              simp (maxSteps := 1000000) (disch := first | omega | exact PairsOK.mk rfl | (simp only [lenW] <;> omega)) only [hjl, drop_eds he, hto, get_intsD hpt, hpg, h3, hel2, hp1, ints_set, hps, get_intsD hpl2, hpg2, Int.reduceGT, ne_eq, List.length_replicate, wD, Nat.reduceAdd, Nat.reduceEqDiff, Nat.reduceBEq, ↓reduceIte, reduceCtorEq, SX.exit.injEq, if_true, if_false, Int.reduceAdd, Int.reduceSub, Int.reduceMul, Int.reduceLT, Int.reduceLE, Int.reduceEq, Int.reduceNe, Int.reduceNeg, Int.reduceToNat, Nat.reduceMul, Nat.reduceLT, Nat.reduceSub, Nat.reduceLeDiff]
              refine ⟨j + 1, by omega, by omega, ?_⟩
              rw [hstep, List.flatMap_append, List.length_append]
              dsimp only
              rw [List.length_append, nz_append, ints_append]
              exact ⟨[(50, .blk 50 0), (60, .blk 60 0), (69, .blk 69 0), (83, .blk 83 0), (78, .blk 78 0), (75, .blk 75 1), (76, .blk 76 1), (77, .blk 77 0)], rfl, au0, au9, au10⟩
          · have e : j = (sOut a.es tru v).length := by omega
            subst e
            simp (maxSteps := 1000000) (disch := first | omega | exact PairsOK.mk rfl | (simp only [lenW] <;> omega)) only [hjl, Int.reduceGT, ne_eq, List.length_replicate, wD, Nat.reduceAdd, Nat.reduceEqDiff, Nat.reduceBEq, ↓reduceIte, reduceCtorEq, SX.exit.injEq, if_true, if_false, Int.reduceAdd, Int.reduceSub, Int.reduceMul, Int.reduceLT, Int.reduceLE, Int.reduceEq, Int.reduceNe, Int.reduceNeg, Int.reduceToNat, Nat.reduceMul, Nat.reduceLT, Nat.reduceSub, Nat.reduceLeDiff]
            refine ⟨(), ?_⟩
            exact ⟨[(50, .blk 50 0), (60, .blk 60 0), (69, .blk 69 0), (83, .blk 83 0), (78, .blk 78 0), (75, .blk 75 0), (76, .blk 76 0), (77, .blk 77 0)], rfl, au0, au9, au10⟩
        rintro _ _
        have hsl3 : (sRow a.es tru i v s).2.length = s.2.length + (sOut a.es tru v).length := sRow_len _ _
        have hol3 := sOut_len a.es tru v
        simp (maxSteps := 1000000) (disch := first | omega | exact PairsOK.mk rfl | (simp only [lenW] <;> omega)) only [Int.reduceGT, ne_eq, List.length_replicate, wD, Nat.reduceAdd, Nat.reduceEqDiff, Nat.reduceBEq, ↓reduceIte, reduceCtorEq, SX.exit.injEq, if_true, if_false, Int.reduceAdd, Int.reduceSub, Int.reduceMul, Int.reduceLT, Int.reduceLE, Int.reduceEq, Int.reduceNe, Int.reduceNeg, Int.reduceToNat, Nat.reduceMul, Nat.reduceLT, Nat.reduceSub, Nat.reduceLeDiff]
        refine ⟨(i + 1, sRow a.es tru i v s), by dsimp only; omega, ⟨hin', hsi', by dsimp only; omega, hq'⟩, ?_⟩
        dsimp only
        rw [hmapp]
        exact ⟨[(50, .blk 50 0), (60, .blk 60 0), (69, .blk 69 0), (83, .blk 83 0), (78, .blk 78 0), (75, .blk 75 0), (76, .blk 76 0), (77, .blk 77 0)], rfl, au0, au9, au10⟩
    · have hv : s.1[i]? = none := List.getElem?_eq_none (by omega)
      have hqf : s = sAll a tru := by
        rw [← hq, show a.n + 1 - i = (a.n - i) + 1 by omega]
        simp only [sQ, hv]
      have hil : i = s.1.length := by omega
      have hmf : mks a i s.1 = (restr a tru).ms := by rw [hil, hqf]; rfl
      have hef : s.2 = (restr a tru).es := by rw [hqf]; rfl
      simp (maxSteps := 1000000) (disch := first | omega | exact PairsOK.mk rfl | (simp only [lenW] <;> omega)) only [hlt, Int.reduceGT, ne_eq, List.length_replicate, wD, Nat.reduceAdd, Nat.reduceEqDiff, Nat.reduceBEq, ↓reduceIte, reduceCtorEq, SX.exit.injEq, if_true, if_false, Int.reduceAdd, Int.reduceSub, Int.reduceMul, Int.reduceLT, Int.reduceLE, Int.reduceEq, Int.reduceNe, Int.reduceNeg, Int.reduceToNat, Nat.reduceMul, Nat.reduceLT, Nat.reduceSub, Nat.reduceLeDiff]
      refine ⟨(), ?_⟩
      rw [hmf, hef, ← hqf]
      exact ⟨[(60, .blk 60 0), (69, .blk 69 0), (83, .blk 83 0), (75, .blk 75 0), (76, .blk 76 0), (77, .blk 77 0)], rfl, au0, au9, au10⟩
  rintro _ _
  have hra : (restr a tru).al = a.al := rfl
  have hrn2 : (restr a tru).n = (sAll a tru).1.length := rfl
  simp (maxSteps := 1000000) (disch := first | omega | exact PairsOK.mk rfl | (simp only [lenW] <;> omega)) only [Int.reduceGT, ne_eq, List.length_replicate, wD, Nat.reduceAdd, Nat.reduceEqDiff, Nat.reduceBEq, ↓reduceIte, reduceCtorEq, SX.exit.injEq, if_true, if_false, Int.reduceAdd, Int.reduceSub, Int.reduceMul, Int.reduceLT, Int.reduceLE, Int.reduceEq, Int.reduceNe, Int.reduceNeg, Int.reduceToNat, Nat.reduceMul, Nat.reduceLT, Nat.reduceSub, Nat.reduceLeDiff]
  refine ⟨.inr trivial, _, rfl, ?_⟩
  exact Rn.agg (RnL.cons (Rn.fz0 (g := 0) rfl (by simp [ints, hra]) (RnL.same (noRefs_ints _))) (RnL.cons (Rn.same rfl) (RnL.cons (Rn.fz0 (g := 0) rfl (by simp [ints]) (RnL.same (noRefs_ints _))) (RnL.cons (Rn.fz0 (g := 0) rfl (ed_len _) (RnL.same (noRefs_ed _))) RnL.nil))))
end Go.AM.SE
namespace Go.AM.SE
open Go.Proofs Go.AM.SD
set_option maxRecDepth 100000
set_option linter.unusedSimpArgs false
set_option linter.unusedVariables false
abbrev rsC (r : Res) : List AV := [sliN r.kept, sli r.dist, rms r.rem, .int .i64 (r.rounds : Int), sliN r.sup.al, .int .i64 (r.sup.n : Int), sliN r.sup.ms, egsN r.sup.es, sliN r.orig]
theorem wf_el {a : Aut} (h : WfA a) : a.es.length ≤ 25 := by
  have h1 : (a.es.map fun e => e.1 * 5 + e.2.1).length ≤ 25 := sorted_len (n := 25) (by
    rw [List.pairwise_map]
    refine h.es.imp_of_mem fun {x y} hx hy hr => ?_
    have := h.al5 _ (h.ev x hx)
    have := h.al5 _ (h.ev y hy)
    omega) (fun z hz => by
    obtain ⟨e, he, rfl⟩ := List.mem_map.1 hz
    have := (h.esn e he).1
    have := h.n5
    have := h.al5 _ (h.ev e he)
    omega)
  rw [List.length_map] at h1; exact h1
theorem wf_aok {a : Aut} (h : WfA a) : AOk a := by
  have h1 := wf_el h
  have h2 : a.al.length ≤ 5 := nodup_len 5 a.al (by rw [List.nodup_iff_pairwise_ne]; exact h.al.imp fun h => by omega) h.al5
  have h3 : a.ms.length ≤ a.n := nodup_len a.n a.ms h.nd h.msn
  have h4 := h.n5
  exact ⟨by omega, by omega, by omega⟩
set_option maxHeartbeats 16000000 in
theorem Closed29 (a : Aut) (h : WfA a) : PSpec Try.prog 29 [aV a] (.tup [aV (allM (restr a tru)), .int .i64 0]) := by
  have hel := wf_el h
  have hc := check37 (au a) (WfA.auOk h (by omega))
  rw [auV_au] at hc
  have h44 := canonical44 a h (by omega)
  have hR := restr_wf (left := tru) h
  refine PSpec.of_rn 40 ok29 rfl (by (try simp only [noRefs, noRefs_u8, noRefs_keysI, noRefs_back, noRefs_ints, noRefs_eg, noRefs_ed, noRefs_rm, noRefs_ls, noRefs_bls, noRef, Bool.and_self, Bool.and_true]) <;> rfl) (by simp only [allM, noRef, noRefs, noRefs_ints, noRefs_ed]; rfl) ?_
  generalize restr a tru = R at *
  have hn5 := hR.n5
  simp (maxSteps := 1000000) (disch := first | omega | exact PairsOK.mk rfl | (simp only [lenW] <;> omega)) only [s29, Int.reduceGT, ne_eq, List.length_replicate, wD, Nat.reduceAdd, Nat.reduceEqDiff, Nat.reduceBEq, ↓reduceIte, reduceCtorEq, SX.exit.injEq, if_true, if_false, Int.reduceAdd, Int.reduceSub, Int.reduceMul, Int.reduceLT, Int.reduceLE, Int.reduceEq, Int.reduceNe, Int.reduceNeg, Int.reduceToNat, Nat.reduceMul, Nat.reduceLT, Nat.reduceSub, Nat.reduceLeDiff]
  refine cp hc ?_
  simp (maxSteps := 1000000) (disch := first | omega | exact PairsOK.mk rfl | (simp only [lenW] <;> omega)) only [Int.reduceGT, ne_eq, List.length_replicate, wD, Nat.reduceAdd, Nat.reduceEqDiff, Nat.reduceBEq, ↓reduceIte, reduceCtorEq, SX.exit.injEq, if_true, if_false, Int.reduceAdd, Int.reduceSub, Int.reduceMul, Int.reduceLT, Int.reduceLE, Int.reduceEq, Int.reduceNe, Int.reduceNeg, Int.reduceToNat, Nat.reduceMul, Nat.reduceLT, Nat.reduceSub, Nat.reduceLeDiff]
  refine cp h44 ?_
  simp (maxSteps := 1000000) (disch := first | omega | exact PairsOK.mk rfl | (simp only [lenW] <;> omega)) only [Int.reduceGT, ne_eq, List.length_replicate, wD, Nat.reduceAdd, Nat.reduceEqDiff, Nat.reduceBEq, ↓reduceIte, reduceCtorEq, SX.exit.injEq, if_true, if_false, Int.reduceAdd, Int.reduceSub, Int.reduceMul, Int.reduceLT, Int.reduceLE, Int.reduceEq, Int.reduceNe, Int.reduceNeg, Int.reduceToNat, Nat.reduceMul, Nat.reduceLT, Nat.reduceSub, Nat.reduceLeDiff]
  refine wS_loopX 100 (fun i : Nat => [(2, .ptr 60 0 0), (5, .ptr 69 0 0), (17, .int .i64 R.n), (18, .int .i64 i)])
    (fun i => [(60, .cells 0 rsN), (69, .cells 0 [sliN R.al, .int .i64 (R.n : Int), .sl 77 0 0 i 1, egsN R.es]), (77, .cells 0 (ints (nz (List.range i))))])
    (fun i => i ≤ R.n) (fun i => R.n - i) 0 0 140
    (fun _ : Unit => [(2, .ptr 60 0 0), (5, .ptr 69 0 0)])
    (fun _ => [(60, .cells 0 rsN), (69, .cells 0 [sliN R.al, .int .i64 (R.n : Int), .sl 77 0 0 R.n 1, egsN R.es]), (77, .cells 0 (ints (nz (List.range R.n))))]) (fun _ => True) ?_ (Nat.zero_le _) ?_ ?_
  · exact ⟨[(60, .blk 41 0), (69, .blk 50 0), (77, .nil)], rfl, au0, au9, au10⟩
  · rintro i hi
    by_cases hlt : i < R.n
    · have hrl : (List.range i).length = i := by simp
      have hrs : List.range (i + 1) = List.range i ++ [i] := List.range_succ
      generalize List.range i = L at *
      simp (maxSteps := 1000000) (disch := first | omega | exact PairsOK.mk rfl | (simp only [lenW] <;> omega)) only [hlt, hrl, Int.reduceGT, ne_eq, List.length_replicate, wD, Nat.reduceAdd, Nat.reduceEqDiff, Nat.reduceBEq, ↓reduceIte, reduceCtorEq, SX.exit.injEq, if_true, if_false, Int.reduceAdd, Int.reduceSub, Int.reduceMul, Int.reduceLT, Int.reduceLE, Int.reduceEq, Int.reduceNe, Int.reduceNeg, Int.reduceToNat, Nat.reduceMul, Nat.reduceLT, Nat.reduceSub, Nat.reduceLeDiff]
      refine ⟨i + 1, by omega, by omega, ?_⟩
      rw [hrs, nz_append, ints_append]
      exact ⟨[(60, .blk 60 0), (69, .blk 69 0), (77, .blk 77 1)], rfl, au0, au9, au10⟩
    · have e : i = R.n := by omega
      subst e
      simp (maxSteps := 1000000) (disch := first | omega | exact PairsOK.mk rfl | (simp only [lenW] <;> omega)) only [hlt, Int.reduceGT, ne_eq, List.length_replicate, wD, Nat.reduceAdd, Nat.reduceEqDiff, Nat.reduceBEq, ↓reduceIte, reduceCtorEq, SX.exit.injEq, if_true, if_false, Int.reduceAdd, Int.reduceSub, Int.reduceMul, Int.reduceLT, Int.reduceLE, Int.reduceEq, Int.reduceNe, Int.reduceNeg, Int.reduceToNat, Nat.reduceMul, Nat.reduceLT, Nat.reduceSub, Nat.reduceLeDiff]
      refine ⟨(), ?_⟩
      exact ⟨[(60, .blk 60 0), (69, .blk 69 0), (77, .blk 77 0)], rfl, au0, au9, au10⟩
  rintro _ _
  simp (maxSteps := 1000000) (disch := first | omega | exact PairsOK.mk rfl | (simp only [lenW] <;> omega)) only [Int.reduceGT, ne_eq, List.length_replicate, wD, Nat.reduceAdd, Nat.reduceEqDiff, Nat.reduceBEq, ↓reduceIte, reduceCtorEq, SX.exit.injEq, if_true, if_false, Int.reduceAdd, Int.reduceSub, Int.reduceMul, Int.reduceLT, Int.reduceLE, Int.reduceEq, Int.reduceNe, Int.reduceNeg, Int.reduceToNat, Nat.reduceMul, Nat.reduceLT, Nat.reduceSub, Nat.reduceLeDiff]
  refine ⟨.inr trivial, _, rfl, ?_⟩
  refine Rn.tup (RnL.cons (Rn.agg (RnL.cons (Rn.same (noRef_sliN _)) (RnL.cons (Rn.same rfl) (RnL.cons ?_ (RnL.cons (Rn.same (noRef_egsN _)) RnL.nil))))) (RnL.cons (Rn.same rfl) RnL.nil))
  show Rn 0 π0 _ (.fsl (ints (nz (List.range R.n))) (List.range R.n).length 1) _
  rw [List.length_range]
  exact Rn.fz0 (g := 0) rfl (by simp [ints]) (RnL.same (noRefs_ints _))
set_option maxHeartbeats 64000000 in
theorem law8 (t : Tsk) (ho : TOk t) :
    W2 Try.prog ⟨s8.n, 0⟩ s8.body (fun e B => (e = .normal ∨ e = .ret) ∧ resV B.T B.h s8.res = some [.bool true]) ⟨argT 0 [tskV t], .e⟩ := by
  refine (wpC.toW (n := 40) (Q := fun e T h _ => (e = .normal ∨ e = .ret) ∧ resV T h s8.res = some [.bool true]) (show wS Try.prog ⟨s8.n, 0⟩ s8.body [] 40 _ _ _ from ?_)).mono fun e B ⟨_, h⟩ => h
  have hlu : (u8s t.T).length = 25 := by simp [u8s, ho.T]
  have h30 : (AV.int .u8 (t.set : Int) :: .int .u8 (t.st : Int) :: .int .u8 (t.mr : Int) :: (u8s t.T ++ [.int .u32 (t.fb : Int), .int .u8 (t.un : Int)])).length = 30 := by simp [hlu]
  have ht30 : (AV.int .u8 (t.set : Int) :: .int .u8 (t.st : Int) :: .int .u8 (t.mr : Int) :: (u8s t.T ++ [.int .u32 (t.fb : Int), .int .u8 (t.un : Int)])).take 30 = AV.int .u8 (t.set : Int) :: .int .u8 (t.st : Int) :: .int .u8 (t.mr : Int) :: (u8s t.T ++ [.int .u32 (t.fb : Int), .int .u8 (t.un : Int)]) := List.take_of_length_le (by omega)
  have hop := open10 t ho
  have hw := tA_wf t
  have hel := tA_el t
  have hq := tQ t
  have k4 := Closed29 (tA t) hw
  rw [show restr (tA t) tru = tA t from tA_same t] at k4
  simp (maxSteps := 1000000) (disch := first | omega | exact PairsOK.mk rfl | (simp only [lenW] <;> omega)) only [s8, Int.reduceGT, ne_eq, List.length_replicate, wD, Nat.reduceAdd, Nat.reduceEqDiff, Nat.reduceBEq, ↓reduceIte, reduceCtorEq, SX.exit.injEq, if_true, if_false, Int.reduceAdd, Int.reduceSub, Int.reduceMul, Int.reduceLT, Int.reduceLE, Int.reduceEq, Int.reduceNe, Int.reduceNeg, Int.reduceToNat, Nat.reduceMul, Nat.reduceLT, Nat.reduceSub, Nat.reduceLeDiff]
  refine cp known9 ?_
  simp (maxSteps := 1000000) (disch := first | omega | exact PairsOK.mk rfl | (simp only [lenW] <;> omega)) only [h30, ht30, Int.reduceGT, ne_eq, List.length_replicate, wD, Nat.reduceAdd, Nat.reduceEqDiff, Nat.reduceBEq, ↓reduceIte, reduceCtorEq, SX.exit.injEq, if_true, if_false, Int.reduceAdd, Int.reduceSub, Int.reduceMul, Int.reduceLT, Int.reduceLE, Int.reduceEq, Int.reduceNe, Int.reduceNeg, Int.reduceToNat, Nat.reduceMul, Nat.reduceLT, Nat.reduceSub, Nat.reduceLeDiff]
  refine cp hop ?_
  generalize tA t = A at *
  generalize tF t = F at *
  generalize tU t = U at *
  have hsw : WfA (pRes A F U true).sup := restr_wf hw
  have hM := allM_wf hw
  have k1 := Synth23 A F U hw hq hel
  have k2 := nil_mid (noRef_aV _) (noRef_sliN _) (Synth23 (pRes A F U true).sup [] U hsw ⟨List.Pairwise.nil, (fun x hx => by cases hx), hq.uS, hq.un⟩ (by have := wf_el hsw; omega))
  have k3 := Closed24 A F U hw hq hel
  have k5 := Kept11 (allM A) F U hM ⟨hq.fS, hq.fn, hq.uS, hq.un⟩ (by have := wf_el hM; omega)
  rw [allM_kept hw] at k5
  obtain ⟨g1, g2, g3⟩ := again_res (f := F) (u := U) hw
  have hmore := kept_more (f := F) (u := U) hw
  have z1 : (pRes A F U true).kept.length ≤ 5 := by show (kept _ _).length ≤ 5; exact Nat.le_trans kept_len hw.n5
  have z2 : (pRes A F U false).kept.length ≤ 5 := by show (kept _ _).length ≤ 5; exact Nat.le_trans kept_len hw.n5
  have c1 := same30 (pRes A F U true).sup (pRes A F U true).sup (wf_aok hsw) (wf_aok hsw)
  rw [autB_refl] at c1
  have c2 := eq14N (pRes A F U false).kept (pRes A F U false).kept (by omega)
  rw [decide_eq_true rfl] at c2
  generalize pRes (pRes A F U true).sup [] U true = R3 at *
  generalize pRes A F U true = R1 at *
  generalize pRes A F U false = R2 at *
  obtain ⟨kp, di, rm, rd, su, og⟩ := R3
  dsimp only at g1 g2 g3
  subst g1 g2
  have g3' : (og.length : Int) = (R1.sup.n : Int) := by omega
  simp (maxSteps := 1000000) (disch := first | omega | exact PairsOK.mk rfl | (simp only [lenW] <;> omega)) only [Int.reduceGT, ne_eq, List.length_replicate, wD, Nat.reduceAdd, Nat.reduceEqDiff, Nat.reduceBEq, ↓reduceIte, reduceCtorEq, SX.exit.injEq, if_true, if_false, Int.reduceAdd, Int.reduceSub, Int.reduceMul, Int.reduceLT, Int.reduceLE, Int.reduceEq, Int.reduceNe, Int.reduceNeg, Int.reduceToNat, Nat.reduceMul, Nat.reduceLT, Nat.reduceSub, Nat.reduceLeDiff]
  refine cp k1 ?_
  simp (maxSteps := 1000000) (disch := first | omega | exact PairsOK.mk rfl | (simp only [lenW] <;> omega)) only [Int.reduceGT, ne_eq, List.length_replicate, wD, Nat.reduceAdd, Nat.reduceEqDiff, Nat.reduceBEq, ↓reduceIte, reduceCtorEq, SX.exit.injEq, if_true, if_false, Int.reduceAdd, Int.reduceSub, Int.reduceMul, Int.reduceLT, Int.reduceLE, Int.reduceEq, Int.reduceNe, Int.reduceNeg, Int.reduceToNat, Nat.reduceMul, Nat.reduceLT, Nat.reduceSub, Nat.reduceLeDiff]
  refine cp k2 ?_
  simp (maxSteps := 1000000) (disch := first | omega | exact PairsOK.mk rfl | (simp only [lenW] <;> omega)) only [Int.reduceGT, ne_eq, List.length_replicate, wD, Nat.reduceAdd, Nat.reduceEqDiff, Nat.reduceBEq, ↓reduceIte, reduceCtorEq, SX.exit.injEq, if_true, if_false, Int.reduceAdd, Int.reduceSub, Int.reduceMul, Int.reduceLT, Int.reduceLE, Int.reduceEq, Int.reduceNe, Int.reduceNeg, Int.reduceToNat, Nat.reduceMul, Nat.reduceLT, Nat.reduceSub, Nat.reduceLeDiff]
  refine cp k3 ?_
  simp (maxSteps := 1000000) (disch := first | omega | exact PairsOK.mk rfl | (simp only [lenW] <;> omega)) only [Int.reduceGT, ne_eq, List.length_replicate, wD, Nat.reduceAdd, Nat.reduceEqDiff, Nat.reduceBEq, ↓reduceIte, reduceCtorEq, SX.exit.injEq, if_true, if_false, Int.reduceAdd, Int.reduceSub, Int.reduceMul, Int.reduceLT, Int.reduceLE, Int.reduceEq, Int.reduceNe, Int.reduceNeg, Int.reduceToNat, Nat.reduceMul, Nat.reduceLT, Nat.reduceSub, Nat.reduceLeDiff]
  refine cp k4 ?_
  simp (maxSteps := 1000000) (disch := first | omega | exact PairsOK.mk rfl | (simp only [lenW] <;> omega)) only [Int.reduceGT, ne_eq, List.length_replicate, wD, Nat.reduceAdd, Nat.reduceEqDiff, Nat.reduceBEq, ↓reduceIte, reduceCtorEq, SX.exit.injEq, if_true, if_false, Int.reduceAdd, Int.reduceSub, Int.reduceMul, Int.reduceLT, Int.reduceLE, Int.reduceEq, Int.reduceNe, Int.reduceNeg, Int.reduceToNat, Nat.reduceMul, Nat.reduceLT, Nat.reduceSub, Nat.reduceLeDiff]
  refine cp c1 ?_
  simp (maxSteps := 1000000) (disch := first | omega | exact PairsOK.mk rfl | (simp only [lenW] <;> omega)) only [g3', Int.reduceGT, ne_eq, List.length_replicate, wD, Nat.reduceAdd, Nat.reduceEqDiff, Nat.reduceBEq, ↓reduceIte, reduceCtorEq, SX.exit.injEq, if_true, if_false, Int.reduceAdd, Int.reduceSub, Int.reduceMul, Int.reduceLT, Int.reduceLE, Int.reduceEq, Int.reduceNe, Int.reduceNeg, Int.reduceToNat, Nat.reduceMul, Nat.reduceLT, Nat.reduceSub, Nat.reduceLeDiff]
  refine wS_loopX 200 (fun i : Nat => [(4, sliN F), (5, sliN U), (6, .ptr 60 0 0), (10, .ptr 61 0 0), (12, .ptr 62 0 0), (14, .int .i64 i)])
    (fun _ => [(60, .cells 0 (rsC R1)), (61, .cells 0 (rsC R2)), (62, .cells 0 (rsA (allM A)))]) (fun i => i ≤ R1.kept.length) (fun i => R1.kept.length - i) 0 0 240
    (fun _ : Unit => [(4, sliN F), (5, sliN U), (10, .ptr 61 0 0), (12, .ptr 62 0 0)])
    (fun _ => [(61, .cells 0 (rsC R2)), (62, .cells 0 (rsA (allM A)))]) (fun _ => True) ?_ (Nat.zero_le _) ?_ ?_
  · exact ⟨[(60, .blk 61 0), (61, .blk 81 0), (62, .blk 89 0)], rfl, au0, au9, au10⟩
  · rintro i hi
    by_cases hlt : i < R1.kept.length
    · obtain ⟨x, hx⟩ := get_ex hlt
      have hxk := hmore x (List.mem_of_getElem? hx)
      have hh := has15 (nz R2.kept) x (by simp; omega)
      rw [mem_nz, sli_nz, show R2.kept.contains x = true by simpa using hxk] at hh
      simp (maxSteps := 1000000) (disch := first | omega | exact PairsOK.mk rfl | (simp only [lenW] <;> omega)) only [hlt, head_nz hx, Int.reduceGT, ne_eq, List.length_replicate, wD, Nat.reduceAdd, Nat.reduceEqDiff, Nat.reduceBEq, ↓reduceIte, reduceCtorEq, SX.exit.injEq, if_true, if_false, Int.reduceAdd, Int.reduceSub, Int.reduceMul, Int.reduceLT, Int.reduceLE, Int.reduceEq, Int.reduceNe, Int.reduceNeg, Int.reduceToNat, Nat.reduceMul, Nat.reduceLT, Nat.reduceSub, Nat.reduceLeDiff]
      refine cp hh ?_
      simp (maxSteps := 1000000) (disch := first | omega | exact PairsOK.mk rfl | (simp only [lenW] <;> omega)) only [Int.reduceGT, ne_eq, List.length_replicate, wD, Nat.reduceAdd, Nat.reduceEqDiff, Nat.reduceBEq, ↓reduceIte, reduceCtorEq, SX.exit.injEq, if_true, if_false, Int.reduceAdd, Int.reduceSub, Int.reduceMul, Int.reduceLT, Int.reduceLE, Int.reduceEq, Int.reduceNe, Int.reduceNeg, Int.reduceToNat, Nat.reduceMul, Nat.reduceLT, Nat.reduceSub, Nat.reduceLeDiff]
      exact ⟨i + 1, by omega, by omega, ⟨[(60, .blk 60 0), (61, .blk 61 0), (62, .blk 62 0)], rfl, au0, au9, au10⟩⟩
    · simp (maxSteps := 1000000) (disch := first | omega | exact PairsOK.mk rfl | (simp only [lenW] <;> omega)) only [hlt, Int.reduceGT, ne_eq, List.length_replicate, wD, Nat.reduceAdd, Nat.reduceEqDiff, Nat.reduceBEq, ↓reduceIte, reduceCtorEq, SX.exit.injEq, if_true, if_false, Int.reduceAdd, Int.reduceSub, Int.reduceMul, Int.reduceLT, Int.reduceLE, Int.reduceEq, Int.reduceNe, Int.reduceNeg, Int.reduceToNat, Nat.reduceMul, Nat.reduceLT, Nat.reduceSub, Nat.reduceLeDiff]
      exact ⟨(), ⟨[(61, .blk 61 0), (62, .blk 62 0)], rfl, au0, au9, au10⟩⟩
  rintro _ _
  simp (maxSteps := 1000000) (disch := first | omega | exact PairsOK.mk rfl | (simp only [lenW] <;> omega)) only [Int.reduceGT, ne_eq, List.length_replicate, wD, Nat.reduceAdd, Nat.reduceEqDiff, Nat.reduceBEq, ↓reduceIte, reduceCtorEq, SX.exit.injEq, if_true, if_false, Int.reduceAdd, Int.reduceSub, Int.reduceMul, Int.reduceLT, Int.reduceLE, Int.reduceEq, Int.reduceNe, Int.reduceNeg, Int.reduceToNat, Nat.reduceMul, Nat.reduceLT, Nat.reduceSub, Nat.reduceLeDiff]
  refine cp k5 ?_
  simp (maxSteps := 1000000) (disch := first | omega | exact PairsOK.mk rfl | (simp only [lenW] <;> omega)) only [Int.reduceGT, ne_eq, List.length_replicate, wD, Nat.reduceAdd, Nat.reduceEqDiff, Nat.reduceBEq, ↓reduceIte, reduceCtorEq, SX.exit.injEq, if_true, if_false, Int.reduceAdd, Int.reduceSub, Int.reduceMul, Int.reduceLT, Int.reduceLE, Int.reduceEq, Int.reduceNe, Int.reduceNeg, Int.reduceToNat, Nat.reduceMul, Nat.reduceLT, Nat.reduceSub, Nat.reduceLeDiff]
  refine cp c2 ?_
  simp (maxSteps := 1000000) (disch := first | omega | exact PairsOK.mk rfl | (simp only [lenW] <;> omega)) only [Int.reduceGT, ne_eq, List.length_replicate, wD, Nat.reduceAdd, Nat.reduceEqDiff, Nat.reduceBEq, ↓reduceIte, reduceCtorEq, SX.exit.injEq, if_true, if_false, Int.reduceAdd, Int.reduceSub, Int.reduceMul, Int.reduceLT, Int.reduceLE, Int.reduceEq, Int.reduceNe, Int.reduceNeg, Int.reduceToNat, Nat.reduceMul, Nat.reduceLT, Nat.reduceSub, Nat.reduceLeDiff]
  exact ⟨.inr trivial, rfl⟩
theorem law8_in (d0 : tyTask.D) (h0 : tyTask.wf d0) :
    W2 Try.prog ⟨s8.n, 0⟩ s8.body (fun e B => (e = .normal ∨ e = .ret) ∧ resV B.T B.h s8.res = some [.bool true]) ⟨argT 0 [tyTask.val d0], .e⟩ := by
  obtain ⟨t, ht, e0⟩ := tsk_in h0
  rw [e0]
  exact law8 t ht
end Go.AM.SE
