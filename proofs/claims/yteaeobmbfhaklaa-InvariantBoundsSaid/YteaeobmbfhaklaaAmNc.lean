/- Contracts for nets: net.Incidence. Conditions: none of ours. -/
import Derived.Test.YteaeobmbfhaklaaAmNb
namespace Go.AM.SN
open Go.Proofs
set_option maxRecDepth 100000
set_option linter.unusedSimpArgs false
set_option linter.unusedVariables false

/-- A matrix in blocks of the call's own: bo the rows' block, bs the rows. -/
structure MatM (h : Heap) (n lo bo : Nat) (bs : List Nat) (m : Nat) (f : Nat → Nat → Int) : Prop where
  out : h.get bo = some (.cells 0 (bs.map fun b => AV.sl b 0 0 m 1))
  row : ∀ p b, bs[p]? = some b → h.get b = some (.cells 0 (ints ((List.range m).map (f p))))
  nod : bs.Nodup
  bnd : ∀ b ∈ bs, lo < b ∧ b < n ∧ b ≠ bo
  bo1 : lo < bo
  bo2 : bo < n

theorem MatM.keep {h h' : Heap} {n n' lo bo m : Nat} {bs : List Nat} {f : Nat → Nat → Int} (M : MatM h n lo bo bs m f) (hn : n ≤ n') (hk : ∀ b, lo < b → b < n → h'.get b = h.get b) : MatM h' n' lo bo bs m f :=
  ⟨by rw [hk bo M.bo1 M.bo2]; exact M.out, fun p b hb => by
    have := M.bnd b (List.mem_of_getElem? hb)
    rw [hk b this.1 this.2.1]; exact M.row p b hb, M.nod, fun b hb => by have := M.bnd b hb; exact ⟨this.1, by omega, this.2.2⟩, M.bo1, by have := M.bo2; omega⟩
theorem MatM.congr {h : Heap} {n lo bo m : Nat} {bs : List Nat} {f f' : Nat → Nat → Int} (M : MatM h n lo bo bs m f) (hf : ∀ p t, p < bs.length → t < m → f p t = f' p t) : MatM h n lo bo bs m f' :=
  ⟨M.out, fun p b hb => by
    rw [M.row p b hb]
    have hp : p < bs.length := (List.getElem?_eq_some_iff.1 hb).1
    have : (List.range m).map (f p) = (List.range m).map (f' p) := List.map_congr_left fun t ht => hf p t hp (by simpa using ht)
    rw [this], M.nod, M.bnd, M.bo1, M.bo2⟩
theorem MatM.upd {h : Heap} {n lo bo m p t b : Nat} {bs : List Nat} {f : Nat → Nat → Int} (M : MatM h n lo bo bs m f) (hb : bs[p]? = some b) (ht : t < m) (hl : b < 1099511627775) (v : Int) :
    MatM (h.set b (.cells 0 ((ints ((List.range m).map (f p))).set t (.int .i64 v)))) n lo bo bs m (fun p' t' => if p' = p ∧ t' = t then v else f p' t') := by
  have hbb := M.bnd b (List.mem_of_getElem? hb)
  refine ⟨by rw [get_ne hl (fun e => hbb.2.2 e.symm)]; exact M.out, fun p' b' hb' => ?_, M.nod, M.bnd, M.bo1, M.bo2⟩
  by_cases e : p' = p
  · subst e
    rw [hb] at hb'; cases hb'
    rw [get_same hl]
    congr 2
    refine List.ext_getElem? fun j => ?_
    simp only [ints, List.getElem?_set, List.length_map, List.length_range, List.getElem?_map]
    by_cases hj : t = j
    · subst hj
      simp [ht]
    · rw [if_neg hj]
      by_cases hjm : j < m
      · simp [List.getElem?_range hjm]
        exact fun e => absurd e.symm hj
      · simp [List.getElem?_eq_none (show (List.range m).length ≤ j by simp; omega)]
  · have hne : b' ≠ b := by
      intro e2; subst e2
      have h1 := (List.getElem?_eq_some_iff.1 hb)
      have h2 := (List.getElem?_eq_some_iff.1 hb')
      obtain ⟨q1, q2⟩ := h1
      obtain ⟨q3, q4⟩ := h2
      have hp := List.pairwise_iff_getElem.1 M.nod
      rcases Nat.lt_or_gt_of_ne e with hlt | hlt
      · exact hp p' p q3 q1 hlt (q4.trans q2.symm)
      · exact hp p p' q1 q3 hlt (q2.trans q4.symm)
    rw [get_ne hl hne, M.row p' b' hb']
    have : (List.range m).map (f p') = (List.range m).map (fun t' => if p' = p ∧ t' = t then v else f p' t') := List.map_congr_left fun t' _ => by simp [e]
    rw [this]
/-- The sum of the weights of a place. -/
def sumW : List (Int × Int) → Int → Int
  | [], _ => 0
  | a :: l, p => (if a.1 = p then a.2 else 0) + sumW l p
theorem sumW_take : ∀ {l : List (Int × Int)} {i : Nat} {a : Int × Int} {p : Int}, l[i]? = some a → sumW (l.take (i + 1)) p = sumW (l.take i) p + (if a.1 = p then a.2 else 0)
  | [], i, a, p, h => by simp at h
  | b :: l, 0, a, p, h => by simp at h; subst h; simp [sumW]
  | b :: l, i + 1, a, p, h => by
    simp at h
    have := sumW_take (p := p) h
    simp only [List.take_succ_cons, sumW] at this ⊢
    omega

def Inc (l : List (Int × Int)) : Prop := ∀ (i : Nat) (a b : Int × Int), l[i]? = some a → l[i + 1]? = some b → a.1 < b.1
theorem Inc.tail {a : Int × Int} {l : List (Int × Int)} (h : Inc (a :: l)) : Inc l := fun i x y h1 h2 => h (i + 1) x y (by simpa using h1) (by simpa using h2)
theorem sumW_zero : ∀ {l : List (Int × Int)} {a : Int × Int} {p : Int}, Inc (a :: l) → p ≤ a.1 → sumW l p = 0
  | [], _, _, _, _ => rfl
  | b :: l, a, p, h, hp => by
    have h1 := h 0 a b rfl rfl
    have h2 := sumW_zero (p := p) h.tail (by omega)
    have h3 : b.1 ≠ p := by omega
    simp [sumW, h2, h3]
theorem weightR_sum : ∀ {l : List (Int × Int)} {p : Int}, Inc l → weightR l p = sumW l p
  | [], _, _ => rfl
  | a :: l, p, h => by
    have ih := weightR_sum (p := p) h.tail
    by_cases e : a.1 = p
    · have := sumW_zero (p := p) h (by omega)
      simp [weightR, sumW, e, this]
    · simp [weightR, sumW, e, ih]
/-- What a transition changes at a place. -/
def chg (x : Nt) (p t : Nat) : Int := match x.tr[t]? with | some a => sumW a.out p - sumW a.inn p | none => 0
theorem incR_chg {x : Nt} (ho : NetOk x) (p : Nat) : incR x p = (List.range x.tr.length).map (chg x p) := by
  refine List.ext_getElem? fun j => ?_
  by_cases hj : j < x.tr.length
  · obtain ⟨a, ha⟩ := get_ex hj
    have hm := List.mem_of_getElem? ha
    simp only [incR, List.getElem?_map, ha, List.getElem?_range hj, Option.map_some, chg]
    rw [weightR_sum (ho.out a hm).up, weightR_sum (ho.inn a hm).up]
  · rw [List.getElem?_eq_none (by rw [incR_len]; omega), List.getElem?_eq_none (by simp; omega)]

theorem sumW_bound : ∀ {l : List (Int × Int)} {p : Int}, (∀ a ∈ l, 0 ≤ a.2 ∧ a.2 ≤ 8) → 0 ≤ sumW l p ∧ sumW l p ≤ 8 * l.length
  | [], _, _ => by simp [sumW]
  | a :: l, p, h => by
    have h1 := sumW_bound (p := p) (fun b hb => h b (by simp [hb])) (l := l)
    have h2 := h a (by simp)
    simp only [sumW, List.length_cons]
    split <;> omega
theorem FrzL.of_get {h : Heap} : ∀ {xs ys : List AV}, xs.length = ys.length → (∀ (j : Nat) (a b : AV), xs[j]? = some a → ys[j]? = some b → FrzTo h a b) → FrzL h xs ys
  | [], [], _, _ => trivial
  | [], _ :: _, hl, _ => by simp at hl
  | _ :: _, [], hl, _ => by simp at hl
  | x :: xs, y :: ys, hl, hh => ⟨hh 0 x y rfl rfl, FrzL.of_get (by simpa using hl) fun j a b h1 h2 => hh (j + 1) a b (by simpa using h1) (by simpa using h2)⟩
theorem flat_zero (m : Nat) : (List.replicate m [AV.int .i64 0]).flatten = ints ((List.range m).map fun _ => 0) := by
  induction m with
  | zero => rfl
  | succ m ih => rw [List.replicate_succ', List.flatten_append, ih, List.range_succ, List.map_append, ints_append]; rfl
theorem flat_nil (m : Nat) : (List.replicate m [AV.nilsl]).flatten = List.replicate m AV.nilsl := by
  induction m with
  | zero => rfl
  | succ m ih => rw [List.replicate_succ, List.flatten_cons, ih, List.replicate_succ]; rfl

set_option maxHeartbeats 8000000 in
theorem netIncidence (x : Nt) (ho : NetOk x) : PSpec Try.prog 48 [netV x] (.tup [lsts (incM x), .int .i64 0]) := by
  refine PSpec.of_frz 64 ok48 rfl (by rw [noRefs, noRef_net]; rfl) (by simp only [noRef, noRefs, noRefs_lsts]; rfl) ?_
  have hp := ho.places
  have ht := ho.trans
  have hfe : ∀ b, Tr.get (α := Blk) .e b = none := fun b => by simp [Tr.get]
  simp (config := { maxSteps := 1000000 }) (disch := omega) only [s48, hfe, wordsN, Int.reduceGT, words, Nat.reduceAdd, Nat.reduceEqDiff, Nat.reduceBEq, ↓reduceIte, reduceCtorEq, SX.exit.injEq, if_true, if_false, Int.reduceAdd, Int.reduceSub, Int.reduceMul, Int.reduceLT, Int.reduceLE, Int.reduceEq, Int.reduceNe, Int.reduceNeg, Int.reduceToNat, Nat.reduceMul, Nat.reduceLT, Nat.reduceSub, Nat.reduceLeDiff]
  refine cp (check x ho) ?_
  have hc1 : (24 : Int) * (x.ini.length : Int) ≤ 1099511627776 := by omega
  have hc3 : (x.ini.length : Int) ≤ 1099511627776 := by omega
  simp (config := { maxSteps := 1000000 }) (disch := omega) only [hfe, hc1, hc3, flat_nil, Int.le_refl, wordsN, Int.reduceGT, words, Nat.reduceAdd, Nat.reduceEqDiff, Nat.reduceBEq, ↓reduceIte, reduceCtorEq, SX.exit.injEq, if_true, if_false, Int.reduceAdd, Int.reduceSub, Int.reduceMul, Int.reduceLT, Int.reduceLE, Int.reduceEq, Int.reduceNe, Int.reduceNeg, Int.reduceToNat, Nat.reduceMul, Nat.reduceLT, Nat.reduceSub, Nat.reduceLeDiff]
  -- the rows are made
  refine wS_loop (fun a : Nat × List Nat => [(1, .ptr 64 0 0), (5, .sl 75 0 0 x.ini.length 1), (23, .int .i64 x.ini.length), (24, .int .i64 a.1)])
    (fun a h n => a.1 ≤ x.ini.length ∧ h.get 64 = some (.cells 0 [sli x.ini, tns x.tr]) ∧ Fresh n h ∧ 75 < n ∧ n ≤ 1000 + a.1 * 100 ∧ a.2.length = a.1 ∧
      h.get 75 = some (.cells 0 (a.2.map (fun b => AV.sl b 0 0 x.tr.length 1) ++ List.replicate (x.ini.length - a.1) .nilsl)) ∧
      (∀ b ∈ a.2, 75 < b ∧ b < n ∧ h.get b = some (.cells 0 (ints ((List.range x.tr.length).map fun _ => 0)))) ∧ a.2.Nodup)
    (fun a => x.ini.length - a.1) (0, []) (by repeat (first | exact Sub.nil | refine Sub.cons (by first | rfl | (rw [Int.natCast_add]; rfl)) ?_)) ⟨Nat.zero_le _, by rw [get_ne (by omega) (by omega), get_same (by omega)], (Fresh.e (n := 76)).le (by omega) |>.set (by omega) (by omega) |>.set (by omega) (by omega), by omega, by omega, rfl, by rw [get_same (by omega)]; rfl, fun b hb => by simp at hb, List.nodup_nil⟩ ?_
  rintro ⟨p, bs⟩ h n ⟨hi, h64, hf, hn0, hn, hbl, h75, hbs, hnd⟩
  dsimp only at hi hn hbl h75 hbs hnd ⊢
  have hf0 : ∀ b, n ≤ b → h.get b = none := hf
  by_cases hlt : p < x.ini.length
  · have hlt' : (p : Int) < (x.ini.length : Int) := by omega
    have hc2 : (8 : Int) * (x.tr.length : Int) ≤ 1099511627776 := by omega
    have hc4 : (x.tr.length : Int) ≤ 1099511627776 := by omega
    have hpl : p + 1 ≤ (bs.map (fun b => AV.sl b 0 0 x.tr.length 1) ++ List.replicate (x.ini.length - p) AV.nilsl).length := by simp; omega
    have hset : ∀ k, (bs.map (fun b => AV.sl b 0 0 x.tr.length 1) ++ List.replicate (x.ini.length - p) AV.nilsl).set p (.sl k 0 0 x.tr.length 1) = (bs ++ [k]).map (fun b => AV.sl b 0 0 x.tr.length 1) ++ List.replicate (x.ini.length - (p + 1)) AV.nilsl := by
      intro k
      rw [List.set_append_right _ _ (by simp; omega)]
      have e1 : x.ini.length - p = (x.ini.length - (p + 1)) + 1 := by omega
      rw [e1, List.replicate_succ]
      simp [hbl]
    simp (config := { maxSteps := 1000000 }) (disch := omega) only [hlt', h64, hc2, hc4, Int.le_refl, flat_zero, hf0, h75, hpl, hset, wordsN, Int.reduceGT, words, Nat.reduceAdd, Nat.reduceEqDiff, Nat.reduceBEq, ↓reduceIte, reduceCtorEq, SX.exit.injEq, if_true, if_false, Int.reduceAdd, Int.reduceSub, Int.reduceMul, Int.reduceLT, Int.reduceLE, Int.reduceEq, Int.reduceNe, Int.reduceNeg, Int.reduceToNat, Nat.reduceMul, Nat.reduceLT, Nat.reduceSub, Nat.reduceLeDiff]
    refine ⟨(p + 1, bs ++ [n + 1 + 1 + 1 + 1 + 1 + 1 + 1 + 1]), by simp only; omega, by repeat (first | exact Sub.nil | refine Sub.cons (by first | rfl | (rw [Int.natCast_add]; rfl)) ?_), by simp only; omega, (by repeat (first | exact Fresh.le (by assumption) (by omega) | refine Fresh.set ?_ (by omega) (by omega))), by omega, by simp only; omega, by simp [hbl], rfl, fun b hb => ?_, ?_⟩
    · simp only [List.mem_append, List.mem_singleton] at hb
      rcases hb with hb | rfl
      · obtain ⟨q1, q2, q3⟩ := hbs b hb
        refine ⟨q1, by omega, ?_⟩
        rw [get_ne (by omega) (by omega), get_ne (by omega) (by omega)]; exact q3
      · refine ⟨by omega, by omega, ?_⟩
        rw [get_ne (by omega) (by omega), get_same (by omega)]
    · rw [List.nodup_append]
      refine ⟨hnd, by simp, fun a ha b hb => ?_⟩
      simp only [List.mem_singleton] at hb
      subst hb
      have := (hbs a ha).2.1
      omega
  have hlt' : ¬ (p : Int) < (x.ini.length : Int) := by omega
  have e : p = x.ini.length := by omega
  have hM : MatM h n 64 75 bs x.tr.length (fun p t => if t < 0 then chg x p t else 0) := by
    refine MatM.congr (f := fun _ _ => 0) ⟨?_, fun q b hb => (hbs b (List.mem_of_getElem? hb)).2.2, hnd, fun b hb => ?_, by omega, by omega⟩ (fun q t _ _ => by simp)
    · rw [h75, e]; simp
    · have := hbs b hb; exact ⟨by omega, by omega, by omega⟩
  have hbl' : bs.length = x.ini.length := by omega
  simp (config := { maxSteps := 1000000 }) (disch := omega) only [hlt', h64, wordsN, Int.reduceGT, words, Nat.reduceAdd, Nat.reduceEqDiff, Nat.reduceBEq, ↓reduceIte, reduceCtorEq, SX.exit.injEq, if_true, if_false, Int.reduceAdd, Int.reduceSub, Int.reduceMul, Int.reduceLT, Int.reduceLE, Int.reduceEq, Int.reduceNe, Int.reduceNeg, Int.reduceToNat, Nat.reduceMul, Nat.reduceLT, Nat.reduceSub, Nat.reduceLeDiff]
  refine wS_loop (fun i : Nat => [(5, .sl 75 0 0 x.ini.length 1), (36, tns x.tr), (37, .int .i64 x.tr.length), (38, .int .i64 i)])
    (fun i h n => i ≤ x.tr.length ∧ MatM h n 64 75 bs x.tr.length (fun p t => if t < i then chg x p t else 0) ∧ Fresh n h ∧ 75 < n ∧ n ≤ 10000 + i * 1000000) (fun i => x.tr.length - i) 0 (by repeat (first | exact Sub.nil | refine Sub.cons (by first | rfl | (rw [Int.natCast_add]; rfl)) ?_)) ⟨Nat.zero_le _, hM.keep (by omega) (fun _ _ _ => rfl), hf.le (by omega), by omega, by omega⟩ ?_
  clear hM hf hf0 hn0 hn h75 hbs hlt' h64 hlt hi
  rintro i h n ⟨hi, hM, hf, hn0, hn⟩
  have hf0 : ∀ b, n ≤ b → h.get b = none := hf
  by_cases hlt : i < x.tr.length
  · obtain ⟨t, htt⟩ := get_ex hlt
    have hlt' : (i : Int) < (x.tr.length : Int) := by omega
    have hd := drop_tns htt
    have hm := List.mem_of_getElem? htt
    have hin := ho.inn t hm
    have hout := ho.out t hm
    have hbn : ∀ b ∈ bs, b < n := fun b hb => (hM.bnd b hb).2.1
    have hil := hin.len
    simp (config := { maxSteps := 1000000 }) (disch := omega) only [hlt', hd, hf0, wordsN, Int.reduceGT, words, Nat.reduceAdd, Nat.reduceEqDiff, Nat.reduceBEq, ↓reduceIte, reduceCtorEq, SX.exit.injEq, if_true, if_false, Int.reduceAdd, Int.reduceSub, Int.reduceMul, Int.reduceLT, Int.reduceLE, Int.reduceEq, Int.reduceNe, Int.reduceNeg, Int.reduceToNat, Nat.reduceMul, Nat.reduceLT, Nat.reduceSub, Nat.reduceLeDiff]
    refine wS_loop (fun j : Nat => [(5, .sl 75 0 0 x.ini.length 1), (36, tns x.tr), (37, .int .i64 x.tr.length), (38, .int .i64 i), (7, .int .i64 i), (8, .ptr (n + 1 + 1 + 1 + 1) 0 0), (44, arcs t.inn), (45, .int .i64 t.inn.length), (46, .int .i64 j)])
      (fun j h2 n2 => j ≤ t.inn.length ∧ h2.get (n + 1 + 1 + 1 + 1) = some (.cells 0 [.int .i64 t.ev, arcs t.inn, arcs t.out]) ∧ MatM h2 n2 64 75 bs x.tr.length (fun p tt => if tt < i then chg x p tt else if tt = i then -(sumW (t.inn.take j) p) else 0) ∧ Fresh n2 h2 ∧ n + 5 ≤ n2 ∧ n2 ≤ n + 100 + j * 100)
      (fun j => t.inn.length - j) 0 (by repeat (first | exact Sub.nil | refine Sub.cons (by first | rfl | (rw [Int.natCast_add]; rfl)) ?_)) ⟨Nat.zero_le _, get_same (by omega), (hM.keep (by omega) (fun b _ hb => by rw [get_ne (by omega) (by omega), get_ne (by omega) (by omega)])).congr (fun p tt _ _ => by simp [sumW]), (by repeat (first | exact Fresh.le (by assumption) (by omega) | refine Fresh.set ?_ (by omega) (by omega))), by omega, by omega⟩ ?_
    rintro j h2 n2 ⟨hj, hk1, hM2, hf2, hn2, hnb2⟩
    have hf20 : ∀ b, n2 ≤ b → h2.get b = none := hf2
    by_cases hjl : j < t.inn.length
    · obtain ⟨a, ha⟩ := get_ex hjl
      have hjl' : (j : Int) < (t.inn.length : Int) := by omega
      have hda := drop_arcs ha
      obtain ⟨q1, q2, q3, q4⟩ := hin.each j a ha
      obtain ⟨P, hP⟩ : ∃ P : Nat, a.1 = (P : Int) := ⟨a.1.toNat, by omega⟩
      have hPl : P < x.ini.length := by omega
      have hPl' : (P : Int) < (x.ini.length : Int) := by omega
      obtain ⟨b, hb⟩ := get_ex (l := bs) (i := P) (by omega)
      have hbb := hM2.bnd b (List.mem_of_getElem? hb)
      have hrow := hM2.row P b hb
      have hcell : (ints ((List.range x.tr.length).map fun tt => if tt < i then chg x P tt else if tt = i then -(sumW (t.inn.take j) P) else 0))[i]? = some (.int .i64 (-(sumW (t.inn.take j) P))) := by
        simp [ints, List.getElem?_range hlt]
      have hbs2 : (bs.map fun b => AV.sl b 0 0 x.tr.length 1)[P]? = some (.sl b 0 0 x.tr.length 1) := by simp [hb]
      have hout75 := hM2.out
      have hlen1 : i + 1 ≤ (ints ((List.range x.tr.length).map fun tt => if tt < i then chg x P tt else if tt = i then -(sumW (t.inn.take j) P) else 0)).length := by simp [ints]; omega
      have hsb := sumW_bound (l := t.inn.take j) (p := P) (fun z hz => by
        obtain ⟨jz, hz1, _⟩ := mem_at (List.mem_of_mem_take hz)
        have := hin.each jz z hz1; omega)
      have hsl : (t.inn.take j).length ≤ 1000 := by simp; omega
      have hbn' := hbn b (List.mem_of_getElem? hb)
      simp (config := { maxSteps := 1000000 }) (disch := omega) only [hjl', hda, hf20, hP, hPl', hbs2, hout75, hrow, hcell, hlt', hlen1, wordsN, Int.reduceGT, words, Nat.reduceAdd, Nat.reduceEqDiff, Nat.reduceBEq, ↓reduceIte, reduceCtorEq, SX.exit.injEq, if_true, if_false, Int.reduceAdd, Int.reduceSub, Int.reduceMul, Int.reduceLT, Int.reduceLE, Int.reduceEq, Int.reduceNe, Int.reduceNeg, Int.reduceToNat, Nat.reduceMul, Nat.reduceLT, Nat.reduceSub, Nat.reduceLeDiff]
      refine ⟨j + 1, by omega, by repeat (first | exact Sub.nil | refine Sub.cons (by first | rfl | (rw [Int.natCast_add]; rfl)) ?_), by omega, hk1, ?_, (by repeat (first | exact Fresh.le (by assumption) (by omega) | refine Fresh.set ?_ (by omega) (by omega))), by omega, by omega⟩
      refine ((hM2.keep (by omega) (fun b _ hb => by rw [get_ne (by omega) (by omega), get_ne (by omega) (by omega)])).upd hb hlt (by omega) _).congr fun p' t' _ _ => ?_
      rw [sumW_take ha, hP]
      by_cases c1 : t' < i
      · have : ¬ t' = i := by omega
        simp [c1, this]
      · by_cases c2 : t' = i
        · by_cases c3 : p' = P
          · subst c3; subst c2; simp; omega
          · have : ¬ (P : Int) = (p' : Int) := by omega
            simp [c1, c2, c3, this]
        · simp [c1, c2]
    · have hjl' : ¬ (j : Int) < (t.inn.length : Int) := by omega
      have hjt : t.inn.take j = t.inn := List.take_of_length_le (by omega)
      rw [hjt] at hM2
      have hol := hout.len
      have hsb0 : ∀ p : Int, 0 ≤ sumW t.inn p ∧ sumW t.inn p ≤ 8 * t.inn.length := fun p => sumW_bound fun z hz => by
        obtain ⟨jz, hz1, _⟩ := mem_at hz
        have := hin.each jz z hz1; omega
      simp (config := { maxSteps := 1000000 }) (disch := omega) only [hjl', hk1, wordsN, Int.reduceGT, words, Nat.reduceAdd, Nat.reduceEqDiff, Nat.reduceBEq, ↓reduceIte, reduceCtorEq, SX.exit.injEq, if_true, if_false, Int.reduceAdd, Int.reduceSub, Int.reduceMul, Int.reduceLT, Int.reduceLE, Int.reduceEq, Int.reduceNe, Int.reduceNeg, Int.reduceToNat, Nat.reduceMul, Nat.reduceLT, Nat.reduceSub, Nat.reduceLeDiff]
      refine wS_loop (fun j : Nat => [(5, .sl 75 0 0 x.ini.length 1), (36, tns x.tr), (37, .int .i64 x.tr.length), (38, .int .i64 i), (7, .int .i64 i), (64, arcs t.out), (65, .int .i64 t.out.length), (66, .int .i64 j)])
        (fun j h3 n3 => j ≤ t.out.length ∧ MatM h3 n3 64 75 bs x.tr.length (fun p tt => if tt < i then chg x p tt else if tt = i then -(sumW t.inn p) + sumW (t.out.take j) p else 0) ∧ Fresh n3 h3 ∧ n2 ≤ n3 ∧ n3 ≤ n2 + 100 + j * 100)
        (fun j => t.out.length - j) 0 (by repeat (first | exact Sub.nil | refine Sub.cons (by first | rfl | (rw [Int.natCast_add]; rfl)) ?_)) ⟨Nat.zero_le _, (hM2.keep (by omega) (fun b _ hb => rfl)).congr (fun p tt _ _ => by simp [sumW]), hf2.le (by omega), by omega, by omega⟩ ?_
      rintro j3 h3 n3 ⟨hj3, hM3, hf3, hn3, hnb3⟩
      have hf30 : ∀ b, n3 ≤ b → h3.get b = none := hf3
      by_cases hjl3 : j3 < t.out.length
      · obtain ⟨a, ha⟩ := get_ex hjl3
        have hjl3' : (j3 : Int) < (t.out.length : Int) := by omega
        have hda := drop_arcs ha
        obtain ⟨q1, q2, q3, q4⟩ := hout.each j3 a ha
        obtain ⟨P, hP⟩ : ∃ P : Nat, a.1 = (P : Int) := ⟨a.1.toNat, by omega⟩
        have hPl : P < x.ini.length := by omega
        have hPl' : (P : Int) < (x.ini.length : Int) := by omega
        obtain ⟨b, hb⟩ := get_ex (l := bs) (i := P) (by omega)
        have hbb := hM3.bnd b (List.mem_of_getElem? hb)
        have hrow := hM3.row P b hb
        have hcell : (ints ((List.range x.tr.length).map fun tt => if tt < i then chg x P tt else if tt = i then -(sumW t.inn P) + sumW (t.out.take j3) P else 0))[i]? = some (.int .i64 (-(sumW t.inn P) + sumW (t.out.take j3) P)) := by
          simp [ints, List.getElem?_range hlt]
        have hbs2 : (bs.map fun b => AV.sl b 0 0 x.tr.length 1)[P]? = some (.sl b 0 0 x.tr.length 1) := by simp [hb]
        have hout75 := hM3.out
        have hlen1 : i + 1 ≤ (ints ((List.range x.tr.length).map fun tt => if tt < i then chg x P tt else if tt = i then -(sumW t.inn P) + sumW (t.out.take j3) P else 0)).length := by simp [ints]; omega
        have hsb := sumW_bound (l := t.out.take j3) (p := P) (fun z hz => by
          obtain ⟨jz, hz1, _⟩ := mem_at (List.mem_of_mem_take hz)
          have := hout.each jz z hz1; omega)
        have hsl : (t.out.take j3).length ≤ 1000 := by simp; omega
        have hs0 := hsb0 P
        have hbn' := hbn b (List.mem_of_getElem? hb)
        simp (config := { maxSteps := 1000000 }) (disch := omega) only [hjl3', hda, hf30, hP, hPl', hbs2, hout75, hrow, hcell, hlt', hlen1, wordsN, Int.reduceGT, words, Nat.reduceAdd, Nat.reduceEqDiff, Nat.reduceBEq, ↓reduceIte, reduceCtorEq, SX.exit.injEq, if_true, if_false, Int.reduceAdd, Int.reduceSub, Int.reduceMul, Int.reduceLT, Int.reduceLE, Int.reduceEq, Int.reduceNe, Int.reduceNeg, Int.reduceToNat, Nat.reduceMul, Nat.reduceLT, Nat.reduceSub, Nat.reduceLeDiff]
        refine ⟨j3 + 1, by omega, by repeat (first | exact Sub.nil | refine Sub.cons (by first | rfl | (rw [Int.natCast_add]; rfl)) ?_), by omega, ?_, (by repeat (first | exact Fresh.le (by assumption) (by omega) | refine Fresh.set ?_ (by omega) (by omega))), by omega, by omega⟩
        refine ((hM3.keep (by omega) (fun b _ hb => by rw [get_ne (by omega) (by omega), get_ne (by omega) (by omega)])).upd hb hlt (by omega) _).congr fun p' t' _ _ => ?_
        rw [sumW_take ha, hP]
        by_cases c1 : t' < i
        · have : ¬ t' = i := by omega
          simp [c1, this]
        · by_cases c2 : t' = i
          · by_cases c3 : p' = P
            · subst c3; subst c2; simp; omega
            · have : ¬ (P : Int) = (p' : Int) := by omega
              simp [c1, c2, c3, this]
          · simp [c1, c2]
      · have hjl3' : ¬ (j3 : Int) < (t.out.length : Int) := by omega
        have hjt3 : t.out.take j3 = t.out := List.take_of_length_le (by omega)
        rw [hjt3] at hM3
        simp (config := { maxSteps := 1000000 }) (disch := omega) only [hjl3', wordsN, Int.reduceGT, words, Nat.reduceAdd, Nat.reduceEqDiff, Nat.reduceBEq, ↓reduceIte, reduceCtorEq, SX.exit.injEq, if_true, if_false, Int.reduceAdd, Int.reduceSub, Int.reduceMul, Int.reduceLT, Int.reduceLE, Int.reduceEq, Int.reduceNe, Int.reduceNeg, Int.reduceToNat, Nat.reduceMul, Nat.reduceLT, Nat.reduceSub, Nat.reduceLeDiff]
        refine ⟨i + 1, by omega, by repeat (first | exact Sub.nil | refine Sub.cons (by first | rfl | (rw [Int.natCast_add]; rfl)) ?_), by omega, (hM3.keep (by omega) (fun b _ hb => rfl)).congr (fun p' t' _ _ => ?_), hf3.le (by omega), by omega, by omega⟩
        by_cases c1 : t' < i
        · have : t' < i + 1 := by omega
          simp [c1, this]
        · by_cases c2 : t' = i
          · subst c2
            simp [chg, htt]; omega
          · have : ¬ t' < i + 1 := by omega
            simp [c1, c2, this]
  · have hlt' : ¬ (i : Int) < (x.tr.length : Int) := by omega
    have e2 : i = x.tr.length := by omega
    simp (config := { maxSteps := 1000000 }) (disch := omega) only [hlt', wordsN, Int.reduceGT, words, Nat.reduceAdd, Nat.reduceEqDiff, Nat.reduceBEq, ↓reduceIte, reduceCtorEq, SX.exit.injEq, if_true, if_false, Int.reduceAdd, Int.reduceSub, Int.reduceMul, Int.reduceLT, Int.reduceLE, Int.reduceEq, Int.reduceNe, Int.reduceNeg, Int.reduceToNat, Nat.reduceMul, Nat.reduceLT, Nat.reduceSub, Nat.reduceLeDiff]
    refine ⟨by simp, _, rfl, ?_⟩
    have hF : FrzTo h (.sl 75 0 0 x.ini.length 1) (lsts (incM x)) := by
      have hl2 : (incM x).length = x.ini.length := by simp [incM]
      rw [lsts, hl2]
      refine FrzTo.sl hM.out (by simp [hbl']) ?_
      rw [List.drop_zero, List.take_of_length_le (by simp [hbl'])]
      refine FrzL.of_get (by simp [hbl', hl2]) fun q u v h1 h2 => ?_
      have hq : q < bs.length := by
        have := (List.getElem?_eq_some_iff.1 h1).1
        simpa using this
      obtain ⟨b, hb⟩ := get_ex hq
      have hr := hM.row q b hb
      have e3 : (List.range x.tr.length).map (fun t => if t < i then chg x q t else 0) = incR x q := by
        rw [incR_chg ho]
        refine List.map_congr_left fun t ht => ?_
        have : t < i := by rw [e2]; simpa using ht
        simp [this]
      rw [e3] at hr
      have e4 : u = .sl b 0 0 x.tr.length 1 := by
        simp only [List.getElem?_map, hb, Option.map_some, Option.some.injEq] at h1; exact h1.symm
      have e5 : v = sli (incR x q) := by
        simp only [List.getElem?_map, incM_get (x := x) (p := q) (by omega), Option.map_some, Option.some.injEq] at h2; exact h2.symm
      rw [e4, e5]
      have hlen := incR_len x q
      rw [sli, hlen]
      refine FrzTo.sl hr (by simp [ints, hlen]) ?_
      rw [List.drop_zero, List.take_of_length_le (by simp [ints, hlen])]
      exact FrzL.same _
    simp only [resOf, lk_cons]
    exact FrzTo.tup ⟨hF, FrzTo.same _, trivial⟩
end Go.AM.SN
