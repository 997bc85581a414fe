/- A part of the proof of InvariantRefuses: lemmas on the way (AmTb, AmMh, AmMj, AmMk, AmMl, AmMm, AmPa, AmPi, AmPb, AmPx, AmPd, AmLx, AmTc, AmTd, AmTe, AmLa, AmPw, AmNq). Conditions: none of ours. -/
import Derived.Test.YteaeobmbfhaklaaProg
import Derived.KernelRfl
import Derived.Test.YteaeobmbfhaklaaAmZ8
set_option linter.unusedSimpArgs false
set_option linter.unusedVariables false
namespace Go.AM
variable {P : Program}
section
variable {N : NM} {n : Nat} {d : Option Nat} {af dead : List Nat} {r : List SOper} {T : Tmps} {h : Heap} {Q : QC} {fs : List Fr}
theorem aMakeMap_new (hl : n < 1099511627775) : wM P N (aMakeMap .dyn n) d r dead fs n T h Q = if h.get n = none then wR P N r dead fs (n + 1) (putD T d (.map n 0)) (h.set n (.map 0 [])) Q else False := by
  have hl' : Nat.blt n lim = true := by simp [Nat.blt]; unfold lim; omega
  apply propext; constructor
  · rintro ⟨v', h1, hm, hk⟩
    unfold aMakeMap HM.new at hm
    simp only [HM.run] at hm
    cases hn : h.get n with
    | none =>
      rw [hn] at hm
      obtain ⟨hl, hm⟩ := run_put hm
      simp only [HM.run, Option.some.injEq, Prod.mk.injEq] at hm
      obtain ⟨rfl, rfl⟩ := hm
      rw [if_pos rfl]; exact hk
    | some z => rw [hn] at hm; cases hm
  · split
    · rename_i hn
      intro hk
      refine ⟨_, _, ?_, hk⟩
      unfold aMakeMap HM.new
      simp only [HM.run, hn]
      rw [hl']; rfl
    · exact fun h => h.elim
def keyM (k : IntKind) (v : AV) (l : List Nat) : List (AV × AV) := l.map fun x : Nat => (.int k (x : Int), v)
theorem keyM_get {k : IntKind} {v : AV} {l : List Nat} {i : Nat} {a b : AV} (hi : (keyM k v l)[i]? = some (a, b)) : ∃ x : Nat, l[i]? = some x ∧ a = .int k (x : Int) ∧ b = v := by
  simp only [keyM, List.getElem?_map] at hi
  cases hx : l[i]? with
  | none => rw [hx] at hi; cases hi
  | some x => rw [hx] at hi; cases hi; exact ⟨x, rfl, rfl, rfl⟩
theorem aFind_keyM {k : IntKind} {v : AV} {x : Nat} : ∀ (l : List Nat) (i : Nat), x ∉ l → aFind false [.i] (.int k (x : Int)) (keyM k v l) i = some none
  | [], _, _ => rfl
  | y :: l, i, hx => by
    simp only [List.mem_cons, not_or] at hx
    show (match keyEq false [.i] (.int k (x : Int)) (.int k (y : Int)) with | some true => _ | some false => _ | none => _) = _
    have : keyEq false [.i] (.int k (x : Int)) (.int k (y : Int)) = some false := by
      have : ¬ (x : Int) = y := by omega
      simp [keyEq, eqCells, eqCell, this]
    rw [this]
    exact aFind_keyM l (i + 1) hx.2
theorem RnM.keyM {m : Nat} {π : Nat → Option Src} {h : Heap} {k : IntKind} {v : AV} (hv : noRef v = true) : ∀ {l : List Nat}, RnM m π h (keyM k v l) (keyM k v l)
  | [] => trivial
  | x :: l => ⟨⟨Rn.same rfl, Rn.same hv⟩, RnM.keyM hv (l := l)⟩
def wU (P : Program) (N : NM) (o : Option Blk) (b g : Nat) (k v : AV) (d : Option Nat) (ops : List SOper) (dead : List Nat) (fs : List Fr) (n : Nat) (T : Tmps) (h : Heap) (Q : QC) : Prop :=
  ∃ es, o = some (.map g es) ∧ aFind false [.i] k es 0 = some none ∧ b < lim ∧ wR P N ops dead fs (n + 1) (putD T d .any) (h.set b (.map g (es ++ [(k, v)]))) Q
theorem aMapUpd_new {k : IntKind} {x : Int} {b g : Nat} {v : AV} (hu : wU P N (h.get b) b g (.int k x) v d r dead fs n T h Q) : wM P N (aMapUpd false [.i] (.map b g) (.int k x) v) d r dead fs n T h Q := by
  obtain ⟨es, hb, hf, hl, hk⟩ := hu
  refine ⟨_, _, ?_, hk⟩
  have hok : keyOK false [.i] (.int k x) = true := by simp [keyOK, keyEq, eqCells, eqCell]
  have hl' : Nat.blt b lim = true := by simp [Nat.blt]; exact hl
  have hg : Nat.beq g g = true := by simp
  unfold aMapUpd
  rw [if_pos hok]
  simp only [HM.entries, HM.run, hb, hg, cond_true, hf, hl']
theorem wU_ins {k : IntKind} {x : Nat} {l : List Nat} {b g : Nat} {u : AV} (hx : x ∉ l) (hl : b < 1099511627775) (hk : wR P N r dead fs (n + 1) (putD T d .any) (h.set b (.map g (keyM k u (l ++ [x])))) Q) :
    wU P N (some (.map g (keyM k u l))) b g (.int k (x : Int)) u d r dead fs n T h Q :=
by
  have e : keyM k u l ++ [(.int k (x : Int), u)] = keyM k u (l ++ [x]) := by simp [keyM]
  have hl' : b < lim := hl
  rw [← e] at hk
  exact ⟨_, rfl, aFind_keyM l 0 hx, hl', hk⟩
end
def wZ (P : Program) (N : NM) (o : Option (List AV)) (k len sz : Nat) (d : Option Nat) (ops : List SOper) (dead : List Nat) (fs : List Fr) (n : Nat) (T : Tmps) (h : Heap) (Q : QC) : Prop :=
  ∃ cs, o = some cs ∧ cs.length = k ∧ cs.all AV.one = true ∧ wR P N ops dead fs (n + 1) (putD T d (.fsl cs len sz)) h Q
theorem wZ_some {N : NM} {n : Nat} {d : Option Nat} {dead : List Nat} {r : List SOper} {T : Tmps} {h : Heap} {Q : QC} {fs : List Fr} {cs : List AV} {k len sz : Nat} :
    wZ P N (some cs) k len sz d r dead fs n T h Q = if cs.length = k then (if cs.all AV.one = true then wR P N r dead fs (n + 1) (putD T d (.fsl cs len sz)) h Q else False) else False := by
  by_cases h1 : cs.length = k <;> by_cases h2 : cs.all AV.one = true <;> simp only [wZ, h1, h2, if_true, if_false, Option.some.injEq, exists_eq_left', true_and, false_and] <;> simp [h1, h2]
theorem aBuildSlice_frz {N : NM} {n : Nat} {d : Option Nat} {dead : List Nat} {r : List SOper} {T : Tmps} {h : Heap} {Q : QC} {fs : List Fr} {s : Site} {sz len : Nat} {z : List AV} {ps : List (Nat × Nat × AV)} :
    wM P N (aBuildSlice true s n sz len z ps) d r dead fs n T h Q = wZ P N (fillA z ps) (len * sz) len sz d r dead fs n T h Q := by
  unfold aBuildSlice
  cases fillA z ps with
  | none => simp [wM_fail, wZ]
  | some cs =>
    simp only [wZ_some, if_true]
    split
    · split
      · exact wM_ret
      · exact wM_fail
    · exact wM_fail
theorem wordsM : AV.nilmap.boxable = true ∧ AV.nilmap.cells = [.nilmap] ∧ (∀ b g, (AV.map b g).cells = [.map b g]) ∧ (∀ b g, (AV.map b g).one = true) ∧ (∀ b g, (AV.map b g).boxable = true) ∧ AV.nilmap.one = true :=
  ⟨rfl, rfl, fun _ _ => rfl, fun _ _ => rfl, fun _ _ => rfl, rfl⟩
theorem or16 {x y : Nat} (hx : x < 65536) (hy : y < 65536) : aBin .or (.int .u16 (x : Int)) (.int .u16 (y : Int)) = some (.int .u16 ((x ||| y : Nat) : Int)) := by
  have h1 : (BitVec.ofInt 16 (x : Int) ||| BitVec.ofInt 16 (y : Int)).toNat = x ||| y := by
    have e1 : BitVec.ofInt 16 (x : Int) = BitVec.ofNat 16 x := by simp
    have e2 : BitVec.ofInt 16 (y : Int) = BitVec.ofNat 16 y := by simp
    rw [e1, e2, BitVec.toNat_or, BitVec.toNat_ofNat, BitVec.toNat_ofNat, Nat.mod_eq_of_lt (by omega), Nat.mod_eq_of_lt (by omega)]
  have h2 : x ||| y < 2 ^ 16 := Nat.or_lt_two_pow (by omega) (by omega)
  have e2 : aBin .or (.int .u16 (x : Int)) (.int .u16 (y : Int)) = some (.int .u16 (wr .u16 ((BitVec.ofInt 16 (x : Int) ||| BitVec.ofInt 16 (y : Int)).toNat : Int))) := rfl
  rw [e2, h1, wr_u16 (by omega) (by omega)]
theorem and16 {x y : Nat} (hx : x < 65536) (hy : y < 65536) : aBin .and (.int .u16 (x : Int)) (.int .u16 (y : Int)) = some (.int .u16 ((x &&& y : Nat) : Int)) := by
  have h1 : (BitVec.ofInt 16 (x : Int) &&& BitVec.ofInt 16 (y : Int)).toNat = x &&& y := by
    have e1 : BitVec.ofInt 16 (x : Int) = BitVec.ofNat 16 x := by simp
    have e2 : BitVec.ofInt 16 (y : Int) = BitVec.ofNat 16 y := by simp
    rw [e1, e2, BitVec.toNat_and, BitVec.toNat_ofNat, BitVec.toNat_ofNat, Nat.mod_eq_of_lt (by omega), Nat.mod_eq_of_lt (by omega)]
  have h2 : x &&& y < 2 ^ 16 := Nat.and_lt_two_pow x (by omega)
  have e2 : aBin .and (.int .u16 (x : Int)) (.int .u16 (y : Int)) = some (.int .u16 (wr .u16 ((BitVec.ofInt 16 (x : Int) &&& BitVec.ofInt 16 (y : Int)).toNat : Int))) := rfl
  rw [e2, h1, wr_u16 (by omega) (by omega)]
theorem shl16 {c : Nat} {k : IntKind} (hc : c < 16) : aBin .shl (.int .u16 1) (.int k (c : Int)) = some (.int .u16 ((1 <<< c : Nat) : Int)) := by
  have h0 : ¬ (c : Int) < 0 := by omega
  have h1 : 1 <<< c < 65536 := by
    rw [Nat.shiftLeft_eq, Nat.one_mul]
    exact Nat.lt_of_lt_of_le (Nat.pow_lt_pow_right (by decide) hc) (by decide)
  have e2 : aBin .shl (.int .u16 1) (.int k (c : Int)) = if (c : Int) < 0 then none else some (.int .u16 (wr .u16 (1 * 2 ^ (min (c : Int).toNat 16)))) := rfl
  have e3 : (1 * 2 ^ (min (c : Int).toNat 16) : Int) = ((1 <<< c : Nat) : Int) := by
    rw [Int.toNat_natCast, Nat.min_eq_left (show c ≤ 16 by omega), Nat.shiftLeft_eq]
    simp
  have h3 : wr .u16 ((1 <<< c : Nat) : Int) = ((1 <<< c : Nat) : Int) := by
    generalize 1 <<< c = z at h1
    exact wr_u16 (by omega) (by omega)
  rw [e2, if_neg h0, e3, h3]
theorem shl_lt {c : Nat} (hc : c < 16) : 1 <<< c < 65536 := by
  rw [Nat.shiftLeft_eq, Nat.one_mul]
  exact Nat.lt_of_lt_of_le (Nat.pow_lt_pow_right (by decide) hc) (by decide)
theorem HSpec.of_rec {f m : Nat} {sf : SFn} {args : List AV} {L0 L : HL} {v : AV} (n : Nat) (hok : okFn P f sf = true) (hl : Nat.ble args.length sf.n = true) (hm : (Nat.ble m 1099511627775 && L0.all fun p => Nat.blt p.1 m) = true)
    (hv : noRef v = true) (hw : wS P ⟨sf.n, m⟩ sf.body [] n (argT 0 args) (hp L0) fun e T k _ => (e = .normal ∨ e = .ret) ∧ ∃ vs, resV T k sf.res = some vs ∧ resOf vs = v ∧ Rec m [] L T k) : HSpec P f args (hp L0) v (hp L) := by
  simp only [Bool.and_eq_true, Nat.ble_eq] at hm
  refine HSpec.of_W2 hok (Nat.le_of_ble_eq_true hl) (fun b hb => ?_) ((wpC.toW hw).mono ?_)
  · have : ∀ M : HL, M.all (fun p => Nat.blt p.1 m) = true → (hp M).get b = none := by
      intro M
      induction M with
      | nil => intro _; exact get_e
      | cons q M ih =>
        obtain ⟨j, x⟩ := q
        intro hM
        simp only [List.all_cons, Bool.and_eq_true, Nat.blt, Nat.ble_eq] at hM
        rw [hp_cons, get_ne (by omega) (by omega)]; exact ih (by simpa [Nat.blt] using hM.2)
    exact this L0 hm.2
  · rintro e B ⟨n', h1, vs, h2, h3, ps, ho, hro, hb, ht⟩
    exact ⟨h1, vs, _, h2, Rec.maps ho hb, Rec.heap ho hb, Rec.dom ho hro, by rw [h3]; exact Rn.same hv⟩
end Go.AM
namespace Go.AM.SN
open Go.Proofs Go.AM.SK
set_option maxRecDepth 100000
set_option linter.unusedSimpArgs false
set_option linter.unusedVariables false
abbrev Flow := Nat × (Nat → Int)
def flowC (F : List Flow) : List AV := F.flatMap fun f => .int .u16 f.1 :: rowF 10 f.2
def supOf (set : List Nat) : Nat := set.foldl (fun a c => a ||| 1 <<< c) 0
def scat (set : List Nat) (l : List Int) : Nat → Int := (set.zip l).foldl (fun f p => fun c => if c = p.1 then p.2 else f c) fun _ => 0
def visitR (R : List (List Int)) (F : List Flow) (set : List Nat) : List Flow :=
  if (F.any fun f => decide (f.1 &&& supOf set = f.1)) = true then F else
  match kerR R set with
  | none => F
  | some l => if (l.any fun x => decide (x < 0)) = true then F else F ++ [(supOf set, scat set l)]
theorem noRefs_flowC (F : List Flow) : noRefs (flowC F) = true := by
  induction F with
  | nil => rfl
  | cons f F ih =>
    unfold flowC at ih ⊢
    rw [List.flatMap_cons, noRefs_append, ih]
    simp only [noRefs, noRef, noRefs_rowF]; rfl
theorem flowC_len (F : List Flow) : (flowC F).length = F.length * 11 := by
  induction F with
  | nil => rfl
  | cons f F ih =>
    unfold flowC at ih ⊢
    rw [List.flatMap_cons, List.length_append, ih, List.length_cons, rowF_len, List.length_cons]; omega
theorem supOf_take {set : List Nat} {i c : Nat} (h : set[i]? = some c) : supOf (set.take (i + 1)) = supOf (set.take i) ||| 1 <<< c := by
  unfold supOf
  rw [List.take_add_one, List.foldl_append, h]; rfl
theorem supOf_lt {set : List Nat} (h : ∀ c ∈ set, c < 16) : supOf set < 65536 := by
  unfold supOf
  have : ∀ (l : List Nat) (a : Nat), (∀ c ∈ l, c < 16) → a < 65536 → l.foldl (fun a c => a ||| 1 <<< c) a < 65536 := by
    intro l
    induction l with
    | nil => intro a _ ha; exact ha
    | cons c l ih =>
      intro a hl ha
      rw [List.foldl_cons]
      have := shl_lt (hl c (by simp))
      exact ih _ (fun c hc => hl c (by simp [hc])) (Nat.or_lt_two_pow (n := 16) ha this)
  exact this set 0 h (by decide)
theorem neg63 (x : Int) : PSpec Try.prog 63 [.int .i64 x] (.bool (decide (x < 0))) := by
  refine PSpec.of_flat 64 SK.ok63 rfl rfl rfl ?_
  simp (maxSteps := 1000000) (disch := first | omega | (simp only [lenW] <;> omega)) only [SK.s63, wordsN, Int.reduceGT, wordsR, ne_eq, words, Nat.reduceAdd, Nat.reduceEqDiff, Nat.reduceBEq, ↓reduceIte, reduceCtorEq, SX.exit.injEq, if_true, if_false, Int.reduceAdd, Int.reduceSub, Int.reduceMul, Int.reduceLT, Int.reduceLE, Int.reduceEq, Int.reduceNe, Int.reduceNeg, Int.reduceToNat, Nat.reduceMul, Nat.reduceLT, Nat.reduceSub, Nat.reduceLeDiff]
  exact ⟨.inr trivial, _, rfl, rfl⟩
theorem index75 (l : List Int) (hl : l.length ≤ 1000) : PSpec Try.prog 75 [sli l, .fn 63 [] []] (.int .i64 (firstAt (fun x => decide (x < 0)) l)) := by
  refine PSpec.of_flat 64 SK.ok75 rfl (by simp [noRefs, noRef, noRefs_ints]) rfl ?_
  simp (maxSteps := 1000000) (disch := first | omega | (simp only [lenW] <;> omega)) only [SK.s75, wordsN, Int.reduceGT, wordsR, ne_eq, words, Nat.reduceAdd, Nat.reduceEqDiff, Nat.reduceBEq, ↓reduceIte, reduceCtorEq, SX.exit.injEq, if_true, if_false, Int.reduceAdd, Int.reduceSub, Int.reduceMul, Int.reduceLT, Int.reduceLE, Int.reduceEq, Int.reduceNe, Int.reduceNeg, Int.reduceToNat, Nat.reduceMul, Nat.reduceLT, Nat.reduceSub, Nat.reduceLeDiff]
  refine wS_loopR 100 (fun i : Nat => [(0, sli l), (1, .fn 63 [] []), (7, .int .i64 l.length), (8, .int .i64 i)]) (fun _ => []) (fun i => i ≤ l.length ∧ ∀ j y, j < i → l[j]? = some y → (decide (y < 0)) = false) (fun i => l.length - i) 0 ⟨[], rfl, (by repeat (first | exact RO.zero | exact RO.e | refine RO.set rfl ?_)), (by repeat' (first | exact RB.nil | (refine RnL.same ?_; first | rfl | (simp only [noRef, noRefs, noRefs_append, Bool.and_self, Bool.and_true, Bool.true_and, noRefs_flat10, noRefs_ints, noRefs_lsts, noRefs_pad, noRefs_tnC, noRefs_arcC, noRefs_rowF, noRefs_flowC]; done)) | exact RnM.keyM rfl | exact RnL.nil | refine RnL.cons ?_ ?_ | (refine Rn.same ?_; first | rfl | (simp only [noRef, noRefs, noRefs_append, Bool.and_self, Bool.and_true, Bool.true_and, noRefs_flat10, noRefs_ints, noRefs_lsts, noRefs_pad, noRefs_tnC, noRefs_arcC, noRefs_rowF, noRefs_flowC]; done)) | exact Rn.x1 rfl rfl | exact Rn.x2 rfl rfl | exact Rn.x3 rfl rfl | exact Rn.x4 rfl rfl | exact Rn.x5 rfl | exact Rn.x6 rfl | exact Rn.x7 rfl | refine RB.newnil rfl rfl ?_ | refine RB.cells rfl rfl rfl ?_ ?_ | refine RB.map rfl rfl rfl ?_ ?_ | refine RB.cellsB rfl rfl ?_ ?_ | refine RB.mapB rfl rfl ?_ ?_)), (by repeat (first | exact RT.nil | (refine RT.cons ?_ ?_; · (first | exact Rn.any | exact Rn.x1 rfl rfl | exact Rn.x2 rfl rfl | exact Rn.x3 rfl rfl | exact Rn.x4 rfl rfl | exact Rn.x5 rfl | exact Rn.x6 rfl | exact Rn.x7 rfl | (refine Rn.slot ?_ ?_; (first | rfl | (rw [Int.natCast_add]; rfl)); (first | rfl | (simp only [noRef, noRefs, noRefs_append, Bool.and_self, Bool.and_true, Bool.true_and, noRefs_flat10, noRefs_ints, noRefs_lsts, noRefs_pad, noRefs_tnC, noRefs_arcC, noRefs_rowF, noRefs_flowC]; done))) | (refine Rn.fn ?_ ?_ <;> (repeat' (first | exact RnL.nil | refine RnL.cons ?_ ?_ | exact Rn.same rfl | exact Rn.x6 rfl | exact Rn.x2 rfl rfl | exact Rn.x5 rfl | exact Rn.x1 rfl rfl)))))))⟩ ⟨Nat.zero_le _, fun j y hj => absurd hj (Nat.not_lt_zero _)⟩ ?_
  rintro i ⟨hi, hb⟩
  by_cases hlt : i < l.length
  · obtain ⟨x, hx⟩ := get_ex hlt
    simp (maxSteps := 1000000) (disch := first | omega | (simp only [lenW] <;> omega)) only [hlt, head_ints hx, wordsN, Int.reduceGT, wordsR, ne_eq, words, Nat.reduceAdd, Nat.reduceEqDiff, Nat.reduceBEq, ↓reduceIte, reduceCtorEq, SX.exit.injEq, if_true, if_false, Int.reduceAdd, Int.reduceSub, Int.reduceMul, Int.reduceLT, Int.reduceLE, Int.reduceEq, Int.reduceNe, Int.reduceNeg, Int.reduceToNat, Nat.reduceMul, Nat.reduceLT, Nat.reduceSub, Nat.reduceLeDiff]
    refine cp (neg63 x) ?_
    cases hp : decide (x < 0) with
    | true =>
      simp (maxSteps := 1000000) (disch := first | omega | (simp only [lenW] <;> omega)) only [wordsN, Int.reduceGT, wordsR, ne_eq, words, Nat.reduceAdd, Nat.reduceEqDiff, Nat.reduceBEq, ↓reduceIte, reduceCtorEq, SX.exit.injEq, if_true, if_false, Int.reduceAdd, Int.reduceSub, Int.reduceMul, Int.reduceLT, Int.reduceLE, Int.reduceEq, Int.reduceNe, Int.reduceNeg, Int.reduceToNat, Nat.reduceMul, Nat.reduceLT, Nat.reduceSub, Nat.reduceLeDiff]
      exact ⟨.inr trivial, _, rfl, by rw [firstAt_found (p := fun x => decide (x < 0)) hx hp hb]; rfl⟩
    | false =>
      simp (maxSteps := 1000000) (disch := first | omega | (simp only [lenW] <;> omega)) only [wordsN, Int.reduceGT, wordsR, ne_eq, words, Nat.reduceAdd, Nat.reduceEqDiff, Nat.reduceBEq, ↓reduceIte, reduceCtorEq, SX.exit.injEq, if_true, if_false, Int.reduceAdd, Int.reduceSub, Int.reduceMul, Int.reduceLT, Int.reduceLE, Int.reduceEq, Int.reduceNe, Int.reduceNeg, Int.reduceToNat, Nat.reduceMul, Nat.reduceLT, Nat.reduceSub, Nat.reduceLeDiff]
      refine ⟨i + 1, by omega, ⟨by omega, fun j y hj hy => ?_⟩, ⟨[], rfl, (by repeat (first | exact RO.zero | exact RO.e | refine RO.set rfl ?_)), (by repeat' (first | exact RB.nil | (refine RnL.same ?_; first | rfl | (simp only [noRef, noRefs, noRefs_append, Bool.and_self, Bool.and_true, Bool.true_and, noRefs_flat10, noRefs_ints, noRefs_lsts, noRefs_pad, noRefs_tnC, noRefs_arcC, noRefs_rowF, noRefs_flowC]; done)) | exact RnM.keyM rfl | exact RnL.nil | refine RnL.cons ?_ ?_ | (refine Rn.same ?_; first | rfl | (simp only [noRef, noRefs, noRefs_append, Bool.and_self, Bool.and_true, Bool.true_and, noRefs_flat10, noRefs_ints, noRefs_lsts, noRefs_pad, noRefs_tnC, noRefs_arcC, noRefs_rowF, noRefs_flowC]; done)) | exact Rn.x1 rfl rfl | exact Rn.x2 rfl rfl | exact Rn.x3 rfl rfl | exact Rn.x4 rfl rfl | exact Rn.x5 rfl | exact Rn.x6 rfl | exact Rn.x7 rfl | refine RB.newnil rfl rfl ?_ | refine RB.cells rfl rfl rfl ?_ ?_ | refine RB.map rfl rfl rfl ?_ ?_ | refine RB.cellsB rfl rfl ?_ ?_ | refine RB.mapB rfl rfl ?_ ?_)), (by repeat (first | exact RT.nil | (refine RT.cons ?_ ?_; · (first | exact Rn.any | exact Rn.x1 rfl rfl | exact Rn.x2 rfl rfl | exact Rn.x3 rfl rfl | exact Rn.x4 rfl rfl | exact Rn.x5 rfl | exact Rn.x6 rfl | exact Rn.x7 rfl | (refine Rn.slot ?_ ?_; (first | rfl | (rw [Int.natCast_add]; rfl)); (first | rfl | (simp only [noRef, noRefs, noRefs_append, Bool.and_self, Bool.and_true, Bool.true_and, noRefs_flat10, noRefs_ints, noRefs_lsts, noRefs_pad, noRefs_tnC, noRefs_arcC, noRefs_rowF, noRefs_flowC]; done))) | (refine Rn.fn ?_ ?_ <;> (repeat' (first | exact RnL.nil | refine RnL.cons ?_ ?_ | exact Rn.same rfl | exact Rn.x6 rfl | exact Rn.x2 rfl rfl | exact Rn.x5 rfl | exact Rn.x1 rfl rfl)))))))⟩⟩
      by_cases e : j = i
      · subst e; rw [hx] at hy; cases hy; exact of_decide_eq_false hp
      · exact of_decide_eq_false (hb j y (by omega) hy)
  · simp (maxSteps := 1000000) (disch := first | omega | (simp only [lenW] <;> omega)) only [hlt, wordsN, Int.reduceGT, wordsR, ne_eq, words, Nat.reduceAdd, Nat.reduceEqDiff, Nat.reduceBEq, ↓reduceIte, reduceCtorEq, SX.exit.injEq, if_true, if_false, Int.reduceAdd, Int.reduceSub, Int.reduceMul, Int.reduceLT, Int.reduceLE, Int.reduceEq, Int.reduceNe, Int.reduceNeg, Int.reduceToNat, Nat.reduceMul, Nat.reduceLT, Nat.reduceSub, Nat.reduceLeDiff]
    exact ⟨.inr trivial, _, rfl, by rw [firstAt_none fun j y hy => hb j y (by have := (List.getElem?_eq_some_iff.1 hy).1; omega) hy]; rfl⟩
theorem contains62 (l : List Int) (hl : l.length ≤ 1000) : PSpec Try.prog 62 [sli l, .fn 63 [] []] (.bool (l.any fun x => decide (x < 0))) := by
  refine PSpec.of_flat 64 SK.ok62 rfl (by simp [noRefs, noRef, noRefs_ints]) rfl ?_
  simp (maxSteps := 1000000) (disch := first | omega | (simp only [lenW] <;> omega)) only [SK.s62, wordsN, Int.reduceGT, wordsR, ne_eq, words, Nat.reduceAdd, Nat.reduceEqDiff, Nat.reduceBEq, ↓reduceIte, reduceCtorEq, SX.exit.injEq, if_true, if_false, Int.reduceAdd, Int.reduceSub, Int.reduceMul, Int.reduceLT, Int.reduceLE, Int.reduceEq, Int.reduceNe, Int.reduceNeg, Int.reduceToNat, Nat.reduceMul, Nat.reduceLT, Nat.reduceSub, Nat.reduceLeDiff]
  refine cp (index75 l hl) ?_
  simp (maxSteps := 1000000) (disch := first | omega | (simp only [lenW] <;> omega)) only [firstAt_ge, wordsN, Int.reduceGT, wordsR, ne_eq, words, Nat.reduceAdd, Nat.reduceEqDiff, Nat.reduceBEq, ↓reduceIte, reduceCtorEq, SX.exit.injEq, if_true, if_false, Int.reduceAdd, Int.reduceSub, Int.reduceMul, Int.reduceLT, Int.reduceLE, Int.reduceEq, Int.reduceNe, Int.reduceNeg, Int.reduceToNat, Nat.reduceMul, Nat.reduceLT, Nat.reduceSub, Nat.reduceLeDiff]
  exact ⟨.inr trivial, _, rfl, rfl⟩
theorem ker_len {R : List (List Int)} {cols : List Nat} {l : List Int} (h : kerR R cols = some l) : l.length = cols.length := by
  unfold kerR at h
  cases hs : krun R cols cols.length with
  | none => rw [hs] at h; cases h
  | some s =>
    rw [hs] at h
    have h : kfin cols.length s = some l := h
    unfold kfin at h
    split at h
    · cases h
    · split at h
      · cases h
      · cases h; simp
def vH (K : Nat) (R : List (List Int)) (F : List Flow) (g : Nat) : HL :=
  [(20, .cells 0 [.sl 23 g 0 F.length 11]), (21, .cells 0 [.map 22 0]), (22, .map 0 (keyM .u16 (.bool true) (F.map (·.1)))), (23, .cells g (flowC F)), (24, .cells 0 [.int .i64 K, .fsl (R.flatMap pad) R.length 10])]
def vS (K : Nat) (R : List (List Int)) (F : List Flow) (g : Nat) (set : List Nat) : HL :=
  [(20, .cells 0 [.sl 23 g 0 F.length 11]), (21, .cells 0 [.map 22 0]), (22, .map 0 (keyM .u16 (.bool true) (F.map (·.1)))), (23, .cells g (flowC F)), (24, .cells 0 [.int .i64 K, .fsl (R.flatMap pad) R.length 10]), (150, .cells 0 (ints (colI set)))]
def vW (K : Nat) (R : List (List Int)) (F : List Flow) (g : Nat) (set : List Nat) (f : Nat → Int) : HL :=
  [(20, .cells 0 [.sl 23 g 0 F.length 11]), (21, .cells 0 [.map 22 0]), (22, .map 0 (keyM .u16 (.bool true) (F.map (·.1)))), (23, .cells g (flowC F)), (24, .cells 0 [.int .i64 K, .fsl (R.flatMap pad) R.length 10]), (150, .cells 0 (ints (colI set))), (210, .cells 0 (.int .u16 (supOf set : Nat) :: rowF 10 f))]
theorem scat_take {set : List Nat} {l : List Int} {i c : Nat} {x : Int} (h : set[i]? = some c) (hx : l[i]? = some x) : scat (set.take (i + 1)) (l.take (i + 1)) = fun j => if j = c then x else scat (set.take i) (l.take i) j := by
  unfold scat
  have e : ∀ n, (set.take n).zip (l.take n) = (set.zip l).take n := fun n => by rw [List.zip_eq_zipWith, List.zip_eq_zipWith, List.take_zipWith]
  have hz : (set.zip l)[i]? = some (c, x) := by rw [List.zip_eq_zipWith, List.getElem?_zipWith, h, hx]
  rw [e, e, List.take_add_one, List.foldl_append, hz]
  rfl
set_option maxHeartbeats 8000000 in
theorem visit (K : Nat) (R : List (List Int)) (F : List Flow) (g : Nat) (set : List Nat) (hK : K ≤ 10) (hR : R.length ≤ 100) (hRk : ∀ r ∈ R, r.length = K) (hc : ∀ c ∈ set, c < K) (hn : set.length ≤ 10) (hb : KBd R set)
    (hF : F.length ≤ 1000) (hFs : ∀ f ∈ F, f.1 < 65536) :
    HSpec Try.prog 60 [.sl 150 0 0 set.length 1, .ptr 21 0 0, .ptr 24 0 0, .ptr 20 0 0] (hp (vS K R F g set)) (.tup [])
      (hp (vS K R (visitR R F set) (g + ((visitR R F set).length - F.length)) set)) := by
  refine HSpec.of_rec (m := 200) 300 SM.ok60 rfl rfl rfl ?_
  generalize hL : vS K R (visitR R F set) (g + ((visitR R F set).length - F.length)) set = L1
  have hcil := colI_len set
  have hc16 : ∀ c ∈ set, c < 16 := fun c h => by have := hc c h; omega
  have hs16 : ∀ i, supOf (set.take i) < 65536 := fun i => supOf_lt fun c h => hc16 c (List.mem_of_mem_take h)
  simp (maxSteps := 1000000) (disch := first | omega | (simp only [lenW] <;> omega)) only [SM.s60, vS, wordsN, Int.reduceGT, wordsR, ne_eq, words, Nat.reduceAdd, Nat.reduceEqDiff, Nat.reduceBEq, ↓reduceIte, reduceCtorEq, SX.exit.injEq, if_true, if_false, Int.reduceAdd, Int.reduceSub, Int.reduceMul, Int.reduceLT, Int.reduceLE, Int.reduceEq, Int.reduceNe, Int.reduceNeg, Int.reduceToNat, Nat.reduceMul, Nat.reduceLT, Nat.reduceSub, Nat.reduceLeDiff]
  refine wS_loopX 400 (fun i : Nat => [(0, .sl 150 0 0 set.length 1), (1, .ptr 21 0 0), (2, .ptr 24 0 0), (3, .ptr 20 0 0), (5, .int .u16 (supOf (set.take i) : Nat)), (14, .sl 150 0 0 set.length 1), (15, .int .i64 set.length), (16, .int .i64 i)])
    (fun _ => vS K R F g set) (fun i => i ≤ set.length) (fun i => set.length - i) 0 0 500
    (fun _ : Unit => [(0, .sl 150 0 0 set.length 1), (1, .ptr 21 0 0), (2, .ptr 24 0 0), (3, .ptr 20 0 0), (5, .int .u16 (supOf set : Nat))]) (fun _ => vS K R F g set) (fun _ => True) ⟨[(20, .blk 20 0), (21, .blk 21 0), (22, .blk 22 0), (23, .blk 23 0), (24, .blk 24 0), (150, .blk 150 0)], rfl, (by repeat (first | exact RO.zero | exact RO.e | refine RO.set rfl ?_)), (by repeat' (first | exact RB.nil | (refine RnL.same ?_; first | rfl | (simp only [noRef, noRefs, noRefs_append, Bool.and_self, Bool.and_true, Bool.true_and, noRefs_flat10, noRefs_ints, noRefs_lsts, noRefs_pad, noRefs_tnC, noRefs_arcC, noRefs_rowF, noRefs_flowC]; done)) | exact RnM.keyM rfl | exact RnL.nil | refine RnL.cons ?_ ?_ | (refine Rn.same ?_; first | rfl | (simp only [noRef, noRefs, noRefs_append, Bool.and_self, Bool.and_true, Bool.true_and, noRefs_flat10, noRefs_ints, noRefs_lsts, noRefs_pad, noRefs_tnC, noRefs_arcC, noRefs_rowF, noRefs_flowC]; done)) | exact Rn.x1 rfl rfl | exact Rn.x2 rfl rfl | exact Rn.x3 rfl rfl | exact Rn.x4 rfl rfl | exact Rn.x5 rfl | exact Rn.x6 rfl | exact Rn.x7 rfl | refine RB.newnil rfl rfl ?_ | refine RB.cells rfl rfl rfl ?_ ?_ | refine RB.map rfl rfl rfl ?_ ?_ | refine RB.cellsB rfl rfl ?_ ?_ | refine RB.mapB rfl rfl ?_ ?_)), (by repeat (first | exact RT.nil | (refine RT.cons ?_ ?_; · (first | exact Rn.any | exact Rn.x1 rfl rfl | exact Rn.x2 rfl rfl | exact Rn.x3 rfl rfl | exact Rn.x4 rfl rfl | exact Rn.x5 rfl | exact Rn.x6 rfl | exact Rn.x7 rfl | (refine Rn.slot ?_ ?_; (first | rfl | (rw [Int.natCast_add]; rfl)); (first | rfl | (simp only [noRef, noRefs, noRefs_append, Bool.and_self, Bool.and_true, Bool.true_and, noRefs_flat10, noRefs_ints, noRefs_lsts, noRefs_pad, noRefs_tnC, noRefs_arcC, noRefs_rowF, noRefs_flowC]; done))) | (refine Rn.fn ?_ ?_ <;> (repeat' (first | exact RnL.nil | refine RnL.cons ?_ ?_ | exact Rn.same rfl | exact Rn.x6 rfl | exact Rn.x2 rfl rfl | exact Rn.x5 rfl | exact Rn.x1 rfl rfl)))))))⟩ (Nat.zero_le _) ?_ ?_
  · intro i hi
    by_cases hlt : i < set.length
    · obtain ⟨c, hcc⟩ := get_ex hlt
      have hcl := hc16 c (List.mem_of_getElem? hcc)
      have hgi : (ints (colI set))[i]? = some (.int .i64 c) := by simp [ints, colI_get hcc]
      simp (maxSteps := 1000000) (disch := first | omega | (simp only [lenW] <;> omega)) only [hlt, hgi, vS, shl16 hcl, or16 (hs16 i) (shl_lt hcl), wordsN, Int.reduceGT, wordsR, ne_eq, words, Nat.reduceAdd, Nat.reduceEqDiff, Nat.reduceBEq, ↓reduceIte, reduceCtorEq, SX.exit.injEq, if_true, if_false, Int.reduceAdd, Int.reduceSub, Int.reduceMul, Int.reduceLT, Int.reduceLE, Int.reduceEq, Int.reduceNe, Int.reduceNeg, Int.reduceToNat, Nat.reduceMul, Nat.reduceLT, Nat.reduceSub, Nat.reduceLeDiff]
      refine ⟨i + 1, by omega, by omega, ?_⟩
      rw [supOf_take hcc]
      exact ⟨[(20, .blk 20 0), (21, .blk 21 0), (22, .blk 22 0), (23, .blk 23 0), (24, .blk 24 0), (150, .blk 150 0)], rfl, (by repeat (first | exact RO.zero | exact RO.e | refine RO.set rfl ?_)), (by repeat' (first | exact RB.nil | (refine RnL.same ?_; first | rfl | (simp only [noRef, noRefs, noRefs_append, Bool.and_self, Bool.and_true, Bool.true_and, noRefs_flat10, noRefs_ints, noRefs_lsts, noRefs_pad, noRefs_tnC, noRefs_arcC, noRefs_rowF, noRefs_flowC]; done)) | exact RnM.keyM rfl | exact RnL.nil | refine RnL.cons ?_ ?_ | (refine Rn.same ?_; first | rfl | (simp only [noRef, noRefs, noRefs_append, Bool.and_self, Bool.and_true, Bool.true_and, noRefs_flat10, noRefs_ints, noRefs_lsts, noRefs_pad, noRefs_tnC, noRefs_arcC, noRefs_rowF, noRefs_flowC]; done)) | exact Rn.x1 rfl rfl | exact Rn.x2 rfl rfl | exact Rn.x3 rfl rfl | exact Rn.x4 rfl rfl | exact Rn.x5 rfl | exact Rn.x6 rfl | exact Rn.x7 rfl | refine RB.newnil rfl rfl ?_ | refine RB.cells rfl rfl rfl ?_ ?_ | refine RB.map rfl rfl rfl ?_ ?_ | refine RB.cellsB rfl rfl ?_ ?_ | refine RB.mapB rfl rfl ?_ ?_)), (by repeat (first | exact RT.nil | (refine RT.cons ?_ ?_; · (first | exact Rn.any | exact Rn.x1 rfl rfl | exact Rn.x2 rfl rfl | exact Rn.x3 rfl rfl | exact Rn.x4 rfl rfl | exact Rn.x5 rfl | exact Rn.x6 rfl | exact Rn.x7 rfl | (refine Rn.slot ?_ ?_; (first | rfl | (rw [Int.natCast_add]; rfl)); (first | rfl | (simp only [noRef, noRefs, noRefs_append, Bool.and_self, Bool.and_true, Bool.true_and, noRefs_flat10, noRefs_ints, noRefs_lsts, noRefs_pad, noRefs_tnC, noRefs_arcC, noRefs_rowF, noRefs_flowC]; done))) | (refine Rn.fn ?_ ?_ <;> (repeat' (first | exact RnL.nil | refine RnL.cons ?_ ?_ | exact Rn.same rfl | exact Rn.x6 rfl | exact Rn.x2 rfl rfl | exact Rn.x5 rfl | exact Rn.x1 rfl rfl)))))))⟩
    · have e : i = set.length := by omega
      subst e
      rw [List.take_length]
      simp (maxSteps := 1000000) (disch := first | omega | (simp only [lenW] <;> omega)) only [hlt, vS, wordsN, Int.reduceGT, wordsR, ne_eq, words, Nat.reduceAdd, Nat.reduceEqDiff, Nat.reduceBEq, ↓reduceIte, reduceCtorEq, SX.exit.injEq, if_true, if_false, Int.reduceAdd, Int.reduceSub, Int.reduceMul, Int.reduceLT, Int.reduceLE, Int.reduceEq, Int.reduceNe, Int.reduceNeg, Int.reduceToNat, Nat.reduceMul, Nat.reduceLT, Nat.reduceSub, Nat.reduceLeDiff]
      exact ⟨(), ⟨[(20, .blk 20 0), (21, .blk 21 0), (22, .blk 22 0), (23, .blk 23 0), (24, .blk 24 0), (150, .blk 150 0)], rfl, (by repeat (first | exact RO.zero | exact RO.e | refine RO.set rfl ?_)), (by repeat' (first | exact RB.nil | (refine RnL.same ?_; first | rfl | (simp only [noRef, noRefs, noRefs_append, Bool.and_self, Bool.and_true, Bool.true_and, noRefs_flat10, noRefs_ints, noRefs_lsts, noRefs_pad, noRefs_tnC, noRefs_arcC, noRefs_rowF, noRefs_flowC]; done)) | exact RnM.keyM rfl | exact RnL.nil | refine RnL.cons ?_ ?_ | (refine Rn.same ?_; first | rfl | (simp only [noRef, noRefs, noRefs_append, Bool.and_self, Bool.and_true, Bool.true_and, noRefs_flat10, noRefs_ints, noRefs_lsts, noRefs_pad, noRefs_tnC, noRefs_arcC, noRefs_rowF, noRefs_flowC]; done)) | exact Rn.x1 rfl rfl | exact Rn.x2 rfl rfl | exact Rn.x3 rfl rfl | exact Rn.x4 rfl rfl | exact Rn.x5 rfl | exact Rn.x6 rfl | exact Rn.x7 rfl | refine RB.newnil rfl rfl ?_ | refine RB.cells rfl rfl rfl ?_ ?_ | refine RB.map rfl rfl rfl ?_ ?_ | refine RB.cellsB rfl rfl ?_ ?_ | refine RB.mapB rfl rfl ?_ ?_)), (by repeat (first | exact RT.nil | (refine RT.cons ?_ ?_; · (first | exact Rn.any | exact Rn.x1 rfl rfl | exact Rn.x2 rfl rfl | exact Rn.x3 rfl rfl | exact Rn.x4 rfl rfl | exact Rn.x5 rfl | exact Rn.x6 rfl | exact Rn.x7 rfl | (refine Rn.slot ?_ ?_; (first | rfl | (rw [Int.natCast_add]; rfl)); (first | rfl | (simp only [noRef, noRefs, noRefs_append, Bool.and_self, Bool.and_true, Bool.true_and, noRefs_flat10, noRefs_ints, noRefs_lsts, noRefs_pad, noRefs_tnC, noRefs_arcC, noRefs_rowF, noRefs_flowC]; done))) | (refine Rn.fn ?_ ?_ <;> (repeat' (first | exact RnL.nil | refine RnL.cons ?_ ?_ | exact Rn.same rfl | exact Rn.x6 rfl | exact Rn.x2 rfl rfl | exact Rn.x5 rfl | exact Rn.x1 rfl rfl)))))))⟩⟩
  rintro _ -
  have hS := hs16 set.length
  rw [List.take_length] at hS
  simp (maxSteps := 1000000) (disch := first | omega | (simp only [lenW] <;> omega)) only [vS, wordsN, Int.reduceGT, wordsR, ne_eq, words, Nat.reduceAdd, Nat.reduceEqDiff, Nat.reduceBEq, ↓reduceIte, reduceCtorEq, SX.exit.injEq, if_true, if_false, Int.reduceAdd, Int.reduceSub, Int.reduceMul, Int.reduceLT, Int.reduceLE, Int.reduceEq, Int.reduceNe, Int.reduceNeg, Int.reduceToNat, Nat.reduceMul, Nat.reduceLT, Nat.reduceSub, Nat.reduceLeDiff]
  refine wS_msearch (b := 21) (g := 0) (off := 0) (cs := [.map 22 0]) (mb := 22) (mg := 0) (es := keyM .u16 (.bool true) (F.map (·.1))) 610 700 600 [(0, .sl 150 0 0 set.length 1), (1, .ptr 21 0 0), (2, .ptr 24 0 0), (3, .ptr 20 0 0), (5, .int .u16 (supOf set : Nat))]
    [(0, .sl 150 0 0 set.length 1), (1, .ptr 21 0 0), (2, .ptr 24 0 0), (3, .ptr 20 0 0), (5, .int .u16 (supOf set : Nat))] (vS K R F g set) (fun k _ => ∀ x : Nat, k = .int .u16 x → ¬ (x &&& supOf set = x))
    rfl rfl rfl rfl rfl (by decide) (by decide) (by repeat (first | exact Sub.nil | refine Sub.cons (by first | rfl | (rw [Int.natCast_add]; rfl)) ?_)) rfl (by decide) rfl ?_ ?_ ?_
  · intro i k v hi
    obtain ⟨x, hx, rfl, rfl⟩ := keyM_get hi
    have hxm := List.mem_of_getElem? hx
    have hx16 : x < 65536 := by
      obtain ⟨f, hf, rfl⟩ := List.mem_map.1 hxm
      exact hFs f hf
    by_cases he : x &&& supOf set = x
    · have hv : visitR R F set = F := by
        obtain ⟨f, hf, rfl⟩ := List.mem_map.1 hxm
        unfold visitR
        rw [if_pos (List.any_eq_true.2 ⟨f, hf, decide_eq_true he⟩)]
      rw [hv, Nat.sub_self] at hL
      simp (maxSteps := 1000000) (disch := first | omega | (simp only [lenW] <;> omega)) only [vS, and16 hx16 hS, msQ_normal, msQ_exit, msQ_ret, he, wordsN, Int.reduceGT, wordsR, ne_eq, words, Nat.reduceAdd, Nat.reduceEqDiff, Nat.reduceBEq, ↓reduceIte, reduceCtorEq, SX.exit.injEq, if_true, if_false, Int.reduceAdd, Int.reduceSub, Int.reduceMul, Int.reduceLT, Int.reduceLE, Int.reduceEq, Int.reduceNe, Int.reduceNeg, Int.reduceToNat, Nat.reduceMul, Nat.reduceLT, Nat.reduceSub, Nat.reduceLeDiff]
      refine ⟨.inr trivial, _, rfl, rfl, ?_⟩
      rw [← hL]
      exact ⟨[(20, .blk 20 0), (21, .blk 21 0), (22, .blk 22 0), (23, .blk 23 0), (24, .blk 24 0), (150, .blk 150 0)], rfl, (by repeat (first | exact RO.zero | exact RO.e | refine RO.set rfl ?_)), (by repeat' (first | exact RB.nil | (refine RnL.same ?_; first | rfl | (simp only [noRef, noRefs, noRefs_append, Bool.and_self, Bool.and_true, Bool.true_and, noRefs_flat10, noRefs_ints, noRefs_lsts, noRefs_pad, noRefs_tnC, noRefs_arcC, noRefs_rowF, noRefs_flowC]; done)) | exact RnM.keyM rfl | exact RnL.nil | refine RnL.cons ?_ ?_ | (refine Rn.same ?_; first | rfl | (simp only [noRef, noRefs, noRefs_append, Bool.and_self, Bool.and_true, Bool.true_and, noRefs_flat10, noRefs_ints, noRefs_lsts, noRefs_pad, noRefs_tnC, noRefs_arcC, noRefs_rowF, noRefs_flowC]; done)) | exact Rn.x1 rfl rfl | exact Rn.x2 rfl rfl | exact Rn.x3 rfl rfl | exact Rn.x4 rfl rfl | exact Rn.x5 rfl | exact Rn.x6 rfl | exact Rn.x7 rfl | refine RB.newnil rfl rfl ?_ | refine RB.cells rfl rfl rfl ?_ ?_ | refine RB.map rfl rfl rfl ?_ ?_ | refine RB.cellsB rfl rfl ?_ ?_ | refine RB.mapB rfl rfl ?_ ?_)), (by repeat (first | exact RT.nil | (refine RT.cons ?_ ?_; · (first | exact Rn.any | exact Rn.x1 rfl rfl | exact Rn.x2 rfl rfl | exact Rn.x3 rfl rfl | exact Rn.x4 rfl rfl | exact Rn.x5 rfl | exact Rn.x6 rfl | exact Rn.x7 rfl | (refine Rn.slot ?_ ?_; (first | rfl | (rw [Int.natCast_add]; rfl)); (first | rfl | (simp only [noRef, noRefs, noRefs_append, Bool.and_self, Bool.and_true, Bool.true_and, noRefs_flat10, noRefs_ints, noRefs_lsts, noRefs_pad, noRefs_tnC, noRefs_arcC, noRefs_rowF, noRefs_flowC]; done))) | (refine Rn.fn ?_ ?_ <;> (repeat' (first | exact RnL.nil | refine RnL.cons ?_ ?_ | exact Rn.same rfl | exact Rn.x6 rfl | exact Rn.x2 rfl rfl | exact Rn.x5 rfl | exact Rn.x1 rfl rfl)))))))⟩
    · simp (maxSteps := 1000000) (disch := first | omega | (simp only [lenW] <;> omega)) only [vS, and16 hx16 hS, msQ_normal, msQ_exit, msQ_ret, he, wordsN, Int.reduceGT, wordsR, ne_eq, words, Nat.reduceAdd, Nat.reduceEqDiff, Nat.reduceBEq, ↓reduceIte, reduceCtorEq, SX.exit.injEq, if_true, if_false, Int.reduceAdd, Int.reduceSub, Int.reduceMul, Int.reduceLT, Int.reduceLE, Int.reduceEq, Int.reduceNe, Int.reduceNeg, Int.reduceToNat, Nat.reduceMul, Nat.reduceLT, Nat.reduceSub, Nat.reduceLeDiff]
      refine ⟨fun y hy hy2 => ?_, by repeat (first | exact Sub.nil | refine Sub.cons (by first | rfl | (rw [Int.natCast_add]; rfl)) ?_)⟩
      injection hy with _ hy
      have : x = y := by omega
      subst this
      exact he hy2
  · exact ⟨[(20, .blk 20 0), (21, .blk 21 0), (22, .blk 22 0), (23, .blk 23 0), (24, .blk 24 0), (150, .blk 150 0)], rfl, (by repeat (first | exact RO.zero | exact RO.e | refine RO.set rfl ?_)), (by repeat' (first | exact RB.nil | (refine RnL.same ?_; first | rfl | (simp only [noRef, noRefs, noRefs_append, Bool.and_self, Bool.and_true, Bool.true_and, noRefs_flat10, noRefs_ints, noRefs_lsts, noRefs_pad, noRefs_tnC, noRefs_arcC, noRefs_rowF, noRefs_flowC]; done)) | exact RnM.keyM rfl | exact RnL.nil | refine RnL.cons ?_ ?_ | (refine Rn.same ?_; first | rfl | (simp only [noRef, noRefs, noRefs_append, Bool.and_self, Bool.and_true, Bool.true_and, noRefs_flat10, noRefs_ints, noRefs_lsts, noRefs_pad, noRefs_tnC, noRefs_arcC, noRefs_rowF, noRefs_flowC]; done)) | exact Rn.x1 rfl rfl | exact Rn.x2 rfl rfl | exact Rn.x3 rfl rfl | exact Rn.x4 rfl rfl | exact Rn.x5 rfl | exact Rn.x6 rfl | exact Rn.x7 rfl | refine RB.newnil rfl rfl ?_ | refine RB.cells rfl rfl rfl ?_ ?_ | refine RB.map rfl rfl rfl ?_ ?_ | refine RB.cellsB rfl rfl ?_ ?_ | refine RB.mapB rfl rfl ?_ ?_)), (by repeat (first | exact RT.nil | (refine RT.cons ?_ ?_; · (first | exact Rn.any | exact Rn.x1 rfl rfl | exact Rn.x2 rfl rfl | exact Rn.x3 rfl rfl | exact Rn.x4 rfl rfl | exact Rn.x5 rfl | exact Rn.x6 rfl | exact Rn.x7 rfl | (refine Rn.slot ?_ ?_; (first | rfl | (rw [Int.natCast_add]; rfl)); (first | rfl | (simp only [noRef, noRefs, noRefs_append, Bool.and_self, Bool.and_true, Bool.true_and, noRefs_flat10, noRefs_ints, noRefs_lsts, noRefs_pad, noRefs_tnC, noRefs_arcC, noRefs_rowF, noRefs_flowC]; done))) | (refine Rn.fn ?_ ?_ <;> (repeat' (first | exact RnL.nil | refine RnL.cons ?_ ?_ | exact Rn.same rfl | exact Rn.x6 rfl | exact Rn.x2 rfl rfl | exact Rn.x5 rfl | exact Rn.x1 rfl rfl)))))))⟩
  · intro hnone
    have hany : (F.any fun f => decide (f.1 &&& supOf set = f.1)) = false := by
      rw [List.any_eq_false]
      intro f hf hd
      obtain ⟨j, hj, hjl⟩ := mem_at (List.mem_map.2 ⟨f, hf, rfl⟩ : f.1 ∈ F.map (·.1))
      exact hnone j (.int .u16 (f.1 : Nat)) (.bool true) (by simp only [keyM, List.getElem?_map, hj]; rfl) f.1 rfl (of_decide_eq_true hd)
    simp (maxSteps := 1000000) (disch := first | omega | (simp only [lenW] <;> omega)) only [vS, wordsN, Int.reduceGT, wordsR, ne_eq, words, Nat.reduceAdd, Nat.reduceEqDiff, Nat.reduceBEq, ↓reduceIte, reduceCtorEq, SX.exit.injEq, if_true, if_false, Int.reduceAdd, Int.reduceSub, Int.reduceMul, Int.reduceLT, Int.reduceLE, Int.reduceEq, Int.reduceNe, Int.reduceNeg, Int.reduceToNat, Nat.reduceMul, Nat.reduceLT, Nat.reduceSub, Nat.reduceLeDiff]
    have hkf := kernelF R K set hK hR hRk hc hn hb
    rw [show sli (colI set) = .fsl (ints (colI set)) set.length 1 by rw [← hcil]] at hkf
    refine ch (HSpec.of_F (bs := [tabV K R, .fsl (ints (colI set)) set.length 1]) ?_ hkf) ?_
    · refine ⟨FrzTo.same _, FrzTo.sl (cs := ints (colI set)) rfl ?_ ?_, trivial⟩
      · simp [ints, hcil]
      · rw [List.drop_zero, List.take_of_length_le (by simp [ints, hcil])]; exact FrzL.same _
    cases hk : kerR R set with
    | none =>
      have hv : visitR R F set = F := by
        unfold visitR
        rw [hany, hk]; rfl
      rw [hv, Nat.sub_self] at hL
      unfold kerV
      simp (maxSteps := 1000000) (disch := first | omega | (simp only [lenW] <;> omega)) only [vS, wordsN, Int.reduceGT, wordsR, ne_eq, words, Nat.reduceAdd, Nat.reduceEqDiff, Nat.reduceBEq, ↓reduceIte, reduceCtorEq, SX.exit.injEq, if_true, if_false, Int.reduceAdd, Int.reduceSub, Int.reduceMul, Int.reduceLT, Int.reduceLE, Int.reduceEq, Int.reduceNe, Int.reduceNeg, Int.reduceToNat, Nat.reduceMul, Nat.reduceLT, Nat.reduceSub, Nat.reduceLeDiff]
      refine ⟨.inr trivial, _, rfl, rfl, ?_⟩
      rw [← hL]
      exact ⟨[(20, .blk 20 0), (21, .blk 21 0), (22, .blk 22 0), (23, .blk 23 0), (24, .blk 24 0), (150, .blk 150 0)], rfl, (by repeat (first | exact RO.zero | exact RO.e | refine RO.set rfl ?_)), (by repeat' (first | exact RB.nil | (refine RnL.same ?_; first | rfl | (simp only [noRef, noRefs, noRefs_append, Bool.and_self, Bool.and_true, Bool.true_and, noRefs_flat10, noRefs_ints, noRefs_lsts, noRefs_pad, noRefs_tnC, noRefs_arcC, noRefs_rowF, noRefs_flowC]; done)) | exact RnM.keyM rfl | exact RnL.nil | refine RnL.cons ?_ ?_ | (refine Rn.same ?_; first | rfl | (simp only [noRef, noRefs, noRefs_append, Bool.and_self, Bool.and_true, Bool.true_and, noRefs_flat10, noRefs_ints, noRefs_lsts, noRefs_pad, noRefs_tnC, noRefs_arcC, noRefs_rowF, noRefs_flowC]; done)) | exact Rn.x1 rfl rfl | exact Rn.x2 rfl rfl | exact Rn.x3 rfl rfl | exact Rn.x4 rfl rfl | exact Rn.x5 rfl | exact Rn.x6 rfl | exact Rn.x7 rfl | refine RB.newnil rfl rfl ?_ | refine RB.cells rfl rfl rfl ?_ ?_ | refine RB.map rfl rfl rfl ?_ ?_ | refine RB.cellsB rfl rfl ?_ ?_ | refine RB.mapB rfl rfl ?_ ?_)), (by repeat (first | exact RT.nil | (refine RT.cons ?_ ?_; · (first | exact Rn.any | exact Rn.x1 rfl rfl | exact Rn.x2 rfl rfl | exact Rn.x3 rfl rfl | exact Rn.x4 rfl rfl | exact Rn.x5 rfl | exact Rn.x6 rfl | exact Rn.x7 rfl | (refine Rn.slot ?_ ?_; (first | rfl | (rw [Int.natCast_add]; rfl)); (first | rfl | (simp only [noRef, noRefs, noRefs_append, Bool.and_self, Bool.and_true, Bool.true_and, noRefs_flat10, noRefs_ints, noRefs_lsts, noRefs_pad, noRefs_tnC, noRefs_arcC, noRefs_rowF, noRefs_flowC]; done))) | (refine Rn.fn ?_ ?_ <;> (repeat' (first | exact RnL.nil | refine RnL.cons ?_ ?_ | exact Rn.same rfl | exact Rn.x6 rfl | exact Rn.x2 rfl rfl | exact Rn.x5 rfl | exact Rn.x1 rfl rfl)))))))⟩
    | some l =>
      have hll := ker_len hk
      unfold kerV
      simp (maxSteps := 1000000) (disch := first | omega | (simp only [lenW] <;> omega)) only [vS, wordsN, Int.reduceGT, wordsR, ne_eq, words, Nat.reduceAdd, Nat.reduceEqDiff, Nat.reduceBEq, ↓reduceIte, reduceCtorEq, SX.exit.injEq, if_true, if_false, Int.reduceAdd, Int.reduceSub, Int.reduceMul, Int.reduceLT, Int.reduceLE, Int.reduceEq, Int.reduceNe, Int.reduceNeg, Int.reduceToNat, Nat.reduceMul, Nat.reduceLT, Nat.reduceSub, Nat.reduceLeDiff]
      refine call_borrow rfl (contains62 l (by omega)) rfl ?_
      cases hng : l.any fun x => decide (x < 0) with
      | true =>
        have hv : visitR R F set = F := by
          unfold visitR
          rw [hany, hk]; simp only [Bool.false_eq_true, if_false, hng, if_true]
        rw [hv, Nat.sub_self] at hL
        simp (maxSteps := 1000000) (disch := first | omega | (simp only [lenW] <;> omega)) only [vS, wordsN, Int.reduceGT, wordsR, ne_eq, words, Nat.reduceAdd, Nat.reduceEqDiff, Nat.reduceBEq, ↓reduceIte, reduceCtorEq, SX.exit.injEq, if_true, if_false, Int.reduceAdd, Int.reduceSub, Int.reduceMul, Int.reduceLT, Int.reduceLE, Int.reduceEq, Int.reduceNe, Int.reduceNeg, Int.reduceToNat, Nat.reduceMul, Nat.reduceLT, Nat.reduceSub, Nat.reduceLeDiff]
        refine ⟨.inr trivial, _, rfl, rfl, ?_⟩
        rw [← hL]
        exact ⟨[(20, .blk 20 0), (21, .blk 21 0), (22, .blk 22 0), (23, .blk 23 0), (24, .blk 24 0), (150, .blk 150 0)], rfl, (by repeat (first | exact RO.zero | exact RO.e | refine RO.set rfl ?_)), (by repeat' (first | exact RB.nil | (refine RnL.same ?_; first | rfl | (simp only [noRef, noRefs, noRefs_append, Bool.and_self, Bool.and_true, Bool.true_and, noRefs_flat10, noRefs_ints, noRefs_lsts, noRefs_pad, noRefs_tnC, noRefs_arcC, noRefs_rowF, noRefs_flowC]; done)) | exact RnM.keyM rfl | exact RnL.nil | refine RnL.cons ?_ ?_ | (refine Rn.same ?_; first | rfl | (simp only [noRef, noRefs, noRefs_append, Bool.and_self, Bool.and_true, Bool.true_and, noRefs_flat10, noRefs_ints, noRefs_lsts, noRefs_pad, noRefs_tnC, noRefs_arcC, noRefs_rowF, noRefs_flowC]; done)) | exact Rn.x1 rfl rfl | exact Rn.x2 rfl rfl | exact Rn.x3 rfl rfl | exact Rn.x4 rfl rfl | exact Rn.x5 rfl | exact Rn.x6 rfl | exact Rn.x7 rfl | refine RB.newnil rfl rfl ?_ | refine RB.cells rfl rfl rfl ?_ ?_ | refine RB.map rfl rfl rfl ?_ ?_ | refine RB.cellsB rfl rfl ?_ ?_ | refine RB.mapB rfl rfl ?_ ?_)), (by repeat (first | exact RT.nil | (refine RT.cons ?_ ?_; · (first | exact Rn.any | exact Rn.x1 rfl rfl | exact Rn.x2 rfl rfl | exact Rn.x3 rfl rfl | exact Rn.x4 rfl rfl | exact Rn.x5 rfl | exact Rn.x6 rfl | exact Rn.x7 rfl | (refine Rn.slot ?_ ?_; (first | rfl | (rw [Int.natCast_add]; rfl)); (first | rfl | (simp only [noRef, noRefs, noRefs_append, Bool.and_self, Bool.and_true, Bool.true_and, noRefs_flat10, noRefs_ints, noRefs_lsts, noRefs_pad, noRefs_tnC, noRefs_arcC, noRefs_rowF, noRefs_flowC]; done))) | (refine Rn.fn ?_ ?_ <;> (repeat' (first | exact RnL.nil | refine RnL.cons ?_ ?_ | exact Rn.same rfl | exact Rn.x6 rfl | exact Rn.x2 rfl rfl | exact Rn.x5 rfl | exact Rn.x1 rfl rfl)))))))⟩
      | false =>
        have hv : visitR R F set = F ++ [(supOf set, scat set l)] := by
          unfold visitR
          rw [hany, hk]; simp only [Bool.false_eq_true, if_false, hng]
        rw [hv, List.length_append, List.length_singleton, Nat.add_sub_cancel_left] at hL
        simp (maxSteps := 1000000) (disch := first | omega | (simp only [lenW] <;> omega)) only [vS, wordsN, Int.reduceGT, wordsR, ne_eq, words, Nat.reduceAdd, Nat.reduceEqDiff, Nat.reduceBEq, ↓reduceIte, reduceCtorEq, SX.exit.injEq, if_true, if_false, Int.reduceAdd, Int.reduceSub, Int.reduceMul, Int.reduceLT, Int.reduceLE, Int.reduceEq, Int.reduceNe, Int.reduceNeg, Int.reduceToNat, Nat.reduceMul, Nat.reduceLT, Nat.reduceSub, Nat.reduceLeDiff]
        refine wS_loopX 800 (fun i : Nat => [(1, .ptr 21 0 0), (3, .ptr 20 0 0), (5, .int .u16 (supOf set : Nat)), (9, sli l), (11, .ptr 210 0 0), (50, .sl 150 0 0 set.length 1), (51, .int .i64 set.length), (52, .int .i64 i)])
          (fun i => vW K R F g set (scat (set.take i) (l.take i))) (fun i => i ≤ set.length) (fun i => set.length - i) 0 4 900
          (fun _ : Unit => [(1, .ptr 21 0 0), (3, .ptr 20 0 0), (5, .int .u16 (supOf set : Nat)), (11, .ptr 210 0 0)]) (fun _ => vW K R F g set (scat set l)) (fun _ => True) ⟨[(20, .blk 20 0), (21, .blk 21 0), (22, .blk 22 0), (23, .blk 23 0), (24, .blk 24 0), (150, .blk 150 0), (210, .blk 716 0)], rfl, (by repeat (first | exact RO.zero | exact RO.e | refine RO.set rfl ?_)), (by repeat' (first | exact RB.nil | (refine RnL.same ?_; first | rfl | (simp only [noRef, noRefs, noRefs_append, Bool.and_self, Bool.and_true, Bool.true_and, noRefs_flat10, noRefs_ints, noRefs_lsts, noRefs_pad, noRefs_tnC, noRefs_arcC, noRefs_rowF, noRefs_flowC]; done)) | exact RnM.keyM rfl | exact RnL.nil | refine RnL.cons ?_ ?_ | (refine Rn.same ?_; first | rfl | (simp only [noRef, noRefs, noRefs_append, Bool.and_self, Bool.and_true, Bool.true_and, noRefs_flat10, noRefs_ints, noRefs_lsts, noRefs_pad, noRefs_tnC, noRefs_arcC, noRefs_rowF, noRefs_flowC]; done)) | exact Rn.x1 rfl rfl | exact Rn.x2 rfl rfl | exact Rn.x3 rfl rfl | exact Rn.x4 rfl rfl | exact Rn.x5 rfl | exact Rn.x6 rfl | exact Rn.x7 rfl | refine RB.newnil rfl rfl ?_ | refine RB.cells rfl rfl rfl ?_ ?_ | refine RB.map rfl rfl rfl ?_ ?_ | refine RB.cellsB rfl rfl ?_ ?_ | refine RB.mapB rfl rfl ?_ ?_)), (by repeat (first | exact RT.nil | (refine RT.cons ?_ ?_; · (first | exact Rn.any | exact Rn.x1 rfl rfl | exact Rn.x2 rfl rfl | exact Rn.x3 rfl rfl | exact Rn.x4 rfl rfl | exact Rn.x5 rfl | exact Rn.x6 rfl | exact Rn.x7 rfl | (refine Rn.slot ?_ ?_; (first | rfl | (rw [Int.natCast_add]; rfl)); (first | rfl | (simp only [noRef, noRefs, noRefs_append, Bool.and_self, Bool.and_true, Bool.true_and, noRefs_flat10, noRefs_ints, noRefs_lsts, noRefs_pad, noRefs_tnC, noRefs_arcC, noRefs_rowF, noRefs_flowC]; done))) | (refine Rn.fn ?_ ?_ <;> (repeat' (first | exact RnL.nil | refine RnL.cons ?_ ?_ | exact Rn.same rfl | exact Rn.x6 rfl | exact Rn.x2 rfl rfl | exact Rn.x5 rfl | exact Rn.x1 rfl rfl)))))))⟩ (Nat.zero_le _) ?_ ?_
        · intro i hi
          by_cases hlt : i < set.length
          · obtain ⟨c, hcc⟩ := get_ex hlt
            obtain ⟨x, hx⟩ := get_ex (show i < l.length by omega)
            have hcl := hc c (List.mem_of_getElem? hcc)
            have hgi : (ints (colI set))[i]? = some (.int .i64 c) := by simp [ints, colI_get hcc]
            have hi2 : i < l.length := by omega
            have hc10 : (c : Int) < 10 := by omega
            have hst := scat_take hcc hx
            generalize scat (set.take i) (l.take i) = f at hst
            have hset : ∀ a v, (a :: rowF 10 f).set (1 + c) (.int .i64 v) = a :: rowF 10 (fun j => if j = c then v else f j) := fun a v => by
              rw [Nat.add_comm 1 c, List.set_cons_succ, rowF_set]
            have hle : 1 + c + 1 ≤ 10 + 1 := by omega
            simp (maxSteps := 1000000) (disch := first | omega | (simp only [lenW] <;> omega)) only [hlt, hgi, vW, head_ints hx, hc10, hi2, hset, rowF_len, hle, wordsN, Int.reduceGT, wordsR, ne_eq, words, Nat.reduceAdd, Nat.reduceEqDiff, Nat.reduceBEq, ↓reduceIte, reduceCtorEq, SX.exit.injEq, if_true, if_false, Int.reduceAdd, Int.reduceSub, Int.reduceMul, Int.reduceLT, Int.reduceLE, Int.reduceEq, Int.reduceNe, Int.reduceNeg, Int.reduceToNat, Nat.reduceMul, Nat.reduceLT, Nat.reduceSub, Nat.reduceLeDiff]
            refine ⟨i + 1, by omega, by omega, ?_⟩
            rw [hst]
            exact ⟨[(20, .blk 20 0), (21, .blk 21 0), (22, .blk 22 0), (23, .blk 23 0), (24, .blk 24 0), (150, .blk 150 0), (210, .blk 210 0)], rfl, (by repeat (first | exact RO.zero | exact RO.e | refine RO.set rfl ?_)), (by repeat' (first | exact RB.nil | (refine RnL.same ?_; first | rfl | (simp only [noRef, noRefs, noRefs_append, Bool.and_self, Bool.and_true, Bool.true_and, noRefs_flat10, noRefs_ints, noRefs_lsts, noRefs_pad, noRefs_tnC, noRefs_arcC, noRefs_rowF, noRefs_flowC]; done)) | exact RnM.keyM rfl | exact RnL.nil | refine RnL.cons ?_ ?_ | (refine Rn.same ?_; first | rfl | (simp only [noRef, noRefs, noRefs_append, Bool.and_self, Bool.and_true, Bool.true_and, noRefs_flat10, noRefs_ints, noRefs_lsts, noRefs_pad, noRefs_tnC, noRefs_arcC, noRefs_rowF, noRefs_flowC]; done)) | exact Rn.x1 rfl rfl | exact Rn.x2 rfl rfl | exact Rn.x3 rfl rfl | exact Rn.x4 rfl rfl | exact Rn.x5 rfl | exact Rn.x6 rfl | exact Rn.x7 rfl | refine RB.newnil rfl rfl ?_ | refine RB.cells rfl rfl rfl ?_ ?_ | refine RB.map rfl rfl rfl ?_ ?_ | refine RB.cellsB rfl rfl ?_ ?_ | refine RB.mapB rfl rfl ?_ ?_)), (by repeat (first | exact RT.nil | (refine RT.cons ?_ ?_; · (first | exact Rn.any | exact Rn.x1 rfl rfl | exact Rn.x2 rfl rfl | exact Rn.x3 rfl rfl | exact Rn.x4 rfl rfl | exact Rn.x5 rfl | exact Rn.x6 rfl | exact Rn.x7 rfl | (refine Rn.slot ?_ ?_; (first | rfl | (rw [Int.natCast_add]; rfl)); (first | rfl | (simp only [noRef, noRefs, noRefs_append, Bool.and_self, Bool.and_true, Bool.true_and, noRefs_flat10, noRefs_ints, noRefs_lsts, noRefs_pad, noRefs_tnC, noRefs_arcC, noRefs_rowF, noRefs_flowC]; done))) | (refine Rn.fn ?_ ?_ <;> (repeat' (first | exact RnL.nil | refine RnL.cons ?_ ?_ | exact Rn.same rfl | exact Rn.x6 rfl | exact Rn.x2 rfl rfl | exact Rn.x5 rfl | exact Rn.x1 rfl rfl)))))))⟩
          · have e : i = set.length := by omega
            subst e
            rw [List.take_length, ← hll, List.take_length]
            simp (maxSteps := 1000000) (disch := first | omega | (simp only [lenW] <;> omega)) only [hlt, vW, hll, wordsN, Int.reduceGT, wordsR, ne_eq, words, Nat.reduceAdd, Nat.reduceEqDiff, Nat.reduceBEq, ↓reduceIte, reduceCtorEq, SX.exit.injEq, if_true, if_false, Int.reduceAdd, Int.reduceSub, Int.reduceMul, Int.reduceLT, Int.reduceLE, Int.reduceEq, Int.reduceNe, Int.reduceNeg, Int.reduceToNat, Nat.reduceMul, Nat.reduceLT, Nat.reduceSub, Nat.reduceLeDiff]
            exact ⟨(), ⟨[(20, .blk 20 0), (21, .blk 21 0), (22, .blk 22 0), (23, .blk 23 0), (24, .blk 24 0), (150, .blk 150 0), (210, .blk 210 0)], rfl, (by repeat (first | exact RO.zero | exact RO.e | refine RO.set rfl ?_)), (by repeat' (first | exact RB.nil | (refine RnL.same ?_; first | rfl | (simp only [noRef, noRefs, noRefs_append, Bool.and_self, Bool.and_true, Bool.true_and, noRefs_flat10, noRefs_ints, noRefs_lsts, noRefs_pad, noRefs_tnC, noRefs_arcC, noRefs_rowF, noRefs_flowC]; done)) | exact RnM.keyM rfl | exact RnL.nil | refine RnL.cons ?_ ?_ | (refine Rn.same ?_; first | rfl | (simp only [noRef, noRefs, noRefs_append, Bool.and_self, Bool.and_true, Bool.true_and, noRefs_flat10, noRefs_ints, noRefs_lsts, noRefs_pad, noRefs_tnC, noRefs_arcC, noRefs_rowF, noRefs_flowC]; done)) | exact Rn.x1 rfl rfl | exact Rn.x2 rfl rfl | exact Rn.x3 rfl rfl | exact Rn.x4 rfl rfl | exact Rn.x5 rfl | exact Rn.x6 rfl | exact Rn.x7 rfl | refine RB.newnil rfl rfl ?_ | refine RB.cells rfl rfl rfl ?_ ?_ | refine RB.map rfl rfl rfl ?_ ?_ | refine RB.cellsB rfl rfl ?_ ?_ | refine RB.mapB rfl rfl ?_ ?_)), (by repeat (first | exact RT.nil | (refine RT.cons ?_ ?_; · (first | exact Rn.any | exact Rn.x1 rfl rfl | exact Rn.x2 rfl rfl | exact Rn.x3 rfl rfl | exact Rn.x4 rfl rfl | exact Rn.x5 rfl | exact Rn.x6 rfl | exact Rn.x7 rfl | (refine Rn.slot ?_ ?_; (first | rfl | (rw [Int.natCast_add]; rfl)); (first | rfl | (simp only [noRef, noRefs, noRefs_append, Bool.and_self, Bool.and_true, Bool.true_and, noRefs_flat10, noRefs_ints, noRefs_lsts, noRefs_pad, noRefs_tnC, noRefs_arcC, noRefs_rowF, noRefs_flowC]; done))) | (refine Rn.fn ?_ ?_ <;> (repeat' (first | exact RnL.nil | refine RnL.cons ?_ ?_ | exact Rn.same rfl | exact Rn.x6 rfl | exact Rn.x2 rfl rfl | exact Rn.x5 rfl | exact Rn.x1 rfl rfl)))))))⟩⟩
        rintro _ -
        simp (maxSteps := 1000000) (disch := first | omega | (simp only [lenW] <;> omega)) only [vW, wordsN, Int.reduceGT, wordsR, ne_eq, words, Nat.reduceAdd, Nat.reduceEqDiff, Nat.reduceBEq, ↓reduceIte, reduceCtorEq, SX.exit.injEq, if_true, if_false, Int.reduceAdd, Int.reduceSub, Int.reduceMul, Int.reduceLT, Int.reduceLE, Int.reduceEq, Int.reduceNe, Int.reduceNeg, Int.reduceToNat, Nat.reduceMul, Nat.reduceLT, Nat.reduceSub, Nat.reduceLeDiff]
        have hx : supOf set ∉ F.map (·.1) := by
          intro hm
          obtain ⟨f, hf, he⟩ := List.mem_map.1 hm
          have := List.any_eq_false.1 hany f hf
          rw [he] at this
          simp at this
        refine aMapUpd_new (wU_ins (l := F.map (·.1)) hx (by decide) ?_)
        have ht : (AV.int .u16 (supOf set : Nat) :: rowF 10 (scat set l)).take 11 = AV.int .u16 (supOf set : Nat) :: rowF 10 (scat set l) := List.take_of_length_le (by rw [List.length_cons, rowF_len]; exact Nat.le_refl _)
        have hone : (AV.int .u16 (supOf set : Nat) :: rowF 10 (scat set l)).all AV.one = true := by rw [List.all_cons, one_rowF]; rfl
        have hput : putR [.int .u16 0, .int .i64 0, .int .i64 0, .int .i64 0, .int .i64 0, .int .i64 0, .int .i64 0, .int .i64 0, .int .i64 0, .int .i64 0, .int .i64 0] 0 (AV.int .u16 (supOf set : Nat) :: rowF 10 (scat set l)) = AV.int .u16 (supOf set : Nat) :: rowF 10 (scat set l) := rfl
        have hsrc : srcB (some (.cells g (flowC F))) g 0 F.length 11 = some (flowC F) := srcB_all (flowC_len F)
        have hfl : flowC F ++ (AV.int .u16 (supOf set : Nat) :: rowF 10 (scat set l)) = flowC (F ++ [(supOf set, scat set l)]) := by
          unfold flowC; rw [List.flatMap_append, List.flatMap_singleton]
        have hrl := rowF_len 10 (scat set l)
        simp (maxSteps := 1000000) (disch := first | omega | (simp only [lenW] <;> omega)) only [ht, hone, hrl, hput, hsrc, hfl, wordsN, Int.reduceGT, wordsR, ne_eq, words, Nat.reduceAdd, Nat.reduceEqDiff, Nat.reduceBEq, ↓reduceIte, reduceCtorEq, SX.exit.injEq, if_true, if_false, Int.reduceAdd, Int.reduceSub, Int.reduceMul, Int.reduceLT, Int.reduceLE, Int.reduceEq, Int.reduceNe, Int.reduceNeg, Int.reduceToNat, Nat.reduceMul, Nat.reduceLT, Nat.reduceSub, Nat.reduceLeDiff]
        refine ⟨.inl trivial, _, rfl, rfl, ?_⟩
        rw [← hL]
        simp only [vS, List.length_append, List.length_cons, List.length_nil, List.map_append, List.map_cons, List.map_nil, Nat.zero_add]
        exact ⟨[(20, .blk 20 0), (21, .blk 21 0), (22, .blk 22 0), (23, .blk 23 0), (24, .blk 24 0), (150, .blk 150 0)], rfl, (by repeat (first | exact RO.zero | exact RO.e | refine RO.set rfl ?_)), (by repeat' (first | exact RB.nil | (refine RnL.same ?_; first | rfl | (simp only [noRef, noRefs, noRefs_append, Bool.and_self, Bool.and_true, Bool.true_and, noRefs_flat10, noRefs_ints, noRefs_lsts, noRefs_pad, noRefs_tnC, noRefs_arcC, noRefs_rowF, noRefs_flowC]; done)) | exact RnM.keyM rfl | exact RnL.nil | refine RnL.cons ?_ ?_ | (refine Rn.same ?_; first | rfl | (simp only [noRef, noRefs, noRefs_append, Bool.and_self, Bool.and_true, Bool.true_and, noRefs_flat10, noRefs_ints, noRefs_lsts, noRefs_pad, noRefs_tnC, noRefs_arcC, noRefs_rowF, noRefs_flowC]; done)) | exact Rn.x1 rfl rfl | exact Rn.x2 rfl rfl | exact Rn.x3 rfl rfl | exact Rn.x4 rfl rfl | exact Rn.x5 rfl | exact Rn.x6 rfl | exact Rn.x7 rfl | refine RB.newnil rfl rfl ?_ | refine RB.cells rfl rfl rfl ?_ ?_ | refine RB.map rfl rfl rfl ?_ ?_ | refine RB.cellsB rfl rfl ?_ ?_ | refine RB.mapB rfl rfl ?_ ?_)), (by repeat (first | exact RT.nil | (refine RT.cons ?_ ?_; · (first | exact Rn.any | exact Rn.x1 rfl rfl | exact Rn.x2 rfl rfl | exact Rn.x3 rfl rfl | exact Rn.x4 rfl rfl | exact Rn.x5 rfl | exact Rn.x6 rfl | exact Rn.x7 rfl | (refine Rn.slot ?_ ?_; (first | rfl | (rw [Int.natCast_add]; rfl)); (first | rfl | (simp only [noRef, noRefs, noRefs_append, Bool.and_self, Bool.and_true, Bool.true_and, noRefs_flat10, noRefs_ints, noRefs_lsts, noRefs_pad, noRefs_tnC, noRefs_arcC, noRefs_rowF, noRefs_flowC]; done))) | (refine Rn.fn ?_ ?_ <;> (repeat' (first | exact RnL.nil | refine RnL.cons ?_ ?_ | exact Rn.same rfl | exact Rn.x6 rfl | exact Rn.x2 rfl rfl | exact Rn.x5 rfl | exact Rn.x1 rfl rfl)))))))⟩
end Go.AM.SN
namespace Go.AM.SN
open Go.Proofs Go.AM.SK
set_option maxRecDepth 100000
set_option linter.unusedSimpArgs false
set_option linter.unusedVariables false
def setsF : Nat → Nat → Nat → List (List Nat)
  | 0, _, _ => [[]]
  | _ + 1, 0, _ => []
  | s + 1, c + 1, a => (setsF s c (a + 1)).map (a :: ·) ++ setsF (s + 1) c (a + 1)
def nxt (s : List Nat) (i : Nat) : List Nat := (List.range s.length).map fun p => if p < i then s.getD p 0 else s.getD i 0 + 1 + (p - i)
theorem sets_props : ∀ n, n < 6 → ∀ k, k < 6 → ∀ s ∈ setsF k n 0, s.length = k ∧ (∀ c ∈ s, c < n) ∧ s.Pairwise (· < ·) := by decide +kernel
theorem sets_first : ∀ n, n < 6 → ∀ k, k < 6 → k ≤ n → (setsF k n 0)[0]? = some (List.range k) := by decide +kernel
theorem sets_small : ∀ n, n < 6 → ∀ k, k < 6 → (setsF k n 0).length ≤ 10 := by decide +kernel
def chkNext : Bool := (List.range 6).all fun n => (List.range 6).all fun k => (List.range (setsF k n 0).length).all fun j => (List.range k).all fun i =>
  (((setsF k n 0).getD j []).getD i 0 == n - k + i) || !((List.range k).all fun p => !(decide (i < p)) || ((setsF k n 0).getD j []).getD p 0 == n - k + p) || decide ((setsF k n 0)[j + 1]? = some (nxt ((setsF k n 0).getD j []) i))
theorem chkNext_ok : chkNext = true := by decide +kernel
theorem sets_next (n : Nat) (hn : n < 6) (k : Nat) (hk : k < 6) (j : Nat) (hj : j < (setsF k n 0).length) (i : Nat) (hi : i < k) (h1 : ((setsF k n 0).getD j []).getD i 0 ≠ n - k + i) (h2 : ∀ p, p < k → i < p → ((setsF k n 0).getD j []).getD p 0 = n - k + p) :
    (setsF k n 0)[j + 1]? = some (nxt ((setsF k n 0).getD j []) i) := by
  have h := chkNext_ok
  unfold chkNext at h
  simp only [List.all_eq_true, List.mem_range] at h
  have h := h n hn k hk j hj i hi
  simp only [Bool.or_eq_true, Bool.not_eq_true', decide_eq_true_eq, beq_iff_eq] at h
  rcases h with (h | h) | h
  · exact absurd h h1
  · exfalso
    rw [Bool.eq_false_iff] at h
    apply h
    rw [List.all_eq_true]
    intro p hp
    simp only [Bool.or_eq_true, Bool.not_eq_true', decide_eq_false_iff_not, beq_iff_eq]
    by_cases hip : i < p
    · exact .inr (h2 p (by simpa using hp) hip)
    · exact .inl hip
  · exact h
theorem sets_last : ∀ n, n < 6 → ∀ k, k < 6 → ∀ j, j < (setsF k n 0).length → (∀ p, p < k → ((setsF k n 0).getD j []).getD p 0 = n - k + p) → j + 1 = (setsF k n 0).length := by decide +kernel
theorem visit_len (R : List (List Int)) (F : List Flow) (s : List Nat) : F.length ≤ (visitR R F s).length ∧ (visitR R F s).length ≤ F.length + 1 := by
  unfold visitR
  split
  · omega
  · split
    · omega
    · split
      · omega
      · simp
theorem visit_sup {R : List (List Int)} {F : List Flow} {s : List Nat} (hs : ∀ c ∈ s, c < 16) (hF : ∀ f ∈ F, f.1 < 65536) : ∀ f ∈ visitR R F s, f.1 < 65536 := by
  unfold visitR
  split
  · exact hF
  · split
    · exact hF
    · split
      · exact hF
      · intro f hf
        rcases List.mem_append.1 hf with h | h
        · exact hF f h
        · simp only [List.mem_singleton] at h
          subst h; exact supOf_lt hs
def foldV (R : List (List Int)) (F : List Flow) (S : List (List Nat)) : List Flow := S.foldl (visitR R) F
theorem foldV_len (R : List (List Int)) : ∀ (S : List (List Nat)) (F : List Flow), F.length ≤ (foldV R F S).length ∧ (foldV R F S).length ≤ F.length + S.length
  | [], F => by simp [foldV]
  | s :: S, F => by
    have h1 := visit_len R F s
    have h2 := foldV_len R S (visitR R F s)
    simp only [foldV, List.foldl_cons, List.length_cons] at h2 ⊢
    omega
theorem foldV_sup {R : List (List Int)} : ∀ (S : List (List Nat)) (F : List Flow), (∀ s ∈ S, ∀ c ∈ s, c < 16) → (∀ f ∈ F, f.1 < 65536) → ∀ f ∈ foldV R F S, f.1 < 65536
  | [], F, _, hF => hF
  | s :: S, F, hS, hF => foldV_sup S _ (fun t ht => hS t (by simp [ht])) (visit_sup (hS s (by simp)) hF)
theorem foldV_take (R : List (List Int)) (F : List Flow) (S : List (List Nat)) {j : Nat} {s : List Nat} (h : S[j]? = some s) : foldV R F (S.take (j + 1)) = visitR R (foldV R F (S.take j)) s := by
  unfold foldV
  rw [List.take_add_one, List.foldl_append, h]; rfl
def vC (K : Nat) (R : List (List Int)) (F : List Flow) (g : Nat) (cs : List AV) : HL :=
  [(20, .cells 0 [.sl 23 g 0 F.length 11]), (21, .cells 0 [.map 22 0]), (22, .map 0 (keyM .u16 (.bool true) (F.map (·.1)))), (23, .cells g (flowC F)), (24, .cells 0 [.int .i64 K, .fsl (R.flatMap pad) R.length 10]), (150, .cells 0 cs)]
def vJ (K : Nat) (R : List (List Int)) (F : List Flow) (g : Nat) (S : List (List Nat)) (j : Nat) : HL :=
  vC K R (foldV R F (S.take j)) (g + ((foldV R F (S.take j)).length - F.length)) (ints (colI (S.getD j [])))
theorem ints_rowF {s : List Nat} : ints (colI s) = rowF s.length (fun p => (s.getD p 0 : Nat)) := by
  unfold rowF colI
  congr 1
  refine List.ext_getElem? fun p => ?_
  by_cases hp : p < s.length
  · simp [List.getElem?_range hp, List.getElem?_eq_getElem hp, List.getD_eq_getElem?_getD]
  · simp [List.getElem?_eq_none (show s.length ≤ p by omega), List.getElem?_eq_none (show (List.range s.length).length ≤ p by simp; omega)]
set_option maxHeartbeats 8000000 in
theorem choose (K : Nat) (R : List (List Int)) (F : List Flow) (g k : Nat) (hK : K ≤ 5) (hR : R.length ≤ 100) (hRk : ∀ r ∈ R, r.length = K) (hRb : ∀ r ∈ R, ∀ x ∈ r, -8 ≤ x ∧ x ≤ 8) (hk0 : 0 < k) (hkK : k ≤ K)
    (hF : F.length ≤ 900) (hFs : ∀ f ∈ F, f.1 < 65536) :
    HSpec Try.prog 59 [.int .i64 K, .int .i64 k, .fn 60 [] [.ptr 21 0 0, .ptr 24 0 0, .ptr 20 0 0]] (hp (vH K R F g)) (.tup [])
      (hp (vH K R (foldV R F (setsF k K 0)) (g + ((foldV R F (setsF k K 0)).length - F.length)))) := by
  refine HSpec.of_rec (m := 100) 300 SM.ok59 rfl rfl rfl ?_
  generalize hL : vH K R (foldV R F (setsF k K 0)) (g + ((foldV R F (setsF k K 0)).length - F.length)) = L1
  have hp1 := sets_props K (by omega) k (by omega)
  have hp2 := sets_first K (by omega) k (by omega) hkK
  have hp3 := sets_small K (by omega) k (by omega)
  have hp4 := sets_next K (by omega) k (by omega)
  have hp5 := sets_last K (by omega) k (by omega)
  generalize setsF k K 0 = S at *
  have hk8 : (8 : Int) * (k : Int) ≤ 1099511627776 := by omega
  have hk1 : (k : Int) ≤ 1099511627776 := by omega
  have hkK' : (k : Int) ≤ K := by omega
  simp (maxSteps := 1000000) (disch := first | omega | (simp only [lenW] <;> omega)) only [SM.s59, vH, hk8, hk1, rowF_zero, wordsN, Int.reduceGT, wordsR, ne_eq, words, Nat.reduceAdd, Nat.reduceEqDiff, Nat.reduceBEq, ↓reduceIte, reduceCtorEq, SX.exit.injEq, if_true, if_false, Int.reduceAdd, Int.reduceSub, Int.reduceMul, Int.reduceLT, Int.reduceLE, Int.reduceEq, Int.reduceNe, Int.reduceNeg, Int.reduceToNat, Nat.reduceMul, Nat.reduceLT, Nat.reduceSub, Nat.reduceLeDiff]
  refine wS_loopX 400 (fun i : Nat => [(0, .int .i64 K), (1, .int .i64 k), (2, .fn 60 [] [.ptr 21 0 0, .ptr 24 0 0, .ptr 20 0 0]), (6, .sl 150 0 0 k 1), (13, .int .i64 k), (14, .int .i64 i)])
    (fun i => vC K R F g (rowF k fun p => if p < i then p else 0)) (fun i => i ≤ k) (fun i => k - i) 0 0 500
    (fun _ : Unit => [(0, .int .i64 K), (1, .int .i64 k), (2, .fn 60 [] [.ptr 21 0 0, .ptr 24 0 0, .ptr 20 0 0]), (6, .sl 150 0 0 k 1)]) (fun _ => vC K R F g (ints (colI (List.range k)))) (fun _ => True) ?_ (Nat.zero_le _) ?_ ?_
  · refine ⟨[(20, .blk 20 0), (21, .blk 21 0), (22, .blk 22 0), (23, .blk 23 0), (24, .blk 24 0), (150, .blk 301 0)], rfl, (by repeat (first | exact RO.zero | exact RO.e | refine RO.set rfl ?_)), ?_, (by repeat (first | exact RT.nil | (refine RT.cons ?_ ?_; · (first | exact Rn.any | exact Rn.x1 rfl rfl | exact Rn.x2 rfl rfl | exact Rn.x3 rfl rfl | exact Rn.x4 rfl rfl | exact Rn.x5 rfl | exact Rn.x6 rfl | exact Rn.x7 rfl | (refine Rn.slot ?_ ?_; (first | rfl | (rw [Int.natCast_add]; rfl)); (first | rfl | (simp only [noRef, noRefs, noRefs_append, Bool.and_self, Bool.and_true, Bool.true_and, noRefs_flat10, noRefs_ints, noRefs_lsts, noRefs_pad, noRefs_tnC, noRefs_arcC, noRefs_rowF, noRefs_flowC]; done))) | (refine Rn.fn ?_ ?_ <;> (repeat' (first | exact RnL.nil | refine RnL.cons ?_ ?_ | exact Rn.same rfl | exact Rn.x6 rfl | exact Rn.x2 rfl rfl | exact Rn.x5 rfl | exact Rn.x1 rfl rfl)))))))⟩
    refine RB.cellsB rfl rfl ?_ (RB.cellsB rfl rfl ?_ (RB.mapB rfl rfl ?_ (RB.cellsB rfl rfl ?_ (RB.cellsB rfl rfl ?_ (RB.cells rfl rfl rfl (RnL.eq (rowF_congr fun p _ => ?_) (noRefs_rowF _ _)) RB.nil)))))
    all_goals first | (simp only [Nat.not_lt_zero, if_false]; done) | repeat' (first | exact RB.nil | (refine RnL.same ?_; first | rfl | (simp only [noRef, noRefs, noRefs_append, Bool.and_self, Bool.and_true, Bool.true_and, noRefs_flat10, noRefs_ints, noRefs_lsts, noRefs_pad, noRefs_tnC, noRefs_arcC, noRefs_rowF, noRefs_flowC]; done)) | exact RnM.keyM rfl | exact RnL.nil | refine RnL.cons ?_ ?_ | (refine Rn.same ?_; first | rfl | (simp only [noRef, noRefs, noRefs_append, Bool.and_self, Bool.and_true, Bool.true_and, noRefs_flat10, noRefs_ints, noRefs_lsts, noRefs_pad, noRefs_tnC, noRefs_arcC, noRefs_rowF, noRefs_flowC]; done)) | exact Rn.x1 rfl rfl | exact Rn.x2 rfl rfl | exact Rn.x3 rfl rfl | exact Rn.x4 rfl rfl | exact Rn.x5 rfl | exact Rn.x6 rfl | exact Rn.x7 rfl | refine RB.newnil rfl rfl ?_ | refine RB.cells rfl rfl rfl ?_ ?_ | refine RB.map rfl rfl rfl ?_ ?_ | refine RB.cellsB rfl rfl ?_ ?_ | refine RB.mapB rfl rfl ?_ ?_)
  · intro i hi
    by_cases hlt : i < k
    · have hset : ∀ v, (rowF k fun p => if p < i then (p : Int) else 0).set i (.int .i64 v) = rowF k (fun p => if p = i then v else if p < i then (p : Int) else 0) := fun v => rowF_set _ v
      have hle : i + 1 ≤ k := by omega
      simp (maxSteps := 1000000) (disch := first | omega | (simp only [lenW] <;> omega)) only [hlt, vC, hset, rowF_len, hle, wordsN, Int.reduceGT, wordsR, ne_eq, words, Nat.reduceAdd, Nat.reduceEqDiff, Nat.reduceBEq, ↓reduceIte, reduceCtorEq, SX.exit.injEq, if_true, if_false, Int.reduceAdd, Int.reduceSub, Int.reduceMul, Int.reduceLT, Int.reduceLE, Int.reduceEq, Int.reduceNe, Int.reduceNeg, Int.reduceToNat, Nat.reduceMul, Nat.reduceLT, Nat.reduceSub, Nat.reduceLeDiff]
      refine ⟨i + 1, by omega, by omega, ?_⟩
      have hf : (fun p => if p = i then (i : Int) else if p < i then (p : Int) else 0) = fun p : Nat => if p < i + 1 then (p : Int) else 0 := by
        funext p
        by_cases e : p = i
        · subst e; simp
        · have : (p < i + 1) ↔ (p < i) := by omega
          simp only [e, if_false, this]
      rw [hf]
      exact ⟨[(20, .blk 20 0), (21, .blk 21 0), (22, .blk 22 0), (23, .blk 23 0), (24, .blk 24 0), (150, .blk 150 0)], rfl, (by repeat (first | exact RO.zero | exact RO.e | refine RO.set rfl ?_)), (by repeat' (first | exact RB.nil | (refine RnL.same ?_; first | rfl | (simp only [noRef, noRefs, noRefs_append, Bool.and_self, Bool.and_true, Bool.true_and, noRefs_flat10, noRefs_ints, noRefs_lsts, noRefs_pad, noRefs_tnC, noRefs_arcC, noRefs_rowF, noRefs_flowC]; done)) | exact RnM.keyM rfl | exact RnL.nil | refine RnL.cons ?_ ?_ | (refine Rn.same ?_; first | rfl | (simp only [noRef, noRefs, noRefs_append, Bool.and_self, Bool.and_true, Bool.true_and, noRefs_flat10, noRefs_ints, noRefs_lsts, noRefs_pad, noRefs_tnC, noRefs_arcC, noRefs_rowF, noRefs_flowC]; done)) | exact Rn.x1 rfl rfl | exact Rn.x2 rfl rfl | exact Rn.x3 rfl rfl | exact Rn.x4 rfl rfl | exact Rn.x5 rfl | exact Rn.x6 rfl | exact Rn.x7 rfl | refine RB.newnil rfl rfl ?_ | refine RB.cells rfl rfl rfl ?_ ?_ | refine RB.map rfl rfl rfl ?_ ?_ | refine RB.cellsB rfl rfl ?_ ?_ | refine RB.mapB rfl rfl ?_ ?_)), (by repeat (first | exact RT.nil | (refine RT.cons ?_ ?_; · (first | exact Rn.any | exact Rn.x1 rfl rfl | exact Rn.x2 rfl rfl | exact Rn.x3 rfl rfl | exact Rn.x4 rfl rfl | exact Rn.x5 rfl | exact Rn.x6 rfl | exact Rn.x7 rfl | (refine Rn.slot ?_ ?_; (first | rfl | (rw [Int.natCast_add]; rfl)); (first | rfl | (simp only [noRef, noRefs, noRefs_append, Bool.and_self, Bool.and_true, Bool.true_and, noRefs_flat10, noRefs_ints, noRefs_lsts, noRefs_pad, noRefs_tnC, noRefs_arcC, noRefs_rowF, noRefs_flowC]; done))) | (refine Rn.fn ?_ ?_ <;> (repeat' (first | exact RnL.nil | refine RnL.cons ?_ ?_ | exact Rn.same rfl | exact Rn.x6 rfl | exact Rn.x2 rfl rfl | exact Rn.x5 rfl | exact Rn.x1 rfl rfl)))))))⟩
    · have e : i = k := by omega
      subst e
      simp (maxSteps := 1000000) (disch := first | omega | (simp only [lenW] <;> omega)) only [hlt, vC, wordsN, Int.reduceGT, wordsR, ne_eq, words, Nat.reduceAdd, Nat.reduceEqDiff, Nat.reduceBEq, ↓reduceIte, reduceCtorEq, SX.exit.injEq, if_true, if_false, Int.reduceAdd, Int.reduceSub, Int.reduceMul, Int.reduceLT, Int.reduceLE, Int.reduceEq, Int.reduceNe, Int.reduceNeg, Int.reduceToNat, Nat.reduceMul, Nat.reduceLT, Nat.reduceSub, Nat.reduceLeDiff]
      refine ⟨(), ?_⟩
      rw [ints_rowF, List.length_range, rowF_congr (g := fun p => if p < i then (p : Int) else 0) fun p hp => by simp [hp, List.getD_eq_getElem?_getD, List.getElem?_range hp]]
      exact ⟨[(20, .blk 20 0), (21, .blk 21 0), (22, .blk 22 0), (23, .blk 23 0), (24, .blk 24 0), (150, .blk 150 0)], rfl, (by repeat (first | exact RO.zero | exact RO.e | refine RO.set rfl ?_)), (by repeat' (first | exact RB.nil | (refine RnL.same ?_; first | rfl | (simp only [noRef, noRefs, noRefs_append, Bool.and_self, Bool.and_true, Bool.true_and, noRefs_flat10, noRefs_ints, noRefs_lsts, noRefs_pad, noRefs_tnC, noRefs_arcC, noRefs_rowF, noRefs_flowC]; done)) | exact RnM.keyM rfl | exact RnL.nil | refine RnL.cons ?_ ?_ | (refine Rn.same ?_; first | rfl | (simp only [noRef, noRefs, noRefs_append, Bool.and_self, Bool.and_true, Bool.true_and, noRefs_flat10, noRefs_ints, noRefs_lsts, noRefs_pad, noRefs_tnC, noRefs_arcC, noRefs_rowF, noRefs_flowC]; done)) | exact Rn.x1 rfl rfl | exact Rn.x2 rfl rfl | exact Rn.x3 rfl rfl | exact Rn.x4 rfl rfl | exact Rn.x5 rfl | exact Rn.x6 rfl | exact Rn.x7 rfl | refine RB.newnil rfl rfl ?_ | refine RB.cells rfl rfl rfl ?_ ?_ | refine RB.map rfl rfl rfl ?_ ?_ | refine RB.cellsB rfl rfl ?_ ?_ | refine RB.mapB rfl rfl ?_ ?_)), (by repeat (first | exact RT.nil | (refine RT.cons ?_ ?_; · (first | exact Rn.any | exact Rn.x1 rfl rfl | exact Rn.x2 rfl rfl | exact Rn.x3 rfl rfl | exact Rn.x4 rfl rfl | exact Rn.x5 rfl | exact Rn.x6 rfl | exact Rn.x7 rfl | (refine Rn.slot ?_ ?_; (first | rfl | (rw [Int.natCast_add]; rfl)); (first | rfl | (simp only [noRef, noRefs, noRefs_append, Bool.and_self, Bool.and_true, Bool.true_and, noRefs_flat10, noRefs_ints, noRefs_lsts, noRefs_pad, noRefs_tnC, noRefs_arcC, noRefs_rowF, noRefs_flowC]; done))) | (refine Rn.fn ?_ ?_ <;> (repeat' (first | exact RnL.nil | refine RnL.cons ?_ ?_ | exact Rn.same rfl | exact Rn.x6 rfl | exact Rn.x2 rfl rfl | exact Rn.x5 rfl | exact Rn.x1 rfl rfl)))))))⟩
  rintro _ -
  have hKB : ∀ s : List Nat, s.length = k → KBd R s := fun s hs => KBd_of R s (by omega) fun r hr x hx => by have := hRb r hr x hx; omega
  have hS0 : 0 < S.length := (List.getElem?_eq_some_iff.1 hp2).1
  have hg0 : S.getD 0 [] = List.range k := by rw [List.getD_eq_getElem?_getD, hp2]; rfl
  simp (maxSteps := 1000000) (disch := first | omega | (simp only [lenW] <;> omega)) only [vC, wordsN, Int.reduceGT, wordsR, ne_eq, words, Nat.reduceAdd, Nat.reduceEqDiff, Nat.reduceBEq, ↓reduceIte, reduceCtorEq, SX.exit.injEq, if_true, if_false, Int.reduceAdd, Int.reduceSub, Int.reduceMul, Int.reduceLT, Int.reduceLE, Int.reduceEq, Int.reduceNe, Int.reduceNeg, Int.reduceToNat, Nat.reduceMul, Nat.reduceLT, Nat.reduceSub, Nat.reduceLeDiff]
  refine wS_loopR 600 (fun j : Nat => [(0, .int .i64 K), (1, .int .i64 k), (2, .fn 60 [] [.ptr 21 0 0, .ptr 24 0 0, .ptr 20 0 0]), (6, .sl 150 0 0 k 1)])
    (fun j => vJ K R F g S j) (fun j => j < S.length) (fun j => S.length - j) 0 ?_ hS0 ?_
  · unfold vJ
    rw [hg0, List.take_zero, show foldV R F [] = F from rfl, Nat.sub_self, Nat.add_zero]
    exact ⟨[(20, .blk 20 0), (21, .blk 21 0), (22, .blk 22 0), (23, .blk 23 0), (24, .blk 24 0), (150, .blk 150 0)], rfl, (by repeat (first | exact RO.zero | exact RO.e | refine RO.set rfl ?_)), (by repeat' (first | exact RB.nil | (refine RnL.same ?_; first | rfl | (simp only [noRef, noRefs, noRefs_append, Bool.and_self, Bool.and_true, Bool.true_and, noRefs_flat10, noRefs_ints, noRefs_lsts, noRefs_pad, noRefs_tnC, noRefs_arcC, noRefs_rowF, noRefs_flowC]; done)) | exact RnM.keyM rfl | exact RnL.nil | refine RnL.cons ?_ ?_ | (refine Rn.same ?_; first | rfl | (simp only [noRef, noRefs, noRefs_append, Bool.and_self, Bool.and_true, Bool.true_and, noRefs_flat10, noRefs_ints, noRefs_lsts, noRefs_pad, noRefs_tnC, noRefs_arcC, noRefs_rowF, noRefs_flowC]; done)) | exact Rn.x1 rfl rfl | exact Rn.x2 rfl rfl | exact Rn.x3 rfl rfl | exact Rn.x4 rfl rfl | exact Rn.x5 rfl | exact Rn.x6 rfl | exact Rn.x7 rfl | refine RB.newnil rfl rfl ?_ | refine RB.cells rfl rfl rfl ?_ ?_ | refine RB.map rfl rfl rfl ?_ ?_ | refine RB.cellsB rfl rfl ?_ ?_ | refine RB.mapB rfl rfl ?_ ?_)), (by repeat (first | exact RT.nil | (refine RT.cons ?_ ?_; · (first | exact Rn.any | exact Rn.x1 rfl rfl | exact Rn.x2 rfl rfl | exact Rn.x3 rfl rfl | exact Rn.x4 rfl rfl | exact Rn.x5 rfl | exact Rn.x6 rfl | exact Rn.x7 rfl | (refine Rn.slot ?_ ?_; (first | rfl | (rw [Int.natCast_add]; rfl)); (first | rfl | (simp only [noRef, noRefs, noRefs_append, Bool.and_self, Bool.and_true, Bool.true_and, noRefs_flat10, noRefs_ints, noRefs_lsts, noRefs_pad, noRefs_tnC, noRefs_arcC, noRefs_rowF, noRefs_flowC]; done))) | (refine Rn.fn ?_ ?_ <;> (repeat' (first | exact RnL.nil | refine RnL.cons ?_ ?_ | exact Rn.same rfl | exact Rn.x6 rfl | exact Rn.x2 rfl rfl | exact Rn.x5 rfl | exact Rn.x1 rfl rfl)))))))⟩
  intro j hj
  have hJ : vJ K R F g S (j + 1) = vC K R (foldV R F (S.take (j + 1))) (g + ((foldV R F (S.take (j + 1))).length - F.length)) (ints (colI (S.getD (j + 1) []))) := rfl
  rw [show vJ K R F g S j = vC K R (foldV R F (S.take j)) (g + ((foldV R F (S.take j)).length - F.length)) (ints (colI (S.getD j []))) from rfl]
  have hsj : S[j]? = some (S.getD j []) := by rw [List.getD_eq_getElem?_getD, List.getElem?_eq_getElem hj]; rfl
  have hnx := hp4 j hj
  have hls := hp5 j hj
  obtain ⟨hl1, hl2⟩ := foldV_len R (S.take j) F
  have hft := foldV_take R F S hsj
  generalize S.getD j [] = s at *
  obtain ⟨hsl, hsc, hsp⟩ := hp1 s (List.mem_of_getElem? hsj)
  have hS16 : ∀ s ∈ S.take j, ∀ c ∈ s, c < 16 := fun t ht c hc => by have := (hp1 t (List.mem_of_mem_take ht)).2.1 c hc; omega
  have hsup := foldV_sup (R := R) (S.take j) F hS16 hFs
  have hlj : (S.take j).length ≤ 10 := by rw [List.length_take]; omega
  obtain ⟨v1, v2⟩ := visit_len R (foldV R F (S.take j)) s
  rw [← hft] at v1 v2
  generalize hFj : foldV R F (S.take j) = Fj at *
  have hvis := visit K R Fj (g + (Fj.length - F.length)) s (by omega) hR hRk hsc (by omega) (hKB s hsl) (by omega) hsup
  rw [hsl, ← hft] at hvis
  rw [show g + (Fj.length - F.length) + ((foldV R F (S.take (j + 1))).length - Fj.length) = g + ((foldV R F (S.take (j + 1))).length - F.length) by omega] at hvis
  simp (maxSteps := 1000000) (disch := first | omega | (simp only [lenW] <;> omega)) only [vC, hkK', wordsN, Int.reduceGT, wordsR, ne_eq, words, Nat.reduceAdd, Nat.reduceEqDiff, Nat.reduceBEq, ↓reduceIte, reduceCtorEq, SX.exit.injEq, if_true, if_false, Int.reduceAdd, Int.reduceSub, Int.reduceMul, Int.reduceLT, Int.reduceLE, Int.reduceEq, Int.reduceNe, Int.reduceNeg, Int.reduceToNat, Nat.reduceMul, Nat.reduceLT, Nat.reduceSub, Nat.reduceLeDiff]
  refine call_heap hvis ?_
  generalize hgG : g + ((foldV R F (S.take (j + 1))).length - F.length) = g' at *
  generalize hFG : foldV R F (S.take (j + 1)) = F' at *
  have hci : ints (colI s) = rowF k (fun p => (s.getD p 0 : Nat)) := by rw [ints_rowF, hsl]
  simp (maxSteps := 1000000) (disch := first | omega | (simp only [lenW] <;> omega)) only [vS, hci, wordsN, Int.reduceGT, wordsR, ne_eq, words, Nat.reduceAdd, Nat.reduceEqDiff, Nat.reduceBEq, ↓reduceIte, reduceCtorEq, SX.exit.injEq, if_true, if_false, Int.reduceAdd, Int.reduceSub, Int.reduceMul, Int.reduceLT, Int.reduceLE, Int.reduceEq, Int.reduceNe, Int.reduceNeg, Int.reduceToNat, Nat.reduceMul, Nat.reduceLT, Nat.reduceSub, Nat.reduceLeDiff]
  refine wS_loopX 700 (fun a : Nat => [(0, .int .i64 K), (1, .int .i64 k), (2, .fn 60 [] [.ptr 21 0 0, .ptr 24 0 0, .ptr 20 0 0]), (6, .sl 150 0 0 k 1), (8, .int .i64 ((a : Int) - 1))])
    (fun _ => vC K R F' g' (rowF k fun p => (s.getD p 0 : Nat))) (fun a => a ≤ k ∧ ∀ p, p < k → a ≤ p → s.getD p 0 = K - k + p) (fun a => a) k 4 800
    (fun i : Int => [(0, .int .i64 K), (1, .int .i64 k), (2, .fn 60 [] [.ptr 21 0 0, .ptr 24 0 0, .ptr 20 0 0]), (6, .sl 150 0 0 k 1), (8, .int .i64 i)])
    (fun _ => vC K R F' g' (rowF k fun p => (s.getD p 0 : Nat))) (fun i => (i = -1 ∧ ∀ p, p < k → s.getD p 0 = K - k + p) ∨ ∃ b : Nat, i = b ∧ b < k ∧ s.getD b 0 ≠ K - k + b ∧ ∀ p, p < k → b < p → s.getD p 0 = K - k + p)
    ⟨[(20, .blk 20 0), (21, .blk 21 0), (22, .blk 22 0), (23, .blk 23 0), (24, .blk 24 0), (150, .blk 150 0)], rfl, (by repeat (first | exact RO.zero | exact RO.e | refine RO.set rfl ?_)), (by repeat' (first | exact RB.nil | (refine RnL.same ?_; first | rfl | (simp only [noRef, noRefs, noRefs_append, Bool.and_self, Bool.and_true, Bool.true_and, noRefs_flat10, noRefs_ints, noRefs_lsts, noRefs_pad, noRefs_tnC, noRefs_arcC, noRefs_rowF, noRefs_flowC]; done)) | exact RnM.keyM rfl | exact RnL.nil | refine RnL.cons ?_ ?_ | (refine Rn.same ?_; first | rfl | (simp only [noRef, noRefs, noRefs_append, Bool.and_self, Bool.and_true, Bool.true_and, noRefs_flat10, noRefs_ints, noRefs_lsts, noRefs_pad, noRefs_tnC, noRefs_arcC, noRefs_rowF, noRefs_flowC]; done)) | exact Rn.x1 rfl rfl | exact Rn.x2 rfl rfl | exact Rn.x3 rfl rfl | exact Rn.x4 rfl rfl | exact Rn.x5 rfl | exact Rn.x6 rfl | exact Rn.x7 rfl | refine RB.newnil rfl rfl ?_ | refine RB.cells rfl rfl rfl ?_ ?_ | refine RB.map rfl rfl rfl ?_ ?_ | refine RB.cellsB rfl rfl ?_ ?_ | refine RB.mapB rfl rfl ?_ ?_)), (by repeat (first | exact RT.nil | (refine RT.cons ?_ ?_; · (first | exact Rn.any | exact Rn.x1 rfl rfl | exact Rn.x2 rfl rfl | exact Rn.x3 rfl rfl | exact Rn.x4 rfl rfl | exact Rn.x5 rfl | exact Rn.x6 rfl | exact Rn.x7 rfl | (refine Rn.slot ?_ ?_; (first | rfl | (rw [Int.natCast_add]; rfl)); (first | rfl | (simp only [noRef, noRefs, noRefs_append, Bool.and_self, Bool.and_true, Bool.true_and, noRefs_flat10, noRefs_ints, noRefs_lsts, noRefs_pad, noRefs_tnC, noRefs_arcC, noRefs_rowF, noRefs_flowC]; done))) | (refine Rn.fn ?_ ?_ <;> (repeat' (first | exact RnL.nil | refine RnL.cons ?_ ?_ | exact Rn.same rfl | exact Rn.x6 rfl | exact Rn.x2 rfl rfl | exact Rn.x5 rfl | exact Rn.x1 rfl rfl)))))))⟩ ⟨Nat.le_refl _, fun p h1 h2 => absurd h1 (by omega)⟩ ?_ ?_
  · rintro a ⟨ha, hall⟩
    cases a with
    | zero =>
      simp (maxSteps := 1000000) (disch := first | omega | (simp only [lenW] <;> omega)) only [vC, wordsN, Int.reduceGT, wordsR, ne_eq, words, Nat.reduceAdd, Nat.reduceEqDiff, Nat.reduceBEq, ↓reduceIte, reduceCtorEq, SX.exit.injEq, if_true, if_false, Int.reduceAdd, Int.reduceSub, Int.reduceMul, Int.reduceLT, Int.reduceLE, Int.reduceEq, Int.reduceNe, Int.reduceNeg, Int.reduceToNat, Nat.reduceMul, Nat.reduceLT, Nat.reduceSub, Nat.reduceLeDiff]
      refine ⟨-1, .inl ⟨rfl, fun p hp => hall p hp (Nat.zero_le _)⟩, ?_⟩
      exact ⟨[(20, .blk 20 0), (21, .blk 21 0), (22, .blk 22 0), (23, .blk 23 0), (24, .blk 24 0), (150, .blk 150 0)], rfl, (by repeat (first | exact RO.zero | exact RO.e | refine RO.set rfl ?_)), (by repeat' (first | exact RB.nil | (refine RnL.same ?_; first | rfl | (simp only [noRef, noRefs, noRefs_append, Bool.and_self, Bool.and_true, Bool.true_and, noRefs_flat10, noRefs_ints, noRefs_lsts, noRefs_pad, noRefs_tnC, noRefs_arcC, noRefs_rowF, noRefs_flowC]; done)) | exact RnM.keyM rfl | exact RnL.nil | refine RnL.cons ?_ ?_ | (refine Rn.same ?_; first | rfl | (simp only [noRef, noRefs, noRefs_append, Bool.and_self, Bool.and_true, Bool.true_and, noRefs_flat10, noRefs_ints, noRefs_lsts, noRefs_pad, noRefs_tnC, noRefs_arcC, noRefs_rowF, noRefs_flowC]; done)) | exact Rn.x1 rfl rfl | exact Rn.x2 rfl rfl | exact Rn.x3 rfl rfl | exact Rn.x4 rfl rfl | exact Rn.x5 rfl | exact Rn.x6 rfl | exact Rn.x7 rfl | refine RB.newnil rfl rfl ?_ | refine RB.cells rfl rfl rfl ?_ ?_ | refine RB.map rfl rfl rfl ?_ ?_ | refine RB.cellsB rfl rfl ?_ ?_ | refine RB.mapB rfl rfl ?_ ?_)), (by repeat (first | exact RT.nil | (refine RT.cons ?_ ?_; · (first | exact Rn.any | exact Rn.x1 rfl rfl | exact Rn.x2 rfl rfl | exact Rn.x3 rfl rfl | exact Rn.x4 rfl rfl | exact Rn.x5 rfl | exact Rn.x6 rfl | exact Rn.x7 rfl | (refine Rn.slot ?_ ?_; (first | rfl | (rw [Int.natCast_add]; rfl)); (first | rfl | (simp only [noRef, noRefs, noRefs_append, Bool.and_self, Bool.and_true, Bool.true_and, noRefs_flat10, noRefs_ints, noRefs_lsts, noRefs_pad, noRefs_tnC, noRefs_arcC, noRefs_rowF, noRefs_flowC]; done))) | (refine Rn.fn ?_ ?_ <;> (repeat' (first | exact RnL.nil | refine RnL.cons ?_ ?_ | exact Rn.same rfl | exact Rn.x6 rfl | exact Rn.x2 rfl rfl | exact Rn.x5 rfl | exact Rn.x1 rfl rfl)))))))⟩
    | succ b =>
      have hbk : b < k := by omega
      have hgb := rowF_get (n := k) (fun p => ((s.getD p 0 : Nat) : Int)) hbk
      by_cases hq : s.getD b 0 = K - k + b
      · have hq' : (((s.getD b 0 : Nat) : Int) = (K : Int) - k + b) = True := eq_true (by omega)
        simp (maxSteps := 1000000) (disch := first | omega | (simp only [lenW] <;> omega)) only [vC, Int.add_sub_cancel, hbk, hgb, hq', wordsN, Int.reduceGT, wordsR, ne_eq, words, Nat.reduceAdd, Nat.reduceEqDiff, Nat.reduceBEq, ↓reduceIte, reduceCtorEq, SX.exit.injEq, if_true, if_false, Int.reduceAdd, Int.reduceSub, Int.reduceMul, Int.reduceLT, Int.reduceLE, Int.reduceEq, Int.reduceNe, Int.reduceNeg, Int.reduceToNat, Nat.reduceMul, Nat.reduceLT, Nat.reduceSub, Nat.reduceLeDiff]
        refine ⟨b, by omega, ⟨by omega, fun p hp hbp => ?_⟩, ?_⟩
        · by_cases e : p = b
          · subst e; exact hq
          · exact hall p hp (by omega)
        · exact ⟨[(20, .blk 20 0), (21, .blk 21 0), (22, .blk 22 0), (23, .blk 23 0), (24, .blk 24 0), (150, .blk 150 0)], rfl, (by repeat (first | exact RO.zero | exact RO.e | refine RO.set rfl ?_)), (by repeat' (first | exact RB.nil | (refine RnL.same ?_; first | rfl | (simp only [noRef, noRefs, noRefs_append, Bool.and_self, Bool.and_true, Bool.true_and, noRefs_flat10, noRefs_ints, noRefs_lsts, noRefs_pad, noRefs_tnC, noRefs_arcC, noRefs_rowF, noRefs_flowC]; done)) | exact RnM.keyM rfl | exact RnL.nil | refine RnL.cons ?_ ?_ | (refine Rn.same ?_; first | rfl | (simp only [noRef, noRefs, noRefs_append, Bool.and_self, Bool.and_true, Bool.true_and, noRefs_flat10, noRefs_ints, noRefs_lsts, noRefs_pad, noRefs_tnC, noRefs_arcC, noRefs_rowF, noRefs_flowC]; done)) | exact Rn.x1 rfl rfl | exact Rn.x2 rfl rfl | exact Rn.x3 rfl rfl | exact Rn.x4 rfl rfl | exact Rn.x5 rfl | exact Rn.x6 rfl | exact Rn.x7 rfl | refine RB.newnil rfl rfl ?_ | refine RB.cells rfl rfl rfl ?_ ?_ | refine RB.map rfl rfl rfl ?_ ?_ | refine RB.cellsB rfl rfl ?_ ?_ | refine RB.mapB rfl rfl ?_ ?_)), (by repeat (first | exact RT.nil | (refine RT.cons ?_ ?_; · (first | exact Rn.any | exact Rn.x1 rfl rfl | exact Rn.x2 rfl rfl | exact Rn.x3 rfl rfl | exact Rn.x4 rfl rfl | exact Rn.x5 rfl | exact Rn.x6 rfl | exact Rn.x7 rfl | (refine Rn.slot ?_ ?_; (first | rfl | (rw [Int.natCast_add]; rfl)); (first | rfl | (simp only [noRef, noRefs, noRefs_append, Bool.and_self, Bool.and_true, Bool.true_and, noRefs_flat10, noRefs_ints, noRefs_lsts, noRefs_pad, noRefs_tnC, noRefs_arcC, noRefs_rowF, noRefs_flowC]; done))) | (refine Rn.fn ?_ ?_ <;> (repeat' (first | exact RnL.nil | refine RnL.cons ?_ ?_ | exact Rn.same rfl | exact Rn.x6 rfl | exact Rn.x2 rfl rfl | exact Rn.x5 rfl | exact Rn.x1 rfl rfl)))))))⟩
      · have hq' : (((s.getD b 0 : Nat) : Int) = (K : Int) - k + b) = False := eq_false (by omega)
        simp (maxSteps := 1000000) (disch := first | omega | (simp only [lenW] <;> omega)) only [vC, Int.add_sub_cancel, hbk, hgb, hq', wordsN, Int.reduceGT, wordsR, ne_eq, words, Nat.reduceAdd, Nat.reduceEqDiff, Nat.reduceBEq, ↓reduceIte, reduceCtorEq, SX.exit.injEq, if_true, if_false, Int.reduceAdd, Int.reduceSub, Int.reduceMul, Int.reduceLT, Int.reduceLE, Int.reduceEq, Int.reduceNe, Int.reduceNeg, Int.reduceToNat, Nat.reduceMul, Nat.reduceLT, Nat.reduceSub, Nat.reduceLeDiff]
        refine ⟨b, .inr ⟨b, rfl, hbk, hq, fun p hp hbp => hall p hp (by omega)⟩, ?_⟩
        exact ⟨[(20, .blk 20 0), (21, .blk 21 0), (22, .blk 22 0), (23, .blk 23 0), (24, .blk 24 0), (150, .blk 150 0)], rfl, (by repeat (first | exact RO.zero | exact RO.e | refine RO.set rfl ?_)), (by repeat' (first | exact RB.nil | (refine RnL.same ?_; first | rfl | (simp only [noRef, noRefs, noRefs_append, Bool.and_self, Bool.and_true, Bool.true_and, noRefs_flat10, noRefs_ints, noRefs_lsts, noRefs_pad, noRefs_tnC, noRefs_arcC, noRefs_rowF, noRefs_flowC]; done)) | exact RnM.keyM rfl | exact RnL.nil | refine RnL.cons ?_ ?_ | (refine Rn.same ?_; first | rfl | (simp only [noRef, noRefs, noRefs_append, Bool.and_self, Bool.and_true, Bool.true_and, noRefs_flat10, noRefs_ints, noRefs_lsts, noRefs_pad, noRefs_tnC, noRefs_arcC, noRefs_rowF, noRefs_flowC]; done)) | exact Rn.x1 rfl rfl | exact Rn.x2 rfl rfl | exact Rn.x3 rfl rfl | exact Rn.x4 rfl rfl | exact Rn.x5 rfl | exact Rn.x6 rfl | exact Rn.x7 rfl | refine RB.newnil rfl rfl ?_ | refine RB.cells rfl rfl rfl ?_ ?_ | refine RB.map rfl rfl rfl ?_ ?_ | refine RB.cellsB rfl rfl ?_ ?_ | refine RB.mapB rfl rfl ?_ ?_)), (by repeat (first | exact RT.nil | (refine RT.cons ?_ ?_; · (first | exact Rn.any | exact Rn.x1 rfl rfl | exact Rn.x2 rfl rfl | exact Rn.x3 rfl rfl | exact Rn.x4 rfl rfl | exact Rn.x5 rfl | exact Rn.x6 rfl | exact Rn.x7 rfl | (refine Rn.slot ?_ ?_; (first | rfl | (rw [Int.natCast_add]; rfl)); (first | rfl | (simp only [noRef, noRefs, noRefs_append, Bool.and_self, Bool.and_true, Bool.true_and, noRefs_flat10, noRefs_ints, noRefs_lsts, noRefs_pad, noRefs_tnC, noRefs_arcC, noRefs_rowF, noRefs_flowC]; done))) | (refine Rn.fn ?_ ?_ <;> (repeat' (first | exact RnL.nil | refine RnL.cons ?_ ?_ | exact Rn.same rfl | exact Rn.x6 rfl | exact Rn.x2 rfl rfl | exact Rn.x5 rfl | exact Rn.x1 rfl rfl)))))))⟩
  rintro i (⟨rfl, hall⟩ | ⟨b, rfl, hbk, hq, hall⟩)
  · have hje := hls hall
    have hfS : F' = foldV R F S := by rw [← hFG, hje, List.take_length]
    simp (maxSteps := 1000000) (disch := first | omega | (simp only [lenW] <;> omega)) only [vC, wordsN, Int.reduceGT, wordsR, ne_eq, words, Nat.reduceAdd, Nat.reduceEqDiff, Nat.reduceBEq, ↓reduceIte, reduceCtorEq, SX.exit.injEq, if_true, if_false, Int.reduceAdd, Int.reduceSub, Int.reduceMul, Int.reduceLT, Int.reduceLE, Int.reduceEq, Int.reduceNe, Int.reduceNeg, Int.reduceToNat, Nat.reduceMul, Nat.reduceLT, Nat.reduceSub, Nat.reduceLeDiff]
    refine ⟨.inr trivial, _, rfl, rfl, ?_⟩
    rw [← hL, ← hfS, show g + (F'.length - F.length) = g' by rw [← hgG]]
    unfold vH
    exact ⟨[(20, .blk 20 0), (21, .blk 21 0), (22, .blk 22 0), (23, .blk 23 0), (24, .blk 24 0)], rfl, (by repeat (first | exact RO.zero | exact RO.e | refine RO.set rfl ?_)), (by repeat' (first | exact RB.nil | (refine RnL.same ?_; first | rfl | (simp only [noRef, noRefs, noRefs_append, Bool.and_self, Bool.and_true, Bool.true_and, noRefs_flat10, noRefs_ints, noRefs_lsts, noRefs_pad, noRefs_tnC, noRefs_arcC, noRefs_rowF, noRefs_flowC]; done)) | exact RnM.keyM rfl | exact RnL.nil | refine RnL.cons ?_ ?_ | (refine Rn.same ?_; first | rfl | (simp only [noRef, noRefs, noRefs_append, Bool.and_self, Bool.and_true, Bool.true_and, noRefs_flat10, noRefs_ints, noRefs_lsts, noRefs_pad, noRefs_tnC, noRefs_arcC, noRefs_rowF, noRefs_flowC]; done)) | exact Rn.x1 rfl rfl | exact Rn.x2 rfl rfl | exact Rn.x3 rfl rfl | exact Rn.x4 rfl rfl | exact Rn.x5 rfl | exact Rn.x6 rfl | exact Rn.x7 rfl | refine RB.newnil rfl rfl ?_ | refine RB.cells rfl rfl rfl ?_ ?_ | refine RB.map rfl rfl rfl ?_ ?_ | refine RB.cellsB rfl rfl ?_ ?_ | refine RB.mapB rfl rfl ?_ ?_)), (by repeat (first | exact RT.nil | (refine RT.cons ?_ ?_; · (first | exact Rn.any | exact Rn.x1 rfl rfl | exact Rn.x2 rfl rfl | exact Rn.x3 rfl rfl | exact Rn.x4 rfl rfl | exact Rn.x5 rfl | exact Rn.x6 rfl | exact Rn.x7 rfl | (refine Rn.slot ?_ ?_; (first | rfl | (rw [Int.natCast_add]; rfl)); (first | rfl | (simp only [noRef, noRefs, noRefs_append, Bool.and_self, Bool.and_true, Bool.true_and, noRefs_flat10, noRefs_ints, noRefs_lsts, noRefs_pad, noRefs_tnC, noRefs_arcC, noRefs_rowF, noRefs_flowC]; done))) | (refine Rn.fn ?_ ?_ <;> (repeat' (first | exact RnL.nil | refine RnL.cons ?_ ?_ | exact Rn.same rfl | exact Rn.x6 rfl | exact Rn.x2 rfl rfl | exact Rn.x5 rfl | exact Rn.x1 rfl rfl)))))))⟩
  have hb0 : ¬ ((b : Nat) : Int) < 0 := by omega
  have hgb := rowF_get (n := k) (fun p => ((s.getD p 0 : Nat) : Int)) hbk
  have hset : ∀ v, (rowF k fun p => ((s.getD p 0 : Nat) : Int)).set b (.int .i64 v) = rowF k (fun p => if p = b then v else ((s.getD p 0 : Nat) : Int)) := fun v => rowF_set _ v
  have hle : b + 1 ≤ k := by omega
  have hsb : s.getD b 0 < 6 := by
    rw [List.getD_eq_getElem?_getD]
    cases hx : s[b]? with
    | none => simp
    | some x => have := hsc x (List.mem_of_getElem? hx); simp; omega
  simp (maxSteps := 1000000) (disch := first | omega | (simp only [lenW] <;> omega)) only [vC, hb0, hgb, hbk, hset, rowF_len, hle, wordsN, Int.reduceGT, wordsR, ne_eq, words, Nat.reduceAdd, Nat.reduceEqDiff, Nat.reduceBEq, ↓reduceIte, reduceCtorEq, SX.exit.injEq, if_true, if_false, Int.reduceAdd, Int.reduceSub, Int.reduceMul, Int.reduceLT, Int.reduceLE, Int.reduceEq, Int.reduceNe, Int.reduceNeg, Int.reduceToNat, Nat.reduceMul, Nat.reduceLT, Nat.reduceSub, Nat.reduceLeDiff]
  have hnb := hnx b hbk hq fun p hp hb => hall p hp hb
  generalize hs0 : s.getD b 0 = s0 at *
  refine wS_loopR 900 (fun d : Nat => [(0, .int .i64 K), (1, .int .i64 k), (2, .fn 60 [] [.ptr 21 0 0, .ptr 24 0 0, .ptr 20 0 0]), (6, .sl 150 0 0 k 1), (9, .int .i64 ((d : Int) + 1))])
    (fun d => vC K R F' g' (rowF k fun p => if p < b then ((s.getD p 0 : Nat) : Int) else if p < d + 1 then (s0 : Int) + 1 + ((p : Int) - b) else ((s.getD p 0 : Nat) : Int))) (fun d => b ≤ d ∧ d + 1 ≤ k) (fun d => k - d) b ?_ ⟨Nat.le_refl _, by omega⟩ ?_
  · refine ⟨[(20, .blk 20 0), (21, .blk 21 0), (22, .blk 22 0), (23, .blk 23 0), (24, .blk 24 0), (150, .blk 150 0)], rfl, (by repeat (first | exact RO.zero | exact RO.e | refine RO.set rfl ?_)), ?_, (by repeat (first | exact RT.nil | (refine RT.cons ?_ ?_; · (first | exact Rn.any | exact Rn.x1 rfl rfl | exact Rn.x2 rfl rfl | exact Rn.x3 rfl rfl | exact Rn.x4 rfl rfl | exact Rn.x5 rfl | exact Rn.x6 rfl | exact Rn.x7 rfl | (refine Rn.slot ?_ ?_; (first | rfl | (rw [Int.natCast_add]; rfl)); (first | rfl | (simp only [noRef, noRefs, noRefs_append, Bool.and_self, Bool.and_true, Bool.true_and, noRefs_flat10, noRefs_ints, noRefs_lsts, noRefs_pad, noRefs_tnC, noRefs_arcC, noRefs_rowF, noRefs_flowC]; done))) | (refine Rn.fn ?_ ?_ <;> (repeat' (first | exact RnL.nil | refine RnL.cons ?_ ?_ | exact Rn.same rfl | exact Rn.x6 rfl | exact Rn.x2 rfl rfl | exact Rn.x5 rfl | exact Rn.x1 rfl rfl)))))))⟩
    refine RB.cellsB rfl rfl ?_ (RB.cellsB rfl rfl ?_ (RB.mapB rfl rfl ?_ (RB.cellsB rfl rfl ?_ (RB.cellsB rfl rfl ?_ (RB.cells rfl rfl rfl (RnL.eq (rowF_congr fun p _ => ?_) (noRefs_rowF _ _)) RB.nil)))))
    rotate_right 1
    · by_cases e : p = b
      · subst e; simp
      · have : (p < b + 1) ↔ (p < b) := by omega
        simp only [this, e, if_false]
        split <;> rfl
    all_goals repeat' (first | exact RB.nil | (refine RnL.same ?_; first | rfl | (simp only [noRef, noRefs, noRefs_append, Bool.and_self, Bool.and_true, Bool.true_and, noRefs_flat10, noRefs_ints, noRefs_lsts, noRefs_pad, noRefs_tnC, noRefs_arcC, noRefs_rowF, noRefs_flowC]; done)) | exact RnM.keyM rfl | exact RnL.nil | refine RnL.cons ?_ ?_ | (refine Rn.same ?_; first | rfl | (simp only [noRef, noRefs, noRefs_append, Bool.and_self, Bool.and_true, Bool.true_and, noRefs_flat10, noRefs_ints, noRefs_lsts, noRefs_pad, noRefs_tnC, noRefs_arcC, noRefs_rowF, noRefs_flowC]; done)) | exact Rn.x1 rfl rfl | exact Rn.x2 rfl rfl | exact Rn.x3 rfl rfl | exact Rn.x4 rfl rfl | exact Rn.x5 rfl | exact Rn.x6 rfl | exact Rn.x7 rfl | refine RB.newnil rfl rfl ?_ | refine RB.cells rfl rfl rfl ?_ ?_ | refine RB.map rfl rfl rfl ?_ ?_ | refine RB.cellsB rfl rfl ?_ ?_ | refine RB.mapB rfl rfl ?_ ?_)
  rintro d ⟨hbd, hdk⟩
  by_cases hlt : d + 1 < k
  · have hlt' : (d : Int) + 1 < k := by omega
    have hdk2 : d < k := by omega
    have hle2 : d + 1 + 1 ≤ k := by omega
    have hd0 : ¬ d < b := by omega
    have hgd := rowF_get (n := k) (fun p => if p < b then ((s.getD p 0 : Nat) : Int) else if p < d + 1 then (s0 : Int) + 1 + ((p : Int) - b) else ((s.getD p 0 : Nat) : Int)) hdk2
    rw [if_neg hd0, if_pos (Nat.lt_succ_self d)] at hgd
    have hset2 : ∀ v, (rowF k fun p => if p < b then ((s.getD p 0 : Nat) : Int) else if p < d + 1 then (s0 : Int) + 1 + ((p : Int) - b) else ((s.getD p 0 : Nat) : Int)).set (d + 1) (.int .i64 v) =
      rowF k (fun p => if p = d + 1 then v else if p < b then ((s.getD p 0 : Nat) : Int) else if p < d + 1 then (s0 : Int) + 1 + ((p : Int) - b) else ((s.getD p 0 : Nat) : Int)) := fun v => rowF_set _ v
    have htn : ((d : Int) + 1).toNat = d + 1 := by omega
    simp (maxSteps := 1000000) (disch := first | omega | (simp only [lenW] <;> omega)) only [vC, hlt', Int.add_sub_cancel, hdk2, hgd, htn, hset2, rowF_len, hle2, wordsN, Int.reduceGT, wordsR, ne_eq, words, Nat.reduceAdd, Nat.reduceEqDiff, Nat.reduceBEq, ↓reduceIte, reduceCtorEq, SX.exit.injEq, if_true, if_false, Int.reduceAdd, Int.reduceSub, Int.reduceMul, Int.reduceLT, Int.reduceLE, Int.reduceEq, Int.reduceNe, Int.reduceNeg, Int.reduceToNat, Nat.reduceMul, Nat.reduceLT, Nat.reduceSub, Nat.reduceLeDiff]
    refine ⟨d + 1, by omega, ⟨by omega, by omega⟩, ?_⟩
    refine ⟨[(20, .blk 20 0), (21, .blk 21 0), (22, .blk 22 0), (23, .blk 23 0), (24, .blk 24 0), (150, .blk 150 0)], rfl, (by repeat (first | exact RO.zero | exact RO.e | refine RO.set rfl ?_)), ?_, (by repeat (first | exact RT.nil | (refine RT.cons ?_ ?_; · (first | exact Rn.any | exact Rn.x1 rfl rfl | exact Rn.x2 rfl rfl | exact Rn.x3 rfl rfl | exact Rn.x4 rfl rfl | exact Rn.x5 rfl | exact Rn.x6 rfl | exact Rn.x7 rfl | (refine Rn.slot ?_ ?_; (first | rfl | (rw [Int.natCast_add]; rfl)); (first | rfl | (simp only [noRef, noRefs, noRefs_append, Bool.and_self, Bool.and_true, Bool.true_and, noRefs_flat10, noRefs_ints, noRefs_lsts, noRefs_pad, noRefs_tnC, noRefs_arcC, noRefs_rowF, noRefs_flowC]; done))) | (refine Rn.fn ?_ ?_ <;> (repeat' (first | exact RnL.nil | refine RnL.cons ?_ ?_ | exact Rn.same rfl | exact Rn.x6 rfl | exact Rn.x2 rfl rfl | exact Rn.x5 rfl | exact Rn.x1 rfl rfl)))))))⟩
    refine RB.cellsB rfl rfl ?_ (RB.cellsB rfl rfl ?_ (RB.mapB rfl rfl ?_ (RB.cellsB rfl rfl ?_ (RB.cellsB rfl rfl ?_ (RB.cells rfl rfl rfl (RnL.eq (rowF_congr fun p hp => ?_) (noRefs_rowF _ _)) RB.nil)))))
    rotate_right 1
    · by_cases e : p = d + 1
      · subst e
        rw [if_neg (by omega), if_pos (by omega), if_pos rfl]; omega
      · have : (p < d + 1 + 1) ↔ (p < d + 1) := by omega
        simp only [this, e, if_false]
    all_goals repeat' (first | exact RB.nil | (refine RnL.same ?_; first | rfl | (simp only [noRef, noRefs, noRefs_append, Bool.and_self, Bool.and_true, Bool.true_and, noRefs_flat10, noRefs_ints, noRefs_lsts, noRefs_pad, noRefs_tnC, noRefs_arcC, noRefs_rowF, noRefs_flowC]; done)) | exact RnM.keyM rfl | exact RnL.nil | refine RnL.cons ?_ ?_ | (refine Rn.same ?_; first | rfl | (simp only [noRef, noRefs, noRefs_append, Bool.and_self, Bool.and_true, Bool.true_and, noRefs_flat10, noRefs_ints, noRefs_lsts, noRefs_pad, noRefs_tnC, noRefs_arcC, noRefs_rowF, noRefs_flowC]; done)) | exact Rn.x1 rfl rfl | exact Rn.x2 rfl rfl | exact Rn.x3 rfl rfl | exact Rn.x4 rfl rfl | exact Rn.x5 rfl | exact Rn.x6 rfl | exact Rn.x7 rfl | refine RB.newnil rfl rfl ?_ | refine RB.cells rfl rfl rfl ?_ ?_ | refine RB.map rfl rfl rfl ?_ ?_ | refine RB.cellsB rfl rfl ?_ ?_ | refine RB.mapB rfl rfl ?_ ?_)
  · have e : d + 1 = k := by omega
    have hlt' : ¬ (d : Int) + 1 < k := by omega
    simp (maxSteps := 1000000) (disch := first | omega | (simp only [lenW] <;> omega)) only [vC, hlt', wordsN, Int.reduceGT, wordsR, ne_eq, words, Nat.reduceAdd, Nat.reduceEqDiff, Nat.reduceBEq, ↓reduceIte, reduceCtorEq, SX.exit.injEq, if_true, if_false, Int.reduceAdd, Int.reduceSub, Int.reduceMul, Int.reduceLT, Int.reduceLE, Int.reduceEq, Int.reduceNe, Int.reduceNeg, Int.reduceToNat, Nat.reduceMul, Nat.reduceLT, Nat.reduceSub, Nat.reduceLeDiff]
    have hj1 : j + 1 < S.length := (List.getElem?_eq_some_iff.1 hnb).1
    refine ⟨j + 1, by omega, hj1, ?_⟩
    rw [hJ, show S.getD (j + 1) [] = nxt s b by rw [List.getD_eq_getElem?_getD, hnb]; rfl, ints_rowF, show (nxt s b).length = k by simp [nxt, hsl]]
    unfold vC
    refine ⟨[(20, .blk 20 0), (21, .blk 21 0), (22, .blk 22 0), (23, .blk 23 0), (24, .blk 24 0), (150, .blk 150 0)], rfl, (by repeat (first | exact RO.zero | exact RO.e | refine RO.set rfl ?_)), ?_, (by repeat (first | exact RT.nil | (refine RT.cons ?_ ?_; · (first | exact Rn.any | exact Rn.x1 rfl rfl | exact Rn.x2 rfl rfl | exact Rn.x3 rfl rfl | exact Rn.x4 rfl rfl | exact Rn.x5 rfl | exact Rn.x6 rfl | exact Rn.x7 rfl | (refine Rn.slot ?_ ?_; (first | rfl | (rw [Int.natCast_add]; rfl)); (first | rfl | (simp only [noRef, noRefs, noRefs_append, Bool.and_self, Bool.and_true, Bool.true_and, noRefs_flat10, noRefs_ints, noRefs_lsts, noRefs_pad, noRefs_tnC, noRefs_arcC, noRefs_rowF, noRefs_flowC]; done))) | (refine Rn.fn ?_ ?_ <;> (repeat' (first | exact RnL.nil | refine RnL.cons ?_ ?_ | exact Rn.same rfl | exact Rn.x6 rfl | exact Rn.x2 rfl rfl | exact Rn.x5 rfl | exact Rn.x1 rfl rfl)))))))⟩
    refine RB.cellsB rfl rfl ?_ (RB.cellsB rfl rfl ?_ (RB.mapB rfl rfl ?_ (RB.cellsB rfl rfl ?_ (RB.cellsB rfl rfl ?_ (RB.cells rfl rfl rfl (RnL.eq (rowF_congr fun p hp => ?_) (noRefs_rowF _ _)) RB.nil)))))
    rotate_right 1
    · have hpr : (List.range s.length)[p]? = some p := List.getElem?_range (by omega)
      have hv : (nxt s b).getD p 0 = if p < b then s.getD p 0 else s.getD b 0 + 1 + (p - b) := by
        unfold nxt
        rw [List.getD_eq_getElem?_getD, List.getElem?_map, hpr]; rfl
      rw [hv, hs0]
      by_cases h1 : p < b
      · rw [if_pos h1, if_pos h1]
      · rw [if_neg h1, if_neg h1, if_pos (by omega)]; omega
    all_goals repeat' (first | exact RB.nil | (refine RnL.same ?_; first | rfl | (simp only [noRef, noRefs, noRefs_append, Bool.and_self, Bool.and_true, Bool.true_and, noRefs_flat10, noRefs_ints, noRefs_lsts, noRefs_pad, noRefs_tnC, noRefs_arcC, noRefs_rowF, noRefs_flowC]; done)) | exact RnM.keyM rfl | exact RnL.nil | refine RnL.cons ?_ ?_ | (refine Rn.same ?_; first | rfl | (simp only [noRef, noRefs, noRefs_append, Bool.and_self, Bool.and_true, Bool.true_and, noRefs_flat10, noRefs_ints, noRefs_lsts, noRefs_pad, noRefs_tnC, noRefs_arcC, noRefs_rowF, noRefs_flowC]; done)) | exact Rn.x1 rfl rfl | exact Rn.x2 rfl rfl | exact Rn.x3 rfl rfl | exact Rn.x4 rfl rfl | exact Rn.x5 rfl | exact Rn.x6 rfl | exact Rn.x7 rfl | refine RB.newnil rfl rfl ?_ | refine RB.cells rfl rfl rfl ?_ ?_ | refine RB.map rfl rfl rfl ?_ ?_ | refine RB.cellsB rfl rfl ?_ ?_ | refine RB.mapB rfl rfl ?_ ?_)
end Go.AM.SN
namespace Go.AM.SN
open Go.Proofs Go.AM.SK
set_option maxRecDepth 100000
set_option linter.unusedSimpArgs false
set_option linter.unusedVariables false
def minF (R : List (List Int)) (K : Nat) : Nat → List Flow
  | 0 => []
  | m + 1 => foldV R (minF R K m) (setsF (m + 1) K 0)
theorem minF_len (R : List (List Int)) {K : Nat} (hK : K < 6) : ∀ m, m < 6 → (minF R K m).length ≤ 10 * m
  | 0, _ => by simp [minF]
  | m + 1, hm => by
    have h1 := minF_len R hK m (by omega)
    have h2 := (foldV_len R (setsF (m + 1) K 0) (minF R K m)).2
    have h3 := sets_small K hK (m + 1) hm
    unfold minF; omega
theorem minF_sup (R : List (List Int)) {K : Nat} (hK : K < 6) : ∀ m, m < 6 → ∀ f ∈ minF R K m, f.1 < 65536
  | 0, _ => by simp [minF]
  | m + 1, hm => foldV_sup _ _ (fun s hs c hc => by have := (sets_props K hK (m + 1) hm s hs).2.1 c hc; omega) (minF_sup R hK m (by omega))
abbrev flowsV (F : List Flow) : AV := .fsl (flowC F) F.length 11
theorem noRef_flows (F : List Flow) : noRef (flowsV F) = true := by simp only [noRef]; exact noRefs_flowC F
set_option maxHeartbeats 8000000 in
theorem minimalP (K : Nat) (R : List (List Int)) (hK : K ≤ 5) (hR : R.length ≤ 100) (hRk : ∀ r ∈ R, r.length = K) (hRb : ∀ r ∈ R, ∀ x ∈ r, -8 ≤ x ∧ x ≤ 8) :
    PSpec Try.prog 41 [tabV K R] (flowsV (minF R K K)) := by
  refine PSpec.of_rn 64 SM.ok41 rfl (by (try simp only [noRefs, noRef_net, noRef_sli, noRef_lsts, noRef_arcs, noRef_tns, noRef_tab]) <;> rfl) (noRef_flows _) ?_
  simp (maxSteps := 1000000) (disch := first | omega | (simp only [lenW] <;> omega)) only [SM.s41, aMakeMap_new, wordsM, wordsN, Int.reduceGT, wordsR, ne_eq, words, Nat.reduceAdd, Nat.reduceEqDiff, Nat.reduceBEq, ↓reduceIte, reduceCtorEq, SX.exit.injEq, if_true, if_false, Int.reduceAdd, Int.reduceSub, Int.reduceMul, Int.reduceLT, Int.reduceLE, Int.reduceEq, Int.reduceNe, Int.reduceNeg, Int.reduceToNat, Nat.reduceMul, Nat.reduceLT, Nat.reduceSub, Nat.reduceLeDiff]
  refine wS_loopR 100 (fun a : Nat => [(1, .ptr 24 0 0), (3, .ptr 20 0 0), (4, .ptr 21 0 0), (5, .int .i64 ((a : Int) + 1))])
    (fun a => vH K R (minF R K a) 0) (fun a => a ≤ K) (fun a => K - a) 0 ?_ (Nat.zero_le _) ?_
  · exact ⟨[(20, .blk 66 0), (21, .blk 68 0), (22, .blk 67 0), (23, .nil), (24, .blk 64 0)], rfl, (by repeat (first | exact RO.zero | exact RO.e | refine RO.set rfl ?_)), (by repeat' (first | exact RB.nil | (refine RnL.same ?_; first | rfl | (simp only [noRef, noRefs, noRefs_append, Bool.and_self, Bool.and_true, Bool.true_and, noRefs_flat10, noRefs_ints, noRefs_lsts, noRefs_pad, noRefs_tnC, noRefs_arcC, noRefs_rowF, noRefs_flowC]; done)) | exact RnM.keyM rfl | exact RnL.nil | refine RnL.cons ?_ ?_ | (refine Rn.same ?_; first | rfl | (simp only [noRef, noRefs, noRefs_append, Bool.and_self, Bool.and_true, Bool.true_and, noRefs_flat10, noRefs_ints, noRefs_lsts, noRefs_pad, noRefs_tnC, noRefs_arcC, noRefs_rowF, noRefs_flowC]; done)) | exact Rn.x1 rfl rfl | exact Rn.x2 rfl rfl | exact Rn.x3 rfl rfl | exact Rn.x4 rfl rfl | exact Rn.x5 rfl | exact Rn.x6 rfl | exact Rn.x7 rfl | refine RB.newnil rfl rfl ?_ | refine RB.cells rfl rfl rfl ?_ ?_ | refine RB.map rfl rfl rfl ?_ ?_ | refine RB.cellsB rfl rfl ?_ ?_ | refine RB.mapB rfl rfl ?_ ?_)), (by repeat (first | exact RT.nil | (refine RT.cons ?_ ?_; · (first | exact Rn.any | exact Rn.x1 rfl rfl | exact Rn.x2 rfl rfl | exact Rn.x3 rfl rfl | exact Rn.x4 rfl rfl | exact Rn.x5 rfl | exact Rn.x6 rfl | exact Rn.x7 rfl | (refine Rn.slot ?_ ?_; (first | rfl | (rw [Int.natCast_add]; rfl)); (first | rfl | (simp only [noRef, noRefs, noRefs_append, Bool.and_self, Bool.and_true, Bool.true_and, noRefs_flat10, noRefs_ints, noRefs_lsts, noRefs_pad, noRefs_tnC, noRefs_arcC, noRefs_rowF, noRefs_flowC]; done))) | (refine Rn.fn ?_ ?_ <;> (repeat' (first | exact RnL.nil | refine RnL.cons ?_ ?_ | exact Rn.same rfl | exact Rn.x6 rfl | exact Rn.x2 rfl rfl | exact Rn.x5 rfl | exact Rn.x1 rfl rfl)))))))⟩
  intro a ha
  have hl := minF_len R (K := K) (by omega) a (by omega)
  have hs := minF_sup R (K := K) (by omega) a (by omega)
  by_cases hlt : a + 1 ≤ K
  · have hlt' : (a : Int) + 1 ≤ K := by omega
    have hch := choose K R (minF R K a) 0 (a + 1) hK hR hRk hRb (by omega) hlt (by omega) hs
    generalize hg : 0 + ((foldV R (minF R K a) (setsF (a + 1) K 0)).length - (minF R K a).length) = gg at hch
    have hF : minF R K (a + 1) = foldV R (minF R K a) (setsF (a + 1) K 0) := rfl
    rw [← hF] at hch
    simp (maxSteps := 1000000) (disch := first | omega | (simp only [lenW] <;> omega)) only [vH, hlt', wordsN, Int.reduceGT, wordsR, ne_eq, words, Nat.reduceAdd, Nat.reduceEqDiff, Nat.reduceBEq, ↓reduceIte, reduceCtorEq, SX.exit.injEq, if_true, if_false, Int.reduceAdd, Int.reduceSub, Int.reduceMul, Int.reduceLT, Int.reduceLE, Int.reduceEq, Int.reduceNe, Int.reduceNeg, Int.reduceToNat, Nat.reduceMul, Nat.reduceLT, Nat.reduceSub, Nat.reduceLeDiff]
    refine ch hch ?_
    generalize hF' : minF R K (a + 1) = F' at *
    simp (maxSteps := 1000000) (disch := first | omega | (simp only [lenW] <;> omega)) only [vH, wordsN, Int.reduceGT, wordsR, ne_eq, words, Nat.reduceAdd, Nat.reduceEqDiff, Nat.reduceBEq, ↓reduceIte, reduceCtorEq, SX.exit.injEq, if_true, if_false, Int.reduceAdd, Int.reduceSub, Int.reduceMul, Int.reduceLT, Int.reduceLE, Int.reduceEq, Int.reduceNe, Int.reduceNeg, Int.reduceToNat, Nat.reduceMul, Nat.reduceLT, Nat.reduceSub, Nat.reduceLeDiff]
    refine ⟨a + 1, by omega, hlt, ?_⟩
    rw [hF']
    exact ⟨[(20, .blk 20 0), (21, .blk 21 0), (22, .blk 22 0), (23, .blk 23 gg), (24, .blk 24 0)], rfl, (by repeat (first | exact RO.zero | exact RO.e | refine RO.set rfl ?_)), (by repeat' (first | exact RB.nil | (refine RnL.same ?_; first | rfl | (simp only [noRef, noRefs, noRefs_append, Bool.and_self, Bool.and_true, Bool.true_and, noRefs_flat10, noRefs_ints, noRefs_lsts, noRefs_pad, noRefs_tnC, noRefs_arcC, noRefs_rowF, noRefs_flowC]; done)) | exact RnM.keyM rfl | exact RnL.nil | refine RnL.cons ?_ ?_ | (refine Rn.same ?_; first | rfl | (simp only [noRef, noRefs, noRefs_append, Bool.and_self, Bool.and_true, Bool.true_and, noRefs_flat10, noRefs_ints, noRefs_lsts, noRefs_pad, noRefs_tnC, noRefs_arcC, noRefs_rowF, noRefs_flowC]; done)) | exact Rn.x1 rfl rfl | exact Rn.x2 rfl rfl | exact Rn.x3 rfl rfl | exact Rn.x4 rfl rfl | exact Rn.x5 rfl | exact Rn.x6 rfl | exact Rn.x7 rfl | refine RB.newnil rfl rfl ?_ | refine RB.cells rfl rfl rfl ?_ ?_ | refine RB.map rfl rfl rfl ?_ ?_ | refine RB.cellsB rfl rfl ?_ ?_ | refine RB.mapB rfl rfl ?_ ?_)), (by repeat (first | exact RT.nil | (refine RT.cons ?_ ?_; · (first | exact Rn.any | exact Rn.x1 rfl rfl | exact Rn.x2 rfl rfl | exact Rn.x3 rfl rfl | exact Rn.x4 rfl rfl | exact Rn.x5 rfl | exact Rn.x6 rfl | exact Rn.x7 rfl | (refine Rn.slot ?_ ?_; (first | rfl | (rw [Int.natCast_add]; rfl)); (first | rfl | (simp only [noRef, noRefs, noRefs_append, Bool.and_self, Bool.and_true, Bool.true_and, noRefs_flat10, noRefs_ints, noRefs_lsts, noRefs_pad, noRefs_tnC, noRefs_arcC, noRefs_rowF, noRefs_flowC]; done))) | (refine Rn.fn ?_ ?_ <;> (repeat' (first | exact RnL.nil | refine RnL.cons ?_ ?_ | exact Rn.same rfl | exact Rn.x6 rfl | exact Rn.x2 rfl rfl | exact Rn.x5 rfl | exact Rn.x1 rfl rfl)))))))⟩
  · have e : a = K := by omega
    have hlt' : ¬ (a : Int) + 1 ≤ K := by omega
    subst e
    simp (maxSteps := 1000000) (disch := first | omega | (simp only [lenW] <;> omega)) only [vH, hlt', wordsN, Int.reduceGT, wordsR, ne_eq, words, Nat.reduceAdd, Nat.reduceEqDiff, Nat.reduceBEq, ↓reduceIte, reduceCtorEq, SX.exit.injEq, if_true, if_false, Int.reduceAdd, Int.reduceSub, Int.reduceMul, Int.reduceLT, Int.reduceLE, Int.reduceEq, Int.reduceNe, Int.reduceNeg, Int.reduceToNat, Nat.reduceMul, Nat.reduceLT, Nat.reduceSub, Nat.reduceLeDiff]
    exact ⟨.inr trivial, _, rfl, Rn.fz0 rfl (flowC_len _) (RnL.same (noRefs_flowC _))⟩
end Go.AM.SN
namespace Go.AM.SN
open Go.Proofs Go.AM.SK
set_option maxRecDepth 100000
set_option linter.unusedSimpArgs false
set_option linter.unusedVariables false
def listR (K : Nat) (F : List Flow) : List (List Int) := F.map fun f => (List.range K).map f.2
theorem flow_len (f : Flow) : (AV.int .u16 (f.1 : Nat) :: rowF 10 f.2).length = 11 := by rw [List.length_cons, rowF_len]
theorem flowC_at {F : List Flow} {a : Nat} {f : Flow} (h : F[a]? = some f) : (flowC F).drop (a * 11) = (AV.int .u16 (f.1 : Nat) :: rowF 10 f.2) ++ flowC (F.drop (a + 1)) :=
  drop_flat' (f := fun f : Flow => AV.int .u16 (f.1 : Nat) :: rowF 10 f.2) (k := 11) (fun y _ => flow_len y) h
theorem put11 {f : Flow} : putR [.int .u16 0, .int .i64 0, .int .i64 0, .int .i64 0, .int .i64 0, .int .i64 0, .int .i64 0, .int .i64 0, .int .i64 0, .int .i64 0, .int .i64 0] 0 (AV.int .u16 (f.1 : Nat) :: rowF 10 f.2) = AV.int .u16 (f.1 : Nat) :: rowF 10 f.2 := rfl
set_option maxHeartbeats 8000000 in
theorem listedP (K : Nat) (R : List (List Int)) (hK : K ≤ 5) (hR : R.length ≤ 100) (hRk : ∀ r ∈ R, r.length = K) (hRb : ∀ r ∈ R, ∀ x ∈ r, -8 ≤ x ∧ x ≤ 8) (hW : ∀ f ∈ minF R K K, ∀ i, i < K → f.2 i ≤ 65536) :
    PSpec Try.prog 40 [tabV K R] (.tup [lsts (listR K (minF R K K)), .int .i64 0]) := by
  refine PSpec.of_rn 64 SM.ok40 rfl (by (try simp only [noRefs, noRef_net, noRef_sli, noRef_lsts, noRef_arcs, noRef_tns, noRef_tab]) <;> rfl) (by simp only [noRef, noRefs, noRefs_lsts]; rfl) ?_
  have hm := minimalP K R hK hR hRk hRb
  have hl := minF_len R (K := K) (by omega) K (by omega)
  generalize minF R K K = F at *
  have hF1 : ¬ (128 : Int) < F.length := by omega
  simp (maxSteps := 1000000) (disch := first | omega | (simp only [lenW] <;> omega)) only [SM.s40, wordsN, Int.reduceGT, wordsR, ne_eq, words, Nat.reduceAdd, Nat.reduceEqDiff, Nat.reduceBEq, ↓reduceIte, reduceCtorEq, SX.exit.injEq, if_true, if_false, Int.reduceAdd, Int.reduceSub, Int.reduceMul, Int.reduceLT, Int.reduceLE, Int.reduceEq, Int.reduceNe, Int.reduceNeg, Int.reduceToNat, Nat.reduceMul, Nat.reduceLT, Nat.reduceSub, Nat.reduceLeDiff]
  refine cp hm ?_
  simp (maxSteps := 1000000) (disch := first | omega | (simp only [lenW] <;> omega)) only [hF1, wordsN, Int.reduceGT, wordsR, ne_eq, words, Nat.reduceAdd, Nat.reduceEqDiff, Nat.reduceBEq, ↓reduceIte, reduceCtorEq, SX.exit.injEq, if_true, if_false, Int.reduceAdd, Int.reduceSub, Int.reduceMul, Int.reduceLT, Int.reduceLE, Int.reduceEq, Int.reduceNe, Int.reduceNeg, Int.reduceToNat, Nat.reduceMul, Nat.reduceLT, Nat.reduceSub, Nat.reduceLeDiff]
  refine wS_loopR 100 (fun a : Nat => [(1, .ptr 51 0 0), (5, .sl 50 0 0 a 1), (15, flowsV F), (16, .int .i64 F.length), (17, .int .i64 a)])
    (fun a => [(50, .cells 0 ((listR K (F.take a)).map sli)), (51, .cells 0 [.int .i64 K, .fsl (R.flatMap pad) R.length 10])]) (fun a => a ≤ F.length) (fun a => F.length - a) 0 ?_ (Nat.zero_le _) ?_
  · simp only [List.take_zero, listR, List.map_nil]
    exact ⟨[(50, .nil), (51, .blk 64 0)], rfl, (by repeat (first | exact RO.zero | exact RO.e | refine RO.set rfl ?_)), (by repeat' (first | exact RB.nil | (refine RnL.same ?_; first | rfl | (simp only [noRef, noRefs, noRefs_append, Bool.and_self, Bool.and_true, Bool.true_and, noRefs_flat10, noRefs_ints, noRefs_lsts, noRefs_pad, noRefs_tnC, noRefs_arcC, noRefs_rowF, noRefs_flowC]; done)) | exact RnM.keyM rfl | exact RnL.nil | refine RnL.cons ?_ ?_ | (refine Rn.same ?_; first | rfl | (simp only [noRef, noRefs, noRefs_append, Bool.and_self, Bool.and_true, Bool.true_and, noRefs_flat10, noRefs_ints, noRefs_lsts, noRefs_pad, noRefs_tnC, noRefs_arcC, noRefs_rowF, noRefs_flowC]; done)) | exact Rn.x1 rfl rfl | exact Rn.x2 rfl rfl | exact Rn.x3 rfl rfl | exact Rn.x4 rfl rfl | exact Rn.x5 rfl | exact Rn.x6 rfl | exact Rn.x7 rfl | refine RB.newnil rfl rfl ?_ | refine RB.cells rfl rfl rfl ?_ ?_ | refine RB.map rfl rfl rfl ?_ ?_ | refine RB.cellsB rfl rfl ?_ ?_ | refine RB.mapB rfl rfl ?_ ?_)), (by repeat (first | exact RT.nil | (refine RT.cons ?_ ?_; · (first | exact Rn.any | exact Rn.x1 rfl rfl | exact Rn.x2 rfl rfl | exact Rn.x3 rfl rfl | exact Rn.x4 rfl rfl | exact Rn.x5 rfl | exact Rn.x6 rfl | exact Rn.x7 rfl | (refine Rn.slot ?_ ?_; (first | rfl | (rw [Int.natCast_add]; rfl)); (first | rfl | (simp only [noRef, noRefs, noRefs_append, Bool.and_self, Bool.and_true, Bool.true_and, noRefs_flat10, noRefs_ints, noRefs_lsts, noRefs_pad, noRefs_tnC, noRefs_arcC, noRefs_rowF, noRefs_flowC]; done))) | (refine Rn.fn ?_ ?_ <;> (repeat' (first | exact RnL.nil | refine RnL.cons ?_ ?_ | exact Rn.same rfl | exact Rn.x6 rfl | exact Rn.x2 rfl rfl | exact Rn.x5 rfl | exact Rn.x1 rfl rfl)))))))⟩
  intro a ha
  by_cases hlt : a < F.length
  · obtain ⟨f, hf⟩ := get_ex hlt
    have hfm := List.mem_of_getElem? hf
    have hd := flowC_at hf
    have ht11 : ((AV.int .u16 (f.1 : Nat) :: rowF 10 f.2) ++ flowC (F.drop (a + 1))).take 11 = AV.int .u16 (f.1 : Nat) :: rowF 10 f.2 := by rw [← flow_len f, List.take_left']; rfl
    have hl11 : (11 ≤ ((AV.int .u16 (f.1 : Nat) :: rowF 10 f.2) ++ flowC (F.drop (a + 1))).length) = True := by simp only [List.length_append, flow_len]; exact eq_true (by omega)
    have hone : (AV.int .u16 (f.1 : Nat) :: rowF 10 f.2).all AV.one = true := by rw [List.all_cons, one_rowF]; rfl
    have hfl := flow_len f
    have hp := put11 (f := f)
    have hk8 : (8 : Int) * (K : Int) ≤ 1099511627776 := by omega
    have hk1 : (K : Int) ≤ 1099511627776 := by omega
    generalize hfc : (AV.int .u16 (f.1 : Nat) :: rowF 10 f.2) = fc at *
    have hfr : noRefs fc = true := by rw [← hfc]; simp only [noRefs, noRef, noRefs_rowF]; rfl
    have hget : ∀ i, i < K → fc[1 + i]? = some (.int .i64 (f.2 i)) := fun i hi => by rw [← hfc, Nat.add_comm 1 i, List.getElem?_cons_succ]; exact rowF_get _ (by omega)
    have hw := hW f hfm
    have hla : (listR K (F.take a)).length = a := by simp [listR]; omega
    have hls : (listR K (F.take (a + 1))).map sli = (listR K (F.take a)).map sli ++ [sli ((List.range K).map f.2)] := by
      unfold listR
      rw [List.take_add_one, hf, List.map_append, List.map_append]; rfl
    simp (maxSteps := 1000000) (disch := first | omega | (simp only [lenW] <;> omega)) only [hlt, hd, ht11, hl11, hfl, hone, hp, hk8, hk1, rowF_zero, wordsN, Int.reduceGT, wordsR, ne_eq, words, Nat.reduceAdd, Nat.reduceEqDiff, Nat.reduceBEq, ↓reduceIte, reduceCtorEq, SX.exit.injEq, if_true, if_false, Int.reduceAdd, Int.reduceSub, Int.reduceMul, Int.reduceLT, Int.reduceLE, Int.reduceEq, Int.reduceNe, Int.reduceNeg, Int.reduceToNat, Nat.reduceMul, Nat.reduceLT, Nat.reduceSub, Nat.reduceLeDiff]
    refine wS_loopR 200 (fun i : Nat => [(1, .ptr 51 0 0), (5, .sl 50 0 0 a 1), (15, flowsV F), (16, .int .i64 F.length), (17, .int .i64 a), (7, .ptr 52 0 0), (8, .sl 53 0 0 K 1), (25, .int .i64 K), (26, .int .i64 i)])
      (fun i => [(50, .cells 0 ((listR K (F.take a)).map sli)), (51, .cells 0 [.int .i64 K, .fsl (R.flatMap pad) R.length 10]), (52, .cells 0 fc), (53, .cells 0 (rowF K fun p => if p < i then f.2 p else 0))]) (fun i => i ≤ K) (fun i => K - i) 0 ?_ (Nat.zero_le _) ?_
    · refine ⟨[(50, .blk 50 0), (51, .blk 51 0), (52, .blk 103 0), (53, .blk 107 0)], rfl, (by repeat (first | exact RO.zero | exact RO.e | refine RO.set rfl ?_)), ?_, (by repeat (first | exact RT.nil | (refine RT.cons ?_ ?_; · (first | exact Rn.any | exact Rn.x1 rfl rfl | exact Rn.x2 rfl rfl | exact Rn.x3 rfl rfl | exact Rn.x4 rfl rfl | exact Rn.x5 rfl | exact Rn.x6 rfl | exact Rn.x7 rfl | (refine Rn.slot ?_ ?_; (first | rfl | (rw [Int.natCast_add]; rfl)); (first | rfl | (simp only [noRef, noRefs, noRefs_append, Bool.and_self, Bool.and_true, Bool.true_and, noRefs_flat10, noRefs_ints, noRefs_lsts, noRefs_pad, noRefs_tnC, noRefs_arcC, noRefs_rowF, noRefs_flowC]; done))) | (refine Rn.fn ?_ ?_ <;> (repeat' (first | exact RnL.nil | refine RnL.cons ?_ ?_ | exact Rn.same rfl | exact Rn.x6 rfl | exact Rn.x2 rfl rfl | exact Rn.x5 rfl | exact Rn.x1 rfl rfl)))))))⟩
      refine RB.cells rfl rfl rfl (RnL.same (noRefs_lsts _)) (RB.cells rfl rfl rfl ?_ (RB.cells rfl rfl rfl (RnL.same hfr) (RB.cells rfl rfl rfl (RnL.eq (rowF_congr fun p _ => if_neg (Nat.not_lt_zero _)) (noRefs_rowF _ _)) RB.nil)))
      repeat' (first | exact RB.nil | (refine RnL.same ?_; first | rfl | (simp only [noRef, noRefs, noRefs_append, Bool.and_self, Bool.and_true, Bool.true_and, noRefs_flat10, noRefs_ints, noRefs_lsts, noRefs_pad, noRefs_tnC, noRefs_arcC, noRefs_rowF, noRefs_flowC]; done)) | exact RnM.keyM rfl | exact RnL.nil | refine RnL.cons ?_ ?_ | (refine Rn.same ?_; first | rfl | (simp only [noRef, noRefs, noRefs_append, Bool.and_self, Bool.and_true, Bool.true_and, noRefs_flat10, noRefs_ints, noRefs_lsts, noRefs_pad, noRefs_tnC, noRefs_arcC, noRefs_rowF, noRefs_flowC]; done)) | exact Rn.x1 rfl rfl | exact Rn.x2 rfl rfl | exact Rn.x3 rfl rfl | exact Rn.x4 rfl rfl | exact Rn.x5 rfl | exact Rn.x6 rfl | exact Rn.x7 rfl | refine RB.newnil rfl rfl ?_ | refine RB.cells rfl rfl rfl ?_ ?_ | refine RB.map rfl rfl rfl ?_ ?_ | refine RB.cellsB rfl rfl ?_ ?_ | refine RB.mapB rfl rfl ?_ ?_)
    intro i hi
    by_cases hil : i < K
    · have hi10 : (i : Int) < 10 := by omega
      have hgi := hget i hil
      have hwi : ¬ (65536 : Int) < f.2 i := by have := hw i hil; omega
      have hset : ∀ v, (rowF K fun p => if p < i then f.2 p else 0).set i (.int .i64 v) = rowF K (fun p => if p = i then v else if p < i then f.2 p else 0) := fun v => rowF_set _ v
      have hle : i + 1 ≤ K := by omega
      simp (maxSteps := 1000000) (disch := first | omega | (simp only [lenW] <;> omega)) only [hil, hi10, hgi, hwi, hset, hle, rowF_len, wordsN, Int.reduceGT, wordsR, ne_eq, words, Nat.reduceAdd, Nat.reduceEqDiff, Nat.reduceBEq, ↓reduceIte, reduceCtorEq, SX.exit.injEq, if_true, if_false, Int.reduceAdd, Int.reduceSub, Int.reduceMul, Int.reduceLT, Int.reduceLE, Int.reduceEq, Int.reduceNe, Int.reduceNeg, Int.reduceToNat, Nat.reduceMul, Nat.reduceLT, Nat.reduceSub, Nat.reduceLeDiff]
      refine ⟨i + 1, by omega, by omega, ?_⟩
      refine ⟨[(50, .blk 50 0), (51, .blk 51 0), (52, .blk 52 0), (53, .blk 53 0)], rfl, (by repeat (first | exact RO.zero | exact RO.e | refine RO.set rfl ?_)), ?_, (by repeat (first | exact RT.nil | (refine RT.cons ?_ ?_; · (first | exact Rn.any | exact Rn.x1 rfl rfl | exact Rn.x2 rfl rfl | exact Rn.x3 rfl rfl | exact Rn.x4 rfl rfl | exact Rn.x5 rfl | exact Rn.x6 rfl | exact Rn.x7 rfl | (refine Rn.slot ?_ ?_; (first | rfl | (rw [Int.natCast_add]; rfl)); (first | rfl | (simp only [noRef, noRefs, noRefs_append, Bool.and_self, Bool.and_true, Bool.true_and, noRefs_flat10, noRefs_ints, noRefs_lsts, noRefs_pad, noRefs_tnC, noRefs_arcC, noRefs_rowF, noRefs_flowC]; done))) | (refine Rn.fn ?_ ?_ <;> (repeat' (first | exact RnL.nil | refine RnL.cons ?_ ?_ | exact Rn.same rfl | exact Rn.x6 rfl | exact Rn.x2 rfl rfl | exact Rn.x5 rfl | exact Rn.x1 rfl rfl)))))))⟩
      refine RB.cells rfl rfl rfl (RnL.same (noRefs_lsts _)) (RB.cells rfl rfl rfl ?_ (RB.cells rfl rfl rfl (RnL.same hfr) (RB.cells rfl rfl rfl (RnL.eq (rowF_congr fun p _ => ?_) (noRefs_rowF _ _)) RB.nil)))
      rotate_right 1
      · by_cases e : p = i
        · subst e; simp
        · have : (p < i + 1) ↔ (p < i) := by omega
          simp only [this, e, if_false]
      repeat' (first | exact RB.nil | (refine RnL.same ?_; first | rfl | (simp only [noRef, noRefs, noRefs_append, Bool.and_self, Bool.and_true, Bool.true_and, noRefs_flat10, noRefs_ints, noRefs_lsts, noRefs_pad, noRefs_tnC, noRefs_arcC, noRefs_rowF, noRefs_flowC]; done)) | exact RnM.keyM rfl | exact RnL.nil | refine RnL.cons ?_ ?_ | (refine Rn.same ?_; first | rfl | (simp only [noRef, noRefs, noRefs_append, Bool.and_self, Bool.and_true, Bool.true_and, noRefs_flat10, noRefs_ints, noRefs_lsts, noRefs_pad, noRefs_tnC, noRefs_arcC, noRefs_rowF, noRefs_flowC]; done)) | exact Rn.x1 rfl rfl | exact Rn.x2 rfl rfl | exact Rn.x3 rfl rfl | exact Rn.x4 rfl rfl | exact Rn.x5 rfl | exact Rn.x6 rfl | exact Rn.x7 rfl | refine RB.newnil rfl rfl ?_ | refine RB.cells rfl rfl rfl ?_ ?_ | refine RB.map rfl rfl rfl ?_ ?_ | refine RB.cellsB rfl rfl ?_ ?_ | refine RB.mapB rfl rfl ?_ ?_)
    · have e : i = K := by omega
      simp (maxSteps := 1000000) (disch := first | omega | (simp only [lenW] <;> omega)) only [hil, hlt, wordsN, Int.reduceGT, wordsR, ne_eq, words, Nat.reduceAdd, Nat.reduceEqDiff, Nat.reduceBEq, ↓reduceIte, reduceCtorEq, SX.exit.injEq, if_true, if_false, Int.reduceAdd, Int.reduceSub, Int.reduceMul, Int.reduceLT, Int.reduceLE, Int.reduceEq, Int.reduceNe, Int.reduceNeg, Int.reduceToNat, Nat.reduceMul, Nat.reduceLT, Nat.reduceSub, Nat.reduceLeDiff]
      refine ⟨a + 1, by omega, by omega, ?_⟩
      refine ⟨[(50, .blk 50 1), (51, .blk 51 0)], rfl, (by repeat (first | exact RO.zero | exact RO.e | refine RO.set rfl ?_)), ?_, (by repeat (first | exact RT.nil | (refine RT.cons ?_ ?_; · (first | exact Rn.any | exact Rn.x1 rfl rfl | exact Rn.x2 rfl rfl | exact Rn.x3 rfl rfl | exact Rn.x4 rfl rfl | exact Rn.x5 rfl | exact Rn.x6 rfl | exact Rn.x7 rfl | (refine Rn.slot ?_ ?_; (first | rfl | (rw [Int.natCast_add]; rfl)); (first | rfl | (simp only [noRef, noRefs, noRefs_append, Bool.and_self, Bool.and_true, Bool.true_and, noRefs_flat10, noRefs_ints, noRefs_lsts, noRefs_pad, noRefs_tnC, noRefs_arcC, noRefs_rowF, noRefs_flowC]; done))) | (refine Rn.fn ?_ ?_ <;> (repeat' (first | exact RnL.nil | refine RnL.cons ?_ ?_ | exact Rn.same rfl | exact Rn.x6 rfl | exact Rn.x2 rfl rfl | exact Rn.x5 rfl | exact Rn.x1 rfl rfl)))))))⟩
      rw [hls]
      refine RB.cells rfl rfl rfl (RnL.append (RnL.same (noRefs_lsts _)) (RnL.cons (Rn.fzm rfl rfl rfl (by simp) (by rw [rowF_len, Nat.mul_one]) (RnL.eq ?_ (noRefs_ints _))) RnL.nil)) (RB.cells rfl rfl rfl ?_ RB.nil)
      · show rowF K f.2 = _
        exact rowF_congr fun p hp => (if_pos (by omega)).symm
      · repeat' (first | exact RB.nil | (refine RnL.same ?_; first | rfl | (simp only [noRef, noRefs, noRefs_append, Bool.and_self, Bool.and_true, Bool.true_and, noRefs_flat10, noRefs_ints, noRefs_lsts, noRefs_pad, noRefs_tnC, noRefs_arcC, noRefs_rowF, noRefs_flowC]; done)) | exact RnM.keyM rfl | exact RnL.nil | refine RnL.cons ?_ ?_ | (refine Rn.same ?_; first | rfl | (simp only [noRef, noRefs, noRefs_append, Bool.and_self, Bool.and_true, Bool.true_and, noRefs_flat10, noRefs_ints, noRefs_lsts, noRefs_pad, noRefs_tnC, noRefs_arcC, noRefs_rowF, noRefs_flowC]; done)) | exact Rn.x1 rfl rfl | exact Rn.x2 rfl rfl | exact Rn.x3 rfl rfl | exact Rn.x4 rfl rfl | exact Rn.x5 rfl | exact Rn.x6 rfl | exact Rn.x7 rfl | refine RB.newnil rfl rfl ?_ | refine RB.cells rfl rfl rfl ?_ ?_ | refine RB.map rfl rfl rfl ?_ ?_ | refine RB.cellsB rfl rfl ?_ ?_ | refine RB.mapB rfl rfl ?_ ?_)
  · have e : a = F.length := by omega
    subst e
    simp (maxSteps := 1000000) (disch := first | omega | (simp only [lenW] <;> omega)) only [hlt, wordsN, Int.reduceGT, wordsR, ne_eq, words, Nat.reduceAdd, Nat.reduceEqDiff, Nat.reduceBEq, ↓reduceIte, reduceCtorEq, SX.exit.injEq, if_true, if_false, Int.reduceAdd, Int.reduceSub, Int.reduceMul, Int.reduceLT, Int.reduceLE, Int.reduceEq, Int.reduceNe, Int.reduceNeg, Int.reduceToNat, Nat.reduceMul, Nat.reduceLT, Nat.reduceSub, Nat.reduceLeDiff]
    refine ⟨.inr trivial, _, rfl, ?_⟩
    refine Rn.tup (RnL.cons ?_ (RnL.same rfl))
    have hlen : (listR K F).length = F.length := by simp [listR]
    show Rn 0 π0 _ (.fsl ((listR K F).map sli) (listR K F).length 1) _
    rw [hlen]
    exact Rn.fz0 rfl (by simp [hlen]) (RnL.same (noRefs_lsts _))
end Go.AM.SN
namespace Go.AM.SN
open Go.Proofs Go.AM.SK
set_option maxRecDepth 100000
set_option linter.unusedSimpArgs false
set_option linter.unusedVariables false
theorem MinimalT (x : Nt) (kind : Int) (K : Nat) (R : List (List Int)) (hT : PSpec Try.prog 39 [netV x, .int .i64 kind] (.tup [tabV K R, .int .i64 0]))
    (hK : K ≤ 5) (hR : R.length ≤ 100) (hRk : ∀ r ∈ R, r.length = K) (hRb : ∀ r ∈ R, ∀ x ∈ r, -8 ≤ x ∧ x ≤ 8) (hW : ∀ f ∈ minF R K K, ∀ i, i < K → f.2 i ≤ 65536) :
    PSpec Try.prog 14 [netV x, .int .i64 kind] (.tup [lsts (listR K (minF R K K)), .int .i64 0]) := by
  refine PSpec.of_rn 64 SM.ok14 rfl (by rw [noRefs, noRef_net]; rfl) (by simp only [noRef, noRefs, noRefs_lsts]; rfl) ?_
  have hl := listedP K R hK hR hRk hRb hW
  simp (maxSteps := 1000000) (disch := first | omega | (simp only [lenW] <;> omega)) only [SM.s14, wordsN, Int.reduceGT, wordsR, ne_eq, words, Nat.reduceAdd, Nat.reduceEqDiff, Nat.reduceBEq, ↓reduceIte, reduceCtorEq, SX.exit.injEq, if_true, if_false, Int.reduceAdd, Int.reduceSub, Int.reduceMul, Int.reduceLT, Int.reduceLE, Int.reduceEq, Int.reduceNe, Int.reduceNeg, Int.reduceToNat, Nat.reduceMul, Nat.reduceLT, Nat.reduceSub, Nat.reduceLeDiff]
  refine cp hT ?_
  simp (maxSteps := 1000000) (disch := first | omega | (simp only [lenW] <;> omega)) only [wordsN, Int.reduceGT, wordsR, ne_eq, words, Nat.reduceAdd, Nat.reduceEqDiff, Nat.reduceBEq, ↓reduceIte, reduceCtorEq, SX.exit.injEq, if_true, if_false, Int.reduceAdd, Int.reduceSub, Int.reduceMul, Int.reduceLT, Int.reduceLE, Int.reduceEq, Int.reduceNe, Int.reduceNeg, Int.reduceToNat, Nat.reduceMul, Nat.reduceLT, Nat.reduceSub, Nat.reduceLeDiff]
  refine cp hl ?_
  simp (maxSteps := 1000000) (disch := first | omega | (simp only [lenW] <;> omega)) only [wordsN, Int.reduceGT, wordsR, ne_eq, words, Nat.reduceAdd, Nat.reduceEqDiff, Nat.reduceBEq, ↓reduceIte, reduceCtorEq, SX.exit.injEq, if_true, if_false, Int.reduceAdd, Int.reduceSub, Int.reduceMul, Int.reduceLT, Int.reduceLE, Int.reduceEq, Int.reduceNe, Int.reduceNeg, Int.reduceToNat, Nat.reduceMul, Nat.reduceLT, Nat.reduceSub, Nat.reduceLeDiff]
  exact ⟨.inr trivial, _, rfl, Rn.same (by simp only [resOf, noRef, noRefs, noRefs_lsts]; rfl)⟩
def covR (F : List Flow) : Nat := F.foldl (fun a f => a ||| f.1) 0
theorem covR_take {F : List Flow} {a : Nat} {f : Flow} (h : F[a]? = some f) : covR (F.take (a + 1)) = covR (F.take a) ||| f.1 := by
  unfold covR
  rw [List.take_add_one, List.foldl_append, h]; rfl
theorem covR_lt {F : List Flow} (h : ∀ f ∈ F, f.1 < 65536) : covR F < 65536 := by
  unfold covR
  have : ∀ (l : List Flow) (a : Nat), (∀ c ∈ l, c.1 < 65536) → a < 65536 → l.foldl (fun a c => a ||| c.1) a < 65536 := by
    intro l
    induction l with
    | nil => intro a _ ha; exact ha
    | cons c l ih =>
      intro a hl ha
      rw [List.foldl_cons]
      exact ih _ (fun c hc => hl c (by simp [hc])) (Nat.or_lt_two_pow (n := 16) ha (hl c (by simp)))
  exact this F 0 h (by decide)
set_option maxHeartbeats 8000000 in
theorem CoveredT (x : Nt) (kind : Int) (K : Nat) (R : List (List Int)) (hT : PSpec Try.prog 39 [netV x, .int .i64 kind] (.tup [tabV K R, .int .i64 0]))
    (hK : K ≤ 5) (hR : R.length ≤ 100) (hRk : ∀ r ∈ R, r.length = K) (hRb : ∀ r ∈ R, ∀ x ∈ r, -8 ≤ x ∧ x ≤ 8) :
    PSpec Try.prog 15 [netV x, .int .i64 kind] (.tup [.bool (decide (covR (minF R K K) = 2 ^ K - 1)), .int .i64 0]) := by
  refine PSpec.of_rn 64 SM.ok15 rfl (by rw [noRefs, noRef_net]; rfl) rfl ?_
  have hm := minimalP K R hK hR hRk hRb
  have hl := minF_len R (K := K) (by omega) K (by omega)
  have hs := minF_sup R (K := K) (by omega) K (by omega)
  generalize minF R K K = F at *
  have hsh := shl16 (c := K) (k := .i64) (by omega)
  have h1 := shl_lt (c := K) (by omega)
  have e2 : 1 <<< K = 2 ^ K := by rw [Nat.shiftLeft_eq, Nat.one_mul]
  have h2 : 0 < 2 ^ K := Nat.two_pow_pos K
  rw [e2] at hsh h1
  generalize 2 ^ K = p at *
  simp (maxSteps := 1000000) (disch := first | omega | (simp only [lenW] <;> omega)) only [SM.s15, wordsN, Int.reduceGT, wordsR, ne_eq, words, Nat.reduceAdd, Nat.reduceEqDiff, Nat.reduceBEq, ↓reduceIte, reduceCtorEq, SX.exit.injEq, if_true, if_false, Int.reduceAdd, Int.reduceSub, Int.reduceMul, Int.reduceLT, Int.reduceLE, Int.reduceEq, Int.reduceNe, Int.reduceNeg, Int.reduceToNat, Nat.reduceMul, Nat.reduceLT, Nat.reduceSub, Nat.reduceLeDiff]
  refine cp hT ?_
  simp (maxSteps := 1000000) (disch := first | omega | (simp only [lenW] <;> omega)) only [wordsN, Int.reduceGT, wordsR, ne_eq, words, Nat.reduceAdd, Nat.reduceEqDiff, Nat.reduceBEq, ↓reduceIte, reduceCtorEq, SX.exit.injEq, if_true, if_false, Int.reduceAdd, Int.reduceSub, Int.reduceMul, Int.reduceLT, Int.reduceLE, Int.reduceEq, Int.reduceNe, Int.reduceNeg, Int.reduceToNat, Nat.reduceMul, Nat.reduceLT, Nat.reduceSub, Nat.reduceLeDiff]
  refine cp hm ?_
  simp (maxSteps := 1000000) (disch := first | omega | (simp only [lenW] <;> omega)) only [wordsN, Int.reduceGT, wordsR, ne_eq, words, Nat.reduceAdd, Nat.reduceEqDiff, Nat.reduceBEq, ↓reduceIte, reduceCtorEq, SX.exit.injEq, if_true, if_false, Int.reduceAdd, Int.reduceSub, Int.reduceMul, Int.reduceLT, Int.reduceLE, Int.reduceEq, Int.reduceNe, Int.reduceNeg, Int.reduceToNat, Nat.reduceMul, Nat.reduceLT, Nat.reduceSub, Nat.reduceLeDiff]
  refine wS_loopR 100 (fun a : Nat => [(6, .ptr 51 0 0), (8, .int .u16 (covR (F.take a) : Nat)), (21, flowsV F), (22, .int .i64 F.length), (23, .int .i64 a)])
    (fun a => [(51, .cells 0 [.int .i64 K, .fsl (R.flatMap pad) R.length 10])]) (fun a => a ≤ F.length) (fun a => F.length - a) 0 ?_ (Nat.zero_le _) ?_
  · exact ⟨[(51, .blk 73 0)], rfl, (by repeat (first | exact RO.zero | exact RO.e | refine RO.set rfl ?_)), (by repeat' (first | exact RB.nil | (refine RnL.same ?_; first | rfl | (simp only [noRef, noRefs, noRefs_append, Bool.and_self, Bool.and_true, Bool.true_and, noRefs_flat10, noRefs_ints, noRefs_lsts, noRefs_pad, noRefs_tnC, noRefs_arcC, noRefs_rowF, noRefs_flowC, noRef_tab]; done)) | exact RnM.keyM rfl | exact RnL.nil | refine RnL.cons ?_ ?_ | (refine Rn.same ?_; first | rfl | (simp only [noRef, noRefs, noRefs_append, Bool.and_self, Bool.and_true, Bool.true_and, noRefs_flat10, noRefs_ints, noRefs_lsts, noRefs_pad, noRefs_tnC, noRefs_arcC, noRefs_rowF, noRefs_flowC, noRef_tab]; done)) | exact Rn.x1 rfl rfl | exact Rn.x2 rfl rfl | exact Rn.x3 rfl rfl | exact Rn.x4 rfl rfl | exact Rn.x5 rfl | exact Rn.x6 rfl | exact Rn.x7 rfl | refine RB.newnil rfl rfl ?_ | refine RB.cells rfl rfl rfl ?_ ?_ | refine RB.map rfl rfl rfl ?_ ?_ | refine RB.cellsB rfl rfl ?_ ?_ | refine RB.mapB rfl rfl ?_ ?_)), (by repeat (first | exact RT.nil | (refine RT.cons ?_ ?_; · (first | exact Rn.any | exact Rn.x1 rfl rfl | exact Rn.x2 rfl rfl | exact Rn.x3 rfl rfl | exact Rn.x4 rfl rfl | exact Rn.x5 rfl | exact Rn.x6 rfl | exact Rn.x7 rfl | (refine Rn.slot ?_ ?_; (first | rfl | (rw [Int.natCast_add]; rfl)); (first | rfl | (simp only [noRef, noRefs, noRefs_append, Bool.and_self, Bool.and_true, Bool.true_and, noRefs_flat10, noRefs_ints, noRefs_lsts, noRefs_pad, noRefs_tnC, noRefs_arcC, noRefs_rowF, noRefs_flowC, noRef_tab]; done))) | (refine Rn.fn ?_ ?_ <;> (repeat' (first | exact RnL.nil | refine RnL.cons ?_ ?_ | exact Rn.same rfl | exact Rn.x6 rfl | exact Rn.x2 rfl rfl | exact Rn.x5 rfl | exact Rn.x1 rfl rfl)))))))⟩
  intro a ha
  by_cases hlt : a < F.length
  · obtain ⟨f, hf⟩ := get_ex hlt
    have hfm := List.mem_of_getElem? hf
    have hd := flowC_at hf
    have hor := or16 (covR_lt fun f hf => hs f (List.mem_of_mem_take hf) : covR (F.take a) < 65536) (hs f hfm)
    have ht11 : ((AV.int .u16 (f.1 : Nat) :: rowF 10 f.2) ++ flowC (F.drop (a + 1))).take 11 = AV.int .u16 (f.1 : Nat) :: rowF 10 f.2 := by rw [← flow_len f, List.take_left']; rfl
    have hl11 : (11 ≤ ((AV.int .u16 (f.1 : Nat) :: rowF 10 f.2) ++ flowC (F.drop (a + 1))).length) = True := by simp only [List.length_append, flow_len]; exact eq_true (by omega)
    have hone : (AV.int .u16 (f.1 : Nat) :: rowF 10 f.2).all AV.one = true := by rw [List.all_cons, one_rowF]; rfl
    have hfl := flow_len f
    have hp := put11 (f := f)
    have h0 : (AV.int .u16 (f.1 : Nat) :: rowF 10 f.2)[0]? = some (.int .u16 (f.1 : Nat)) := rfl
    generalize hfc : (AV.int .u16 (f.1 : Nat) :: rowF 10 f.2) = fc at *
    simp (maxSteps := 1000000) (disch := first | omega | (simp only [lenW] <;> omega)) only [hlt, hd, ht11, hl11, hfl, hone, hp, h0, hor, wordsN, Int.reduceGT, wordsR, ne_eq, words, Nat.reduceAdd, Nat.reduceEqDiff, Nat.reduceBEq, ↓reduceIte, reduceCtorEq, SX.exit.injEq, if_true, if_false, Int.reduceAdd, Int.reduceSub, Int.reduceMul, Int.reduceLT, Int.reduceLE, Int.reduceEq, Int.reduceNe, Int.reduceNeg, Int.reduceToNat, Nat.reduceMul, Nat.reduceLT, Nat.reduceSub, Nat.reduceLeDiff]
    refine ⟨a + 1, by omega, by omega, ?_⟩
    rw [covR_take hf]
    exact ⟨[(51, .blk 51 0)], rfl, (by repeat (first | exact RO.zero | exact RO.e | refine RO.set rfl ?_)), (by repeat' (first | exact RB.nil | (refine RnL.same ?_; first | rfl | (simp only [noRef, noRefs, noRefs_append, Bool.and_self, Bool.and_true, Bool.true_and, noRefs_flat10, noRefs_ints, noRefs_lsts, noRefs_pad, noRefs_tnC, noRefs_arcC, noRefs_rowF, noRefs_flowC, noRef_tab]; done)) | exact RnM.keyM rfl | exact RnL.nil | refine RnL.cons ?_ ?_ | (refine Rn.same ?_; first | rfl | (simp only [noRef, noRefs, noRefs_append, Bool.and_self, Bool.and_true, Bool.true_and, noRefs_flat10, noRefs_ints, noRefs_lsts, noRefs_pad, noRefs_tnC, noRefs_arcC, noRefs_rowF, noRefs_flowC, noRef_tab]; done)) | exact Rn.x1 rfl rfl | exact Rn.x2 rfl rfl | exact Rn.x3 rfl rfl | exact Rn.x4 rfl rfl | exact Rn.x5 rfl | exact Rn.x6 rfl | exact Rn.x7 rfl | refine RB.newnil rfl rfl ?_ | refine RB.cells rfl rfl rfl ?_ ?_ | refine RB.map rfl rfl rfl ?_ ?_ | refine RB.cellsB rfl rfl ?_ ?_ | refine RB.mapB rfl rfl ?_ ?_)), (by repeat (first | exact RT.nil | (refine RT.cons ?_ ?_; · (first | exact Rn.any | exact Rn.x1 rfl rfl | exact Rn.x2 rfl rfl | exact Rn.x3 rfl rfl | exact Rn.x4 rfl rfl | exact Rn.x5 rfl | exact Rn.x6 rfl | exact Rn.x7 rfl | (refine Rn.slot ?_ ?_; (first | rfl | (rw [Int.natCast_add]; rfl)); (first | rfl | (simp only [noRef, noRefs, noRefs_append, Bool.and_self, Bool.and_true, Bool.true_and, noRefs_flat10, noRefs_ints, noRefs_lsts, noRefs_pad, noRefs_tnC, noRefs_arcC, noRefs_rowF, noRefs_flowC, noRef_tab]; done))) | (refine Rn.fn ?_ ?_ <;> (repeat' (first | exact RnL.nil | refine RnL.cons ?_ ?_ | exact Rn.same rfl | exact Rn.x6 rfl | exact Rn.x2 rfl rfl | exact Rn.x5 rfl | exact Rn.x1 rfl rfl)))))))⟩
  · have e : a = F.length := by omega
    subst e
    have hcl := covR_lt hs
    rw [List.take_length]
    simp (maxSteps := 1000000) (disch := first | omega | (simp only [lenW] <;> omega)) only [hlt, hsh, wordsN, Int.reduceGT, wordsR, ne_eq, words, Nat.reduceAdd, Nat.reduceEqDiff, Nat.reduceBEq, ↓reduceIte, reduceCtorEq, SX.exit.injEq, if_true, if_false, Int.reduceAdd, Int.reduceSub, Int.reduceMul, Int.reduceLT, Int.reduceLE, Int.reduceEq, Int.reduceNe, Int.reduceNeg, Int.reduceToNat, Nat.reduceMul, Nat.reduceLT, Nat.reduceSub, Nat.reduceLeDiff]
    have e3 : (((covR F : Nat) : Int) = (p : Int) - 1) ↔ (covR F = p - 1) := by omega
    simp only [e3]
    exact ⟨.inr trivial, _, rfl, Rn.same rfl⟩
end Go.AM.SN
namespace Go.AM.SN
open Go.Proofs Go.AM.SK
set_option linter.unusedSimpArgs false
set_option linter.unusedVariables false
theorem visit_mem {R : List (List Int)} {F : List Flow} {s : List Nat} {f : Flow} (h : f ∈ visitR R F s) : f ∈ F ∨ ∃ l, kerR R s = some l ∧ (∀ x ∈ l, 0 ≤ x) ∧ f = (supOf s, scat s l) := by
  unfold visitR at h
  split at h
  · exact .inl h
  · split at h
    · exact .inl h
    · rename_i l hk
      split at h
      · exact .inl h
      · rename_i hn
        rcases List.mem_append.1 h with h | h
        · exact .inl h
        · simp only [List.mem_singleton] at h
          refine .inr ⟨l, hk, fun x hx => ?_, h⟩
          rw [Bool.not_eq_true, List.any_eq_false] at hn
          have := hn x hx
          simpa using this
theorem foldV_mem {R : List (List Int)} : ∀ {S : List (List Nat)} {F : List Flow} {f : Flow}, f ∈ foldV R F S → f ∈ F ∨ ∃ s ∈ S, ∃ l, kerR R s = some l ∧ (∀ x ∈ l, 0 ≤ x) ∧ f = (supOf s, scat s l)
  | [], F, f, h => .inl h
  | s :: S, F, f, h => by
    rcases foldV_mem (S := S) (F := visitR R F s) h with h | ⟨t, ht, h⟩
    · rcases visit_mem h with h | h
      · exact .inl h
      · exact .inr ⟨s, by simp, h⟩
    · exact .inr ⟨t, by simp [ht], h⟩
theorem minF_mem {R : List (List Int)} {K : Nat} : ∀ {m : Nat} {f : Flow}, f ∈ minF R K m → ∃ k s l, 0 < k ∧ k ≤ m ∧ s ∈ setsF k K 0 ∧ kerR R s = some l ∧ (∀ x ∈ l, 0 ≤ x) ∧ f = (supOf s, scat s l)
  | 0, f, h => by simp [minF] at h
  | m + 1, f, h => by
    rcases foldV_mem h with h | ⟨s, hs, l, h1, h2, h3⟩
    · obtain ⟨k, s, l, a, b, c⟩ := minF_mem h
      exact ⟨k, s, l, a, by omega, c⟩
    · exact ⟨m + 1, s, l, by omega, by omega, hs, h1, h2, h3⟩
theorem scat_not {s : List Nat} {l : List Int} {c : Nat} (h : c ∉ s) (hl : l.length = s.length) : scat s l c = 0 := by
  have : ∀ i, i ≤ s.length → scat (s.take i) (l.take i) c = 0 := by
    intro i
    induction i with
    | zero => intro _; simp [scat]
    | succ i ih =>
      intro hi
      obtain ⟨d, hd⟩ := get_ex (l := s) (i := i) (by omega)
      obtain ⟨x, hx⟩ := get_ex (l := l) (i := i) (by omega)
      rw [scat_take hd hx]
      have hne : c ≠ d := fun e => h (e ▸ List.mem_of_getElem? hd)
      simp only [if_neg hne]
      exact ih (by omega)
  have h1 := this s.length (Nat.le_refl _)
  rw [List.take_length, ← hl, List.take_length] at h1; exact h1
theorem scat_at {s : List Nat} {l : List Int} {p c : Nat} {x : Int} (hs : s.Pairwise (· < ·)) (hl : l.length = s.length) (hc : s[p]? = some c) (hx : l[p]? = some x) : scat s l c = x := by
  have : ∀ i, i ≤ s.length → p < i → scat (s.take i) (l.take i) c = x := by
    intro i
    induction i with
    | zero => intro _ h; omega
    | succ i ih =>
      intro hi hp
      obtain ⟨d, hd⟩ := get_ex (l := s) (i := i) (by omega)
      obtain ⟨y, hy⟩ := get_ex (l := l) (i := i) (by omega)
      rw [scat_take hd hy]
      by_cases e : p = i
      · subst e
        rw [hc] at hd; cases hd
        rw [hx] at hy; cases hy
        simp
      · have hlt : p < i := by omega
        have hne : c ≠ d := by
          obtain ⟨h1, e1⟩ := List.getElem?_eq_some_iff.1 hc
          obtain ⟨h2, e2⟩ := List.getElem?_eq_some_iff.1 hd
          have := List.pairwise_iff_getElem.1 hs p i h1 h2 hlt
          omega
        simp only [if_neg hne]
        exact ih (by omega) hlt
  have hp := (List.getElem?_eq_some_iff.1 hc).1
  have h1 := this s.length (Nat.le_refl _) hp
  rw [List.take_length, ← hl, List.take_length] at h1; exact h1
theorem scat_cases (s : List Nat) (l : List Int) (c : Nat) : scat s l c = 0 ∨ scat s l c ∈ l := by
  unfold scat
  have : ∀ (z : List (Nat × Int)) (f : Nat → Int), (f c = 0 ∨ f c ∈ l) → (∀ p ∈ z, p.2 ∈ l) → ((z.foldl (fun f p => fun c => if c = p.1 then p.2 else f c) f) c = 0 ∨ (z.foldl (fun f p => fun c => if c = p.1 then p.2 else f c) f) c ∈ l) := by
    intro z
    induction z with
    | nil => intro f hf _; exact hf
    | cons p z ih =>
      intro f hf hz
      rw [List.foldl_cons]
      refine ih _ ?_ fun q hq => hz q (by simp [hq])
      by_cases e : c = p.1
      · simp only [if_pos e]; exact .inr (hz p (by simp))
      · simp only [if_neg e]; exact hf
  exact this _ _ (.inl rfl) fun p hp => (List.of_mem_zip hp).2
theorem sumN_upd (a f : Nat → Int) (c : Nat) (x : Int) (h0 : f c = 0) : ∀ n, sumN (fun j => a j * (if j = c then x else f j)) n = sumN (fun j => a j * f j) n + if c < n then a c * x else 0
  | 0 => by simp [sumN]
  | n + 1 => by
    have ih := sumN_upd a f c x h0 n
    simp only [sumN, ih]
    by_cases e : n = c
    · subst e
      simp [h0]
    · have e' : ¬ c = n := fun h => e h.symm
      by_cases h : c < n
      · rw [if_pos h, if_neg e, if_pos (by omega)]; omega
      · rw [if_neg h, if_neg e, if_neg (by omega)]; omega
theorem scat_sum {s : List Nat} {l : List Int} {r : List Int} (hs : s.Pairwise (· < ·)) (hl : l.length = s.length) (hc : ∀ c ∈ s, c < r.length) : rowSum r ((List.range r.length).map (scat s l)) = rowSum (rrow s r) l := by
  have : ∀ i, i ≤ s.length → rowSum r ((List.range r.length).map (scat (s.take i) (l.take i))) = rowSum ((rrow s r).take i) (l.take i) := by
    intro i
    induction i with
    | zero =>
      intro _
      rw [rowSum_sumN]
      have : ∀ n, sumN (fun c => r.getD c 0 * scat (s.take 0) (l.take 0) c) n = 0 := by
        intro n
        induction n with
        | zero => rfl
        | succ n ih => simp only [sumN, ih]; simp [scat]
      rw [this]; simp [rowSum]
    | succ i ih =>
      intro hi
      obtain ⟨d, hd⟩ := get_ex (l := s) (i := i) (by omega)
      obtain ⟨y, hy⟩ := get_ex (l := l) (i := i) (by omega)
      have h0 : scat (s.take i) (l.take i) d = 0 := by
        refine scat_not ?_ (by simp [hl])
        intro hm
        obtain ⟨j, hj, hjd⟩ := mem_at hm
        have hjlt : j < i := by
          have := (List.getElem?_eq_some_iff.1 hj).1
          rw [List.length_take] at this; omega
        rw [List.getElem?_take_of_lt hjlt] at hj
        obtain ⟨h1, e1⟩ := List.getElem?_eq_some_iff.1 hj
        obtain ⟨h2, e2⟩ := List.getElem?_eq_some_iff.1 hd
        have := List.pairwise_iff_getElem.1 hs j i h1 h2 hjlt
        omega
      have ih := ih (by omega)
      rw [rowSum_sumN] at ih
      rw [rowSum_sumN, scat_take hd hy, sumN_upd _ _ _ _ h0, if_pos (hc d (List.mem_of_getElem? hd)), ih]
      have hr : (rrow s r)[i]? = some (r.getD d 0) := by simp [rrow, hd]
      rw [rowSum_take hr hy]
  have h1 := this s.length (Nat.le_refl _)
  have hrl : (rrow s r).length = s.length := by simp [rrow]
  rw [List.take_length, ← hl, List.take_length, hl, ← hrl, List.take_length] at h1
  exact h1
theorem minF_propG {B C : Nat} (hbd : ∀ {n : Nat} {P : Nat → Rw} {K : Nat → Nat} {s : Nat} {M : Mx} {last : Int}, (∀ j c, (P j c).natAbs ≤ B) → s ≤ 4 → Rel n P K s M last → last.natAbs ≤ C ∧ ∀ l c, l < s → c < n → (M l c).natAbs ≤ C)
    {R : List (List Int)} {K : Nat} (hK : K ≤ 5) (hRk : ∀ r ∈ R, r.length = K) (hB : ∀ r ∈ R, ∀ x ∈ r, x.natAbs ≤ B) {f : Flow} (h : f ∈ minF R K K) :
    (∀ i, 0 ≤ f.2 i ∧ f.2 i ≤ C) ∧ (∀ r ∈ R, rowSum r ((List.range K).map f.2) = 0) ∧ ∃ i, i < K ∧ f.2 i ≠ 0 := by
  obtain ⟨k, s, l, hk0, hkm, hs, hker, hl0, rfl⟩ := minF_mem h
  obtain ⟨hsl, hsc, hsp⟩ := sets_props K (by omega) k (by omega) s hs
  obtain ⟨hll, hlx, hz⟩ := ker_propG hbd (by omega) (by omega) hB hker
  refine ⟨fun i => ?_, fun r hr => ?_, ?_⟩
  · rcases scat_cases s l i with e | e
    · dsimp only; rw [e]; omega
    · have := (hlx _ e).2; have := hl0 _ e; dsimp only; omega
  · have := scat_sum (r := r) hsp hll (fun c hc => by rw [hRk r hr]; exact hsc c hc)
    rw [hRk r hr] at this
    rw [this]; exact hz r hr
  · obtain ⟨c, hc⟩ := get_ex (l := s) (i := 0) (by omega)
    obtain ⟨x, hx⟩ := get_ex (l := l) (i := 0) (by omega)
    refine ⟨c, hsc c (List.mem_of_getElem? hc), ?_⟩
    dsimp only
    rw [scat_at hsp hll hc hx]
    exact (hlx x (List.mem_of_getElem? hx)).1
abbrev minL (R : List (List Int)) (K : Nat) : List (List Int) := listR K (minF R K K)
end Go.AM.SN
namespace Go.AM.SN
open Go.Proofs Go.AM.SK
set_option linter.unusedSimpArgs false
set_option linter.unusedVariables false
def sg8 (t : Int) : Int := if t < 0 then -8 else 8
theorem sg8_mul (t : Int) : sg8 t * t = 8 * (t.natAbs : Int) := by
  unfold sg8; split <;> omega
theorem sg8_or (t : Int) : sg8 t = 8 ∨ sg8 t = -8 := by unfold sg8; split <;> simp
theorem lin3 {x y z A B C : Int} (hx : x.natAbs ≤ 8) (hy : y.natAbs ≤ 8) (hz : z.natAbs ≤ 8) : (x * A + y * B + z * C).natAbs ≤ (sg8 A * A + sg8 B * B + sg8 C * C).natAbs := by
  have h1 := mul_bd hx (Nat.le_refl A.natAbs)
  have h2 := mul_bd hy (Nat.le_refl B.natAbs)
  have h3 := mul_bd hz (Nat.le_refl C.natAbs)
  rw [sg8_mul, sg8_mul, sg8_mul]
  omega
def d3 (a b c d e f g h i : Int) : Int := i * (a * e - b * d) - h * (a * f - c * d) + g * (b * f - c * e)
theorem d3_8 {a b c d e f g h i : Int} (ha : a = 8 ∨ a = -8) (hb : b = 8 ∨ b = -8) (hc : c = 8 ∨ c = -8) (hd : d = 8 ∨ d = -8) (he : e = 8 ∨ e = -8) (hf : f = 8 ∨ f = -8) (hg : g = 8 ∨ g = -8) (hh : h = 8 ∨ h = -8) (hi : i = 8 ∨ i = -8) :
    (d3 a b c d e f g h i).natAbs ≤ 2048 := by
  have key : ∀ a b c d e f g h i : Bool, (d3 (if a then 8 else -8) (if b then 8 else -8) (if c then 8 else -8) (if d then 8 else -8) (if e then 8 else -8) (if f then 8 else -8) (if g then 8 else -8) (if h then 8 else -8) (if i then 8 else -8)).natAbs ≤ 2048 := by decide +kernel
  have hb2 : ∀ x : Int, (x = 8 ∨ x = -8) → ∃ b : Bool, x = if b then 8 else -8 := fun x hx => hx.elim (fun h => ⟨true, h⟩) fun h => ⟨false, h⟩
  obtain ⟨a, rfl⟩ := hb2 a ha
  obtain ⟨b, rfl⟩ := hb2 b hb
  obtain ⟨c, rfl⟩ := hb2 c hc
  obtain ⟨d, rfl⟩ := hb2 d hd
  obtain ⟨e, rfl⟩ := hb2 e he
  obtain ⟨f, rfl⟩ := hb2 f hf
  obtain ⟨g, rfl⟩ := hb2 g hg
  obtain ⟨h, rfl⟩ := hb2 h hh
  obtain ⟨i, rfl⟩ := hb2 i hi
  exact key a b c d e f g h i
theorem lin3x {x y z : Int} (A B C : Int) (hx : x.natAbs ≤ 8) (hy : y.natAbs ≤ 8) (hz : z.natAbs ≤ 8) : ∃ p q r : Int, (p = 8 ∨ p = -8) ∧ (q = 8 ∨ q = -8) ∧ (r = 8 ∨ r = -8) ∧ (x * A + y * B + z * C).natAbs ≤ (p * A + q * B + r * C).natAbs :=
  ⟨_, _, _, sg8_or A, sg8_or B, sg8_or C, lin3 hx hy hz⟩
theorem d3_r0 (a b c d e f g h i : Int) : d3 a b c d e f g h i = a * (e * i - f * h) + b * (f * g - d * i) + c * (d * h - e * g) := by unfold d3; grind
theorem d3_r1 (a b c d e f g h i : Int) : d3 a b c d e f g h i = d * (c * h - b * i) + e * (a * i - c * g) + f * (b * g - a * h) := by unfold d3; grind
theorem d3_r2 (a b c d e f g h i : Int) : d3 a b c d e f g h i = g * (b * f - c * e) + h * (c * d - a * f) + i * (a * e - b * d) := by unfold d3; grind
theorem d3_bd {a b c d e f g h i : Int} (ha : a.natAbs ≤ 8) (hb : b.natAbs ≤ 8) (hc : c.natAbs ≤ 8) (hd : d.natAbs ≤ 8) (he : e.natAbs ≤ 8) (hf : f.natAbs ≤ 8) (hg : g.natAbs ≤ 8) (hh : h.natAbs ≤ 8) (hi : i.natAbs ≤ 8) :
    (d3 a b c d e f g h i).natAbs ≤ 2048 := by
  obtain ⟨a', b', c', a1, b1, c1, h1⟩ := lin3x (e * i - f * h) (f * g - d * i) (d * h - e * g) ha hb hc
  rw [← d3_r0, ← d3_r0] at h1
  obtain ⟨d', e', f', d1, e1, f1, h2⟩ := lin3x (c' * h - b' * i) (a' * i - c' * g) (b' * g - a' * h) hd he hf
  rw [← d3_r1, ← d3_r1] at h2
  obtain ⟨g', h', i', g1, i1, j1, h3⟩ := lin3x (b' * f' - c' * e') (c' * d' - a' * f') (a' * e' - b' * d') hg hh hi
  rw [← d3_r2, ← d3_r2] at h3
  have := d3_8 a1 b1 c1 d1 e1 f1 g1 i1 j1
  omega
section
variable {r0 r1 r2 r3 : Rw} (h0 : ∀ c, (r0 c).natAbs ≤ 8) (h1 : ∀ c, (r1 c).natAbs ≤ 8) (h2 : ∀ c, (r2 c).natAbs ≤ 8) (h3 : ∀ c, (r3 c).natAbs ≤ 8)
include h0 h1 h2
theorem D3_8 (c0 c1 c2 : Nat) : (D3 r0 r1 r2 c0 c1 c2).natAbs ≤ 2048 := by
  have e : D3 r0 r1 r2 c0 c1 c2 = d3 (r0 c0) (r0 c1) (r0 c2) (r1 c0) (r1 c1) (r1 c2) (r2 c0) (r2 c1) (r2 c2) := by unfold D3 D2 d3; rfl
  rw [e]; exact d3_bd (h0 _) (h0 _) (h0 _) (h1 _) (h1 _) (h1 _) (h2 _) (h2 _) (h2 _)
include h3
theorem D4_8 (c0 c1 c2 c3 : Nat) : (D4 r0 r1 r2 r3 c0 c1 c2 c3).natAbs ≤ 65536 := by
  have e1 := mul_bd (h3 c3) (D3_8 h0 h1 h2 c0 c1 c2)
  have e2 := mul_bd (h3 c2) (D3_8 h0 h1 h2 c0 c1 c3)
  have e3 := mul_bd (h3 c1) (D3_8 h0 h1 h2 c0 c2 c3)
  have e4 := mul_bd (h3 c0) (D3_8 h0 h1 h2 c1 c2 c3)
  unfold D4; omega
end
theorem Rel.bd8 {n : Nat} {P : Nat → Rw} {K : Nat → Nat} {s : Nat} {M : Mx} {last : Int} (hB : ∀ j c, (P j c).natAbs ≤ 8) (hs : s ≤ 4) (h : Rel n P K s M last) :
    last.natAbs ≤ 65536 ∧ ∀ l c, l < s → c < n → (M l c).natAbs ≤ 65536 := by
  have b2 := fun a b c d => D2_bd (hB a) (hB b) c d
  have b3 := fun a b e c d f => D3_8 (hB a) (hB b) (hB e) c d f
  have b4 := fun a b e g c d f i => D4_8 (hB a) (hB b) (hB e) (hB g) c d f i
  match s, hs, h with
  | 0, _, ⟨h1, h2⟩ => exact ⟨by rw [h1]; decide, fun l c hl => absurd hl (Nat.not_lt_zero _)⟩
  | 1, _, ⟨h1, h2, h3⟩ =>
    refine ⟨by rw [h1]; have := hB 0 (K 0); omega, fun l c hl hc => ?_⟩
    obtain rfl : l = 0 := by omega
    rw [h2 c hc]; have := hB 0 c; omega
  | 2, _, ⟨h1, h2, h3, h4⟩ =>
    refine ⟨by rw [h1]; have := b2 0 1 (K 0) (K 1); omega, fun l c hl hc => ?_⟩
    match l, hl with
    | 0, _ => rw [h2 c hc]; have := b2 0 1 c (K 1); omega
    | 1, _ => rw [h3 c hc]; have := b2 0 1 (K 0) c; omega
  | 3, _, ⟨h1, h2, h3, h4, h5⟩ =>
    refine ⟨by rw [h1]; have := b3 0 1 2 (K 0) (K 1) (K 2); omega, fun l c hl hc => ?_⟩
    match l, hl with
    | 0, _ => rw [h2 c hc]; have := b3 0 1 2 c (K 1) (K 2); omega
    | 1, _ => rw [h3 c hc]; have := b3 0 1 2 (K 0) c (K 2); omega
    | 2, _ => rw [h4 c hc]; have := b3 0 1 2 (K 0) (K 1) c; omega
  | 4, _, ⟨h1, h2, h3, h4, h5, h6⟩ =>
    refine ⟨by rw [h1]; exact b4 0 1 2 3 (K 0) (K 1) (K 2) (K 3), fun l c hl hc => ?_⟩
    match l, hl with
    | 0, _ => rw [h2 c hc]; exact b4 0 1 2 3 c (K 1) (K 2) (K 3)
    | 1, _ => rw [h3 c hc]; exact b4 0 1 2 3 (K 0) c (K 2) (K 3)
    | 2, _ => rw [h4 c hc]; exact b4 0 1 2 3 (K 0) (K 1) c (K 3)
    | 3, _ => rw [h5 c hc]; exact b4 0 1 2 3 (K 0) (K 1) (K 2) c
theorem minF_prop8 {R : List (List Int)} {K : Nat} (hK : K ≤ 5) (hRk : ∀ r ∈ R, r.length = K) (hB : ∀ r ∈ R, ∀ x ∈ r, x.natAbs ≤ 8) {f : Flow} (h : f ∈ minF R K K) :
    (∀ i, 0 ≤ f.2 i ∧ f.2 i ≤ 65536) ∧ (∀ r ∈ R, rowSum r ((List.range K).map f.2) = 0) ∧ ∃ i, i < K ∧ f.2 i ≠ 0 := minF_propG (fun h1 h2 h3 => h3.bd8 h1 h2) hK hRk hB h
end Go.AM.SN
namespace Go.AM.SN
open Go.Proofs Go.AM.SK
set_option linter.unusedSimpArgs false
set_option linter.unusedVariables false
end Go.AM.SN
set_option maxRecDepth 100000
namespace Go.AM.SQ
open Go.Proofs
def s33 : SFn := ⟨48, [.tmp 6],
 (.seq (.region [⟨(some 3), .box .dyn (.t 0), [], none⟩,
 ⟨(some 6), .mov (.c (.int .i64 0)), [], none⟩] [] [0, 6])
 (.seq (.region [⟨(some 14), .load (some 2) (.t 3), [], none⟩,
 ⟨(some 15), .mov (.t 1), [], none⟩,
 ⟨(some 16), .call .pure (.f 39) [(.t 14), (.t 15)], [0, 1], none⟩,
 ⟨(some 13), .mov (.t 16), [2], none⟩,
 ⟨(some 17), .extract 0 (.t 13), [3], none⟩,
 ⟨(some 18), .extract 1 (.t 13), [3], none⟩,
 ⟨(some 7), .alloc .dyn (.agg [(.int .i64 0), .nilsl]), [], none⟩,
 ⟨none, .store 2 (.t 7) (.t 17), [6, 4, 2, 0, 1, 2, 3, 4, 6], none⟩,
 ⟨(some 8), .mov (.t 18), [5, 7, 0, 1, 2, 3, 4, 5, 6, 7], none⟩] [] [1, 3, 14, 15, 16, 13, 17, 18])
 (.seq (.seq (.region [⟨(some 19), .mov (.t 8), [], none⟩,
 ⟨(some 20), .bin .neq (.t 19) (.c (.int .i64 0)), [0], none⟩] [] [19])
 (.cond (.t 20)
 (.seq (.region [⟨(some 21), .mov (.t 8), [], none⟩,
 ⟨(some 6), .mov (.t 21), [0, 0], none⟩] [] [2, 7, 8, 20, 21])
 .ret)
 .skip))
 (.seq (.seq (.region [⟨(some 22), .mov (.t 2), [], none⟩,
 ⟨(some 23), .len 1 (.t 22), [0], none⟩,
 ⟨(some 24), .mov (.c (.int .i64 0)), [], none⟩] [] [6, 8, 20])
 (.block 0 (.loop (.seq (.region [⟨(some 25), .bin .lss (.t 24) (.t 23), [], none⟩] [] [])
 (.seq (.cond (.t 25)
 .skip
 (.exit 0))
 (.seq (.block 1 (.seq (.region [⟨(some 26), .iaddr none 1 (.t 22) (.t 24), [], none⟩,
 ⟨(some 27), .load none (.t 26), [0], none⟩,
 ⟨(some 10), .mov (.t 27), [1, 0, 1], none⟩] [] [25, 26, 27])
 (.seq (.region [⟨(some 28), .mov (.t 10), [], none⟩,
 ⟨(some 29), .faddr 0 (.t 7), [], none⟩,
 ⟨(some 30), .load none (.t 29), [1], none⟩,
 ⟨(some 31), .call .pure (.f 47) [(.t 28), (.t 30)], [0, 2], none⟩,
 ⟨(some 11), .mov (.t 31), [3, 3, 0, 1, 2, 3], none⟩] [] [10, 28, 29, 30, 31])
 (.seq (.region [⟨(some 32), .mov (.t 11), [], none⟩,
 ⟨(some 33), .bin .neq (.t 32) (.c (.int .i64 0)), [0], none⟩] [] [32])
 (.cond (.t 33)
 (.seq (.region [⟨(some 34), .mov (.t 11), [], none⟩,
 ⟨(some 6), .mov (.t 34), [0, 0], none⟩] [] [2, 7, 22, 23, 24, 11, 33, 34])
 .ret)
 .skip)))))
 (.region [⟨(some 35), .bin .add (.t 24) (.c (.int .i64 1)), [], none⟩,
 ⟨(some 24), .mov (.t 35), [0], none⟩] [] [6, 11, 33, 35])))))))
 (.seq (.region [⟨(some 37), .load (some 2) (.t 7), [], none⟩,
 ⟨(some 38), .call .pure (.f 40) [(.t 37)], [0], none⟩,
 ⟨(some 36), .mov (.t 38), [1], none⟩,
 ⟨(some 39), .extract 0 (.t 36), [2], none⟩,
 ⟨(some 40), .extract 1 (.t 36), [2], none⟩,
 ⟨(some 12), .mov (.t 39), [3, 1, 0, 1, 2, 3], none⟩,
 ⟨(some 8), .mov (.t 40), [4, 5, 0, 1, 2, 3, 4, 5], none⟩] [] [7, 22, 23, 24, 37, 38, 36, 39, 40])
 (.seq (.seq (.region [⟨(some 41), .mov (.t 8), [], none⟩,
 ⟨(some 42), .bin .neq (.t 41) (.c (.int .i64 0)), [0], none⟩] [] [41])
 (.cond (.t 42)
 (.seq (.region [⟨(some 43), .mov (.t 8), [], none⟩,
 ⟨(some 6), .mov (.t 43), [0, 0], none⟩] [] [2, 12, 8, 42, 43])
 .ret)
 .skip))
 (.seq (.seq (.region [⟨(some 44), .mov (.t 2), [], none⟩,
 ⟨(some 45), .mov (.t 12), [], none⟩,
 ⟨(some 46), .call .pure (.f 51) [(.t 44), (.t 45), (.f 52)], [0, 1], none⟩,
 ⟨(some 47), .un .not (.t 46), [2], none⟩] [] [6, 2, 12, 8, 42, 44, 45, 46])
 (.cond (.t 47)
 (.seq (.region [⟨(some 6), .mov (.c (.int .i64 24)), [], none⟩] [] [47])
 .ret)
 .skip))
 (.seq (.region [⟨(some 6), .mov (.c (.int .i64 0)), [], none⟩] [] [47])
 .ret))))))))⟩
def s51 : SFn := ⟨32, [.tmp 6],
 (.seq (.region [⟨(some 6), .mov (.c (.bool false)), [], none⟩] [] [6])
 (.seq (.seq (.region [⟨(some 10), .mov (.t 0), [], none⟩,
 ⟨(some 11), .len 1 (.t 10), [0], none⟩,
 ⟨(some 12), .mov (.t 1), [], none⟩,
 ⟨(some 13), .len 1 (.t 12), [2], none⟩,
 ⟨(some 14), .bin .neq (.t 11) (.t 13), [1, 3], none⟩] [] [10, 11, 12, 13])
 (.cond (.t 14)
 (.seq (.region [⟨(some 6), .mov (.c (.bool false)), [], none⟩] [] [0, 1, 2, 14])
 .ret)
 .skip))
 (.seq (.seq (.region [⟨(some 15), .mov (.t 0), [], none⟩,
 ⟨(some 16), .len 1 (.t 15), [0], none⟩,
 ⟨(some 17), .mov (.c (.int .i64 0)), [], none⟩] [] [6, 0, 14])
 (.block 0 (.loop (.seq (.region [⟨(some 18), .bin .lss (.t 17) (.t 16), [], none⟩] [] [])
 (.seq (.cond (.t 18)
 .skip
 (.exit 0))
 (.seq (.block 1 (.seq (.region [⟨(some 19), .mov (.t 17), [], none⟩,
 ⟨(some 20), .iaddr none 1 (.t 15) (.t 17), [], none⟩,
 ⟨(some 21), .load none (.t 20), [1], none⟩,
 ⟨(some 7), .mov (.t 19), [0, 0, 1, 2], none⟩,
 ⟨(some 8), .mov (.t 21), [2, 3, 0, 1, 2, 3], none⟩] [] [18, 19, 20, 21])
 (.seq (.region [⟨(some 22), .mov (.t 1), [], none⟩,
 ⟨(some 23), .mov (.t 7), [], none⟩,
 ⟨(some 24), .iaddr none 1 (.t 22) (.t 23), [0, 1], none⟩,
 ⟨(some 25), .load none (.t 24), [2], none⟩,
 ⟨(some 9), .mov (.t 25), [3, 0, 1, 2, 3], none⟩] [] [7, 22, 23, 24, 25])
 (.seq (.region [⟨(some 26), .mov (.t 2), [], none⟩,
 ⟨(some 27), .mov (.t 8), [], none⟩,
 ⟨(some 28), .mov (.t 9), [], none⟩,
 ⟨(some 29), .call .pure (.t 26) [(.t 27), (.t 28)], [0, 1, 2], none⟩,
 ⟨(some 30), .un .not (.t 29), [3], none⟩] [] [8, 9, 26, 27, 28, 29])
 (.cond (.t 30)
 (.seq (.region [⟨(some 6), .mov (.c (.bool false)), [], none⟩] [] [1, 2, 15, 16, 17, 30])
 .ret)
 .skip)))))
 (.region [⟨(some 31), .bin .add (.t 17) (.c (.int .i64 1)), [], none⟩,
 ⟨(some 17), .mov (.t 31), [0], none⟩] [] [6, 30, 31])))))))
 (.seq (.region [⟨(some 6), .mov (.c (.bool true)), [], none⟩] [] [1, 2, 15, 16, 17])
 .ret))))⟩
def s52 : SFn := ⟨8, [.tmp 4],
 (.seq (.region [⟨(some 4), .mov (.c (.bool false)), [], none⟩] [] [4])
 (.seq (.region [⟨(some 5), .mov (.t 0), [], none⟩,
 ⟨(some 6), .mov (.t 1), [], none⟩,
 ⟨(some 7), .call .pure (.f 53) [(.t 5), (.t 6)], [0, 1], none⟩,
 ⟨(some 4), .mov (.t 7), [2, 2, 0, 1, 2], none⟩] [] [0, 1, 5, 6, 7])
 .ret))⟩
def s53 : SFn := ⟨26, [.tmp 4],
 (.seq (.region [⟨(some 4), .mov (.c (.bool false)), [], none⟩] [] [4])
 (.seq (.seq (.region [⟨(some 6), .mov (.t 0), [], none⟩,
 ⟨(some 7), .len 1 (.t 6), [0], none⟩,
 ⟨(some 8), .mov (.t 1), [], none⟩,
 ⟨(some 9), .len 1 (.t 8), [2], none⟩,
 ⟨(some 10), .bin .neq (.t 7) (.t 9), [1, 3], none⟩] [] [6, 7, 8, 9])
 (.cond (.t 10)
 (.seq (.region [⟨(some 4), .mov (.c (.bool false)), [], none⟩] [] [0, 1, 10])
 .ret)
 .skip))
 (.seq (.seq (.region [⟨(some 11), .mov (.t 0), [], none⟩,
 ⟨(some 12), .len 1 (.t 11), [0], none⟩,
 ⟨(some 13), .mov (.c (.int .i64 0)), [], none⟩] [] [4, 10, 11])
 (.block 0 (.loop (.seq (.region [⟨(some 14), .bin .lss (.t 13) (.t 12), [], none⟩] [] [])
 (.seq (.cond (.t 14)
 .skip
 (.exit 0))
 (.seq (.block 1 (.seq (.region [⟨(some 15), .mov (.t 13), [], none⟩,
 ⟨(some 5), .mov (.t 15), [0, 0], none⟩] [] [14, 15])
 (.seq (.region [⟨(some 16), .mov (.t 0), [], none⟩,
 ⟨(some 17), .mov (.t 5), [], none⟩,
 ⟨(some 18), .iaddr none 1 (.t 16) (.t 17), [0, 1], none⟩,
 ⟨(some 19), .load none (.t 18), [2], none⟩,
 ⟨(some 20), .mov (.t 1), [], none⟩,
 ⟨(some 21), .mov (.t 5), [], none⟩,
 ⟨(some 22), .iaddr none 1 (.t 20) (.t 21), [4, 5], none⟩,
 ⟨(some 23), .load none (.t 22), [6], none⟩,
 ⟨(some 24), .bin .neq (.t 19) (.t 23), [3, 7], none⟩] [] [5, 16, 17, 18, 19, 20, 21, 22, 23])
 (.cond (.t 24)
 (.seq (.region [⟨(some 4), .mov (.c (.bool false)), [], none⟩] [] [0, 1, 12, 13, 24])
 .ret)
 .skip))))
 (.region [⟨(some 25), .bin .add (.t 13) (.c (.int .i64 1)), [], none⟩,
 ⟨(some 13), .mov (.t 25), [0], none⟩] [] [4, 24, 25])))))))
 (.seq (.region [⟨(some 4), .mov (.c (.bool true)), [], none⟩] [] [0, 1, 12, 13])
 .ret))))⟩
theorem ok33 : okFn Try.prog 33 s33 = true := by kernel_rfl
theorem ok51 : okFn Try.prog 51 s51 = true := by kernel_rfl
theorem ok52 : okFn Try.prog 52 s52 = true := by kernel_rfl
theorem ok53 : okFn Try.prog 53 s53 = true := by kernel_rfl
end Go.AM.SQ
namespace Go.AM.SN
open Go.Proofs
set_option maxRecDepth 100000
set_option linter.unusedSimpArgs false
set_option linter.unusedVariables false
theorem equal53 (a b : List Int) (hl : a.length ≤ 1099511627776) : PSpec Try.prog 53 [sli a, sli b] (.bool (decide (a = b))) := by
  refine PSpec.of_flat 64 SQ.ok53 rfl (by simp [noRefs, noRef, noRefs_ints]) rfl ?_
  by_cases hab : a.length = b.length
  · simp (maxSteps := 1000000) (disch := first | omega | (simp only [lenW] <;> omega)) only [SQ.s53, hab, wordsN, Int.reduceGT, wordsR, ne_eq, words, Nat.reduceAdd, Nat.reduceEqDiff, Nat.reduceBEq, ↓reduceIte, reduceCtorEq, SX.exit.injEq, if_true, if_false, Int.reduceAdd, Int.reduceSub, Int.reduceMul, Int.reduceLT, Int.reduceLE, Int.reduceEq, Int.reduceNe, Int.reduceNeg, Int.reduceToNat, Nat.reduceMul, Nat.reduceLT, Nat.reduceSub, Nat.reduceLeDiff]
    refine wS_loopR 100 (fun i : Nat => [(0, sli a), (1, sli b), (12, .int .i64 a.length), (13, .int .i64 i)]) (fun _ => []) (fun i => i ≤ a.length ∧ ∀ j, j < i → a[j]? = b[j]?) (fun i => a.length - i) 0 ?_ ⟨Nat.zero_le _, fun j hj => absurd hj (Nat.not_lt_zero _)⟩ ?_
    · rw [hab]; exact ⟨[], rfl, (by repeat (first | exact RO.zero | exact RO.e | refine RO.set rfl ?_)), (by repeat' (first | exact RB.nil | (refine RnL.same ?_; first | rfl | (simp only [noRef, noRefs, noRefs_append, Bool.and_self, Bool.and_true, Bool.true_and, noRefs_ints, noRefs_lsts, noRefs_pad, noRefs_tnC, noRefs_arcC, noRefs_rowF]; done)) | exact RnM.keyM rfl | exact RnL.nil | refine RnL.cons ?_ ?_ | (refine Rn.same ?_; first | rfl | (simp only [noRef, noRefs, noRefs_append, Bool.and_self, Bool.and_true, Bool.true_and, noRefs_ints, noRefs_lsts, noRefs_pad, noRefs_tnC, noRefs_arcC, noRefs_rowF]; done)) | exact Rn.x1 rfl rfl | exact Rn.x2 rfl rfl | exact Rn.x3 rfl rfl | exact Rn.x4 rfl rfl | exact Rn.x5 rfl | exact Rn.x6 rfl | exact Rn.x7 rfl | refine RB.newnil rfl rfl ?_ | refine RB.cells rfl rfl rfl ?_ ?_ | refine RB.map rfl rfl rfl ?_ ?_ | refine RB.cellsB rfl rfl ?_ ?_ | refine RB.mapB rfl rfl ?_ ?_)), (by repeat (first | exact RT.nil | (refine RT.cons ?_ ?_; · (first | exact Rn.any | exact Rn.x1 rfl rfl | exact Rn.x2 rfl rfl | exact Rn.x3 rfl rfl | exact Rn.x4 rfl rfl | exact Rn.x5 rfl | exact Rn.x6 rfl | exact Rn.x7 rfl | (refine Rn.slot ?_ ?_; (first | rfl | (rw [Int.natCast_add]; rfl)); (first | rfl | (simp only [noRef, noRefs, noRefs_append, Bool.and_self, Bool.and_true, Bool.true_and, noRefs_ints, noRefs_lsts, noRefs_pad, noRefs_tnC, noRefs_arcC, noRefs_rowF]; done))) | (refine Rn.fn ?_ ?_ <;> (repeat' (first | exact RnL.nil | refine RnL.cons ?_ ?_ | exact Rn.same rfl | exact Rn.x6 rfl | exact Rn.x2 rfl rfl | exact Rn.x5 rfl | exact Rn.x1 rfl rfl)))))))⟩
    rintro i ⟨hi, hb⟩
    by_cases hlt : i < a.length
    · obtain ⟨x, hx⟩ := get_ex hlt
      obtain ⟨y, hy⟩ := get_ex (l := b) (i := i) (by omega)
      have hlt2 : i < b.length := by omega
      by_cases h0 : x = y
      · simp (maxSteps := 1000000) (disch := first | omega | (simp only [lenW] <;> omega)) only [hlt, hlt2, head_ints hx, head_ints hy, h0, wordsN, Int.reduceGT, wordsR, ne_eq, words, Nat.reduceAdd, Nat.reduceEqDiff, Nat.reduceBEq, ↓reduceIte, reduceCtorEq, SX.exit.injEq, if_true, if_false, Int.reduceAdd, Int.reduceSub, Int.reduceMul, Int.reduceLT, Int.reduceLE, Int.reduceEq, Int.reduceNe, Int.reduceNeg, Int.reduceToNat, Nat.reduceMul, Nat.reduceLT, Nat.reduceSub, Nat.reduceLeDiff]
        refine ⟨i + 1, by omega, ⟨by omega, fun j hj => ?_⟩, ⟨[], rfl, (by repeat (first | exact RO.zero | exact RO.e | refine RO.set rfl ?_)), (by repeat' (first | exact RB.nil | (refine RnL.same ?_; first | rfl | (simp only [noRef, noRefs, noRefs_append, Bool.and_self, Bool.and_true, Bool.true_and, noRefs_ints, noRefs_lsts, noRefs_pad, noRefs_tnC, noRefs_arcC, noRefs_rowF]; done)) | exact RnM.keyM rfl | exact RnL.nil | refine RnL.cons ?_ ?_ | (refine Rn.same ?_; first | rfl | (simp only [noRef, noRefs, noRefs_append, Bool.and_self, Bool.and_true, Bool.true_and, noRefs_ints, noRefs_lsts, noRefs_pad, noRefs_tnC, noRefs_arcC, noRefs_rowF]; done)) | exact Rn.x1 rfl rfl | exact Rn.x2 rfl rfl | exact Rn.x3 rfl rfl | exact Rn.x4 rfl rfl | exact Rn.x5 rfl | exact Rn.x6 rfl | exact Rn.x7 rfl | refine RB.newnil rfl rfl ?_ | refine RB.cells rfl rfl rfl ?_ ?_ | refine RB.map rfl rfl rfl ?_ ?_ | refine RB.cellsB rfl rfl ?_ ?_ | refine RB.mapB rfl rfl ?_ ?_)), (by repeat (first | exact RT.nil | (refine RT.cons ?_ ?_; · (first | exact Rn.any | exact Rn.x1 rfl rfl | exact Rn.x2 rfl rfl | exact Rn.x3 rfl rfl | exact Rn.x4 rfl rfl | exact Rn.x5 rfl | exact Rn.x6 rfl | exact Rn.x7 rfl | (refine Rn.slot ?_ ?_; (first | rfl | (rw [Int.natCast_add]; rfl)); (first | rfl | (simp only [noRef, noRefs, noRefs_append, Bool.and_self, Bool.and_true, Bool.true_and, noRefs_ints, noRefs_lsts, noRefs_pad, noRefs_tnC, noRefs_arcC, noRefs_rowF]; done))) | (refine Rn.fn ?_ ?_ <;> (repeat' (first | exact RnL.nil | refine RnL.cons ?_ ?_ | exact Rn.same rfl | exact Rn.x6 rfl | exact Rn.x2 rfl rfl | exact Rn.x5 rfl | exact Rn.x1 rfl rfl)))))))⟩⟩
        by_cases e : j = i
        · subst e; rw [hx, hy, h0]
        · exact hb j (by omega)
      · simp (maxSteps := 1000000) (disch := first | omega | (simp only [lenW] <;> omega)) only [hlt, hlt2, head_ints hx, head_ints hy, h0, wordsN, Int.reduceGT, wordsR, ne_eq, words, Nat.reduceAdd, Nat.reduceEqDiff, Nat.reduceBEq, ↓reduceIte, reduceCtorEq, SX.exit.injEq, if_true, if_false, Int.reduceAdd, Int.reduceSub, Int.reduceMul, Int.reduceLT, Int.reduceLE, Int.reduceEq, Int.reduceNe, Int.reduceNeg, Int.reduceToNat, Nat.reduceMul, Nat.reduceLT, Nat.reduceSub, Nat.reduceLeDiff]
        refine ⟨.inr trivial, _, rfl, ?_⟩
        have : a ≠ b := fun e => by subst e; rw [hx] at hy; cases hy; exact h0 rfl
        simp [resOf, lk_cons, this]
    · have : a = b := List.ext_getElem? fun j => by
        by_cases hj : j < i
        · exact hb j hj
        · rw [List.getElem?_eq_none (by omega), List.getElem?_eq_none (by omega)]
      simp (maxSteps := 1000000) (disch := first | omega | (simp only [lenW] <;> omega)) only [hlt, wordsN, Int.reduceGT, wordsR, ne_eq, words, Nat.reduceAdd, Nat.reduceEqDiff, Nat.reduceBEq, ↓reduceIte, reduceCtorEq, SX.exit.injEq, if_true, if_false, Int.reduceAdd, Int.reduceSub, Int.reduceMul, Int.reduceLT, Int.reduceLE, Int.reduceEq, Int.reduceNe, Int.reduceNeg, Int.reduceToNat, Nat.reduceMul, Nat.reduceLT, Nat.reduceSub, Nat.reduceLeDiff]
      exact ⟨.inr trivial, _, rfl, by simp [resOf, lk_cons, this]⟩
  · simp (maxSteps := 1000000) (disch := first | omega | (simp only [lenW] <;> omega)) only [SQ.s53, hab, wordsN, Int.reduceGT, wordsR, ne_eq, words, Nat.reduceAdd, Nat.reduceEqDiff, Nat.reduceBEq, ↓reduceIte, reduceCtorEq, SX.exit.injEq, if_true, if_false, Int.reduceAdd, Int.reduceSub, Int.reduceMul, Int.reduceLT, Int.reduceLE, Int.reduceEq, Int.reduceNe, Int.reduceNeg, Int.reduceToNat, Nat.reduceMul, Nat.reduceLT, Nat.reduceSub, Nat.reduceLeDiff]
    have : a ≠ b := fun e => hab (by rw [e])
    exact ⟨.inr trivial, _, rfl, by simp [resOf, lk_cons, this]⟩
theorem equal52 (a b : List Int) (hl : a.length ≤ 1099511627776) : PSpec Try.prog 52 [sli a, sli b] (.bool (decide (a = b))) := by
  refine PSpec.of_flat 64 SQ.ok52 rfl (by simp [noRefs, noRef, noRefs_ints]) rfl ?_
  simp (maxSteps := 1000000) (disch := first | omega | (simp only [lenW] <;> omega)) only [SQ.s52, wordsN, Int.reduceGT, wordsR, ne_eq, words, Nat.reduceAdd, Nat.reduceEqDiff, Nat.reduceBEq, ↓reduceIte, reduceCtorEq, SX.exit.injEq, if_true, if_false, Int.reduceAdd, Int.reduceSub, Int.reduceMul, Int.reduceLT, Int.reduceLE, Int.reduceEq, Int.reduceNe, Int.reduceNeg, Int.reduceToNat, Nat.reduceMul, Nat.reduceLT, Nat.reduceSub, Nat.reduceLeDiff]
  refine cp (equal53 a b hl) ?_
  simp (maxSteps := 1000000) (disch := first | omega | (simp only [lenW] <;> omega)) only [wordsN, Int.reduceGT, wordsR, ne_eq, words, Nat.reduceAdd, Nat.reduceEqDiff, Nat.reduceBEq, ↓reduceIte, reduceCtorEq, SX.exit.injEq, if_true, if_false, Int.reduceAdd, Int.reduceSub, Int.reduceMul, Int.reduceLT, Int.reduceLE, Int.reduceEq, Int.reduceNe, Int.reduceNeg, Int.reduceToNat, Nat.reduceMul, Nat.reduceLT, Nat.reduceSub, Nat.reduceLeDiff]
  exact ⟨.inr trivial, _, rfl, rfl⟩
theorem equal51 (a b : List (List Int)) (hl : a.length ≤ 1099511627776) (hla : ∀ x ∈ a, x.length ≤ 1099511627776) : PSpec Try.prog 51 [lsts a, lsts b, .fn 52 [] []] (.bool (decide (a = b))) := by
  refine PSpec.of_flat 64 SQ.ok51 rfl (by simp [noRefs, noRef, noRefs_lsts]) rfl ?_
  by_cases hab : a.length = b.length
  · simp (maxSteps := 1000000) (disch := first | omega | (simp only [lenW] <;> omega)) only [SQ.s51, hab, wordsN, Int.reduceGT, wordsR, ne_eq, words, Nat.reduceAdd, Nat.reduceEqDiff, Nat.reduceBEq, ↓reduceIte, reduceCtorEq, SX.exit.injEq, if_true, if_false, Int.reduceAdd, Int.reduceSub, Int.reduceMul, Int.reduceLT, Int.reduceLE, Int.reduceEq, Int.reduceNe, Int.reduceNeg, Int.reduceToNat, Nat.reduceMul, Nat.reduceLT, Nat.reduceSub, Nat.reduceLeDiff]
    refine wS_loopR 100 (fun i : Nat => [(1, lsts b), (2, .fn 52 [] []), (15, lsts a), (16, .int .i64 a.length), (17, .int .i64 i)]) (fun _ => []) (fun i => i ≤ a.length ∧ ∀ j, j < i → a[j]? = b[j]?) (fun i => a.length - i) 0 ?_ ⟨Nat.zero_le _, fun j hj => absurd hj (Nat.not_lt_zero _)⟩ ?_
    · rw [hab]; exact ⟨[], rfl, (by repeat (first | exact RO.zero | exact RO.e | refine RO.set rfl ?_)), (by repeat' (first | exact RB.nil | (refine RnL.same ?_; first | rfl | (simp only [noRef, noRefs, noRefs_append, Bool.and_self, Bool.and_true, Bool.true_and, noRefs_ints, noRefs_lsts, noRefs_pad, noRefs_tnC, noRefs_arcC, noRefs_rowF]; done)) | exact RnM.keyM rfl | exact RnL.nil | refine RnL.cons ?_ ?_ | (refine Rn.same ?_; first | rfl | (simp only [noRef, noRefs, noRefs_append, Bool.and_self, Bool.and_true, Bool.true_and, noRefs_ints, noRefs_lsts, noRefs_pad, noRefs_tnC, noRefs_arcC, noRefs_rowF]; done)) | exact Rn.x1 rfl rfl | exact Rn.x2 rfl rfl | exact Rn.x3 rfl rfl | exact Rn.x4 rfl rfl | exact Rn.x5 rfl | exact Rn.x6 rfl | exact Rn.x7 rfl | refine RB.newnil rfl rfl ?_ | refine RB.cells rfl rfl rfl ?_ ?_ | refine RB.map rfl rfl rfl ?_ ?_ | refine RB.cellsB rfl rfl ?_ ?_ | refine RB.mapB rfl rfl ?_ ?_)), (by repeat (first | exact RT.nil | (refine RT.cons ?_ ?_; · (first | exact Rn.any | exact Rn.x1 rfl rfl | exact Rn.x2 rfl rfl | exact Rn.x3 rfl rfl | exact Rn.x4 rfl rfl | exact Rn.x5 rfl | exact Rn.x6 rfl | exact Rn.x7 rfl | (refine Rn.slot ?_ ?_; (first | rfl | (rw [Int.natCast_add]; rfl)); (first | rfl | (simp only [noRef, noRefs, noRefs_append, Bool.and_self, Bool.and_true, Bool.true_and, noRefs_ints, noRefs_lsts, noRefs_pad, noRefs_tnC, noRefs_arcC, noRefs_rowF]; done))) | (refine Rn.fn ?_ ?_ <;> (repeat' (first | exact RnL.nil | refine RnL.cons ?_ ?_ | exact Rn.same rfl | exact Rn.x6 rfl | exact Rn.x2 rfl rfl | exact Rn.x5 rfl | exact Rn.x1 rfl rfl)))))))⟩
    rintro i ⟨hi, hb⟩
    by_cases hlt : i < a.length
    · obtain ⟨x, hx⟩ := get_ex hlt
      obtain ⟨y, hy⟩ := get_ex (l := b) (i := i) (by omega)
      have hlt2 : i < b.length := by omega
      simp (maxSteps := 1000000) (disch := first | omega | (simp only [lenW] <;> omega)) only [hlt, hlt2, head_lsts hx, head_lsts hy, wordsN, Int.reduceGT, wordsR, ne_eq, words, Nat.reduceAdd, Nat.reduceEqDiff, Nat.reduceBEq, ↓reduceIte, reduceCtorEq, SX.exit.injEq, if_true, if_false, Int.reduceAdd, Int.reduceSub, Int.reduceMul, Int.reduceLT, Int.reduceLE, Int.reduceEq, Int.reduceNe, Int.reduceNeg, Int.reduceToNat, Nat.reduceMul, Nat.reduceLT, Nat.reduceSub, Nat.reduceLeDiff]
      refine cp (equal52 x y (hla x (List.mem_of_getElem? hx))) ?_
      by_cases h0 : x = y
      · simp (maxSteps := 1000000) (disch := first | omega | (simp only [lenW] <;> omega)) only [h0, wordsN, Int.reduceGT, wordsR, ne_eq, words, Nat.reduceAdd, Nat.reduceEqDiff, Nat.reduceBEq, ↓reduceIte, reduceCtorEq, SX.exit.injEq, if_true, if_false, Int.reduceAdd, Int.reduceSub, Int.reduceMul, Int.reduceLT, Int.reduceLE, Int.reduceEq, Int.reduceNe, Int.reduceNeg, Int.reduceToNat, Nat.reduceMul, Nat.reduceLT, Nat.reduceSub, Nat.reduceLeDiff]
        refine ⟨i + 1, by omega, ⟨by omega, fun j hj => ?_⟩, ⟨[], rfl, (by repeat (first | exact RO.zero | exact RO.e | refine RO.set rfl ?_)), (by repeat' (first | exact RB.nil | (refine RnL.same ?_; first | rfl | (simp only [noRef, noRefs, noRefs_append, Bool.and_self, Bool.and_true, Bool.true_and, noRefs_ints, noRefs_lsts, noRefs_pad, noRefs_tnC, noRefs_arcC, noRefs_rowF]; done)) | exact RnM.keyM rfl | exact RnL.nil | refine RnL.cons ?_ ?_ | (refine Rn.same ?_; first | rfl | (simp only [noRef, noRefs, noRefs_append, Bool.and_self, Bool.and_true, Bool.true_and, noRefs_ints, noRefs_lsts, noRefs_pad, noRefs_tnC, noRefs_arcC, noRefs_rowF]; done)) | exact Rn.x1 rfl rfl | exact Rn.x2 rfl rfl | exact Rn.x3 rfl rfl | exact Rn.x4 rfl rfl | exact Rn.x5 rfl | exact Rn.x6 rfl | exact Rn.x7 rfl | refine RB.newnil rfl rfl ?_ | refine RB.cells rfl rfl rfl ?_ ?_ | refine RB.map rfl rfl rfl ?_ ?_ | refine RB.cellsB rfl rfl ?_ ?_ | refine RB.mapB rfl rfl ?_ ?_)), (by repeat (first | exact RT.nil | (refine RT.cons ?_ ?_; · (first | exact Rn.any | exact Rn.x1 rfl rfl | exact Rn.x2 rfl rfl | exact Rn.x3 rfl rfl | exact Rn.x4 rfl rfl | exact Rn.x5 rfl | exact Rn.x6 rfl | exact Rn.x7 rfl | (refine Rn.slot ?_ ?_; (first | rfl | (rw [Int.natCast_add]; rfl)); (first | rfl | (simp only [noRef, noRefs, noRefs_append, Bool.and_self, Bool.and_true, Bool.true_and, noRefs_ints, noRefs_lsts, noRefs_pad, noRefs_tnC, noRefs_arcC, noRefs_rowF]; done))) | (refine Rn.fn ?_ ?_ <;> (repeat' (first | exact RnL.nil | refine RnL.cons ?_ ?_ | exact Rn.same rfl | exact Rn.x6 rfl | exact Rn.x2 rfl rfl | exact Rn.x5 rfl | exact Rn.x1 rfl rfl)))))))⟩⟩
        by_cases e : j = i
        · subst e; rw [hx, hy, h0]
        · exact hb j (by omega)
      · simp (maxSteps := 1000000) (disch := first | omega | (simp only [lenW] <;> omega)) only [h0, wordsN, Int.reduceGT, wordsR, ne_eq, words, Nat.reduceAdd, Nat.reduceEqDiff, Nat.reduceBEq, ↓reduceIte, reduceCtorEq, SX.exit.injEq, if_true, if_false, Int.reduceAdd, Int.reduceSub, Int.reduceMul, Int.reduceLT, Int.reduceLE, Int.reduceEq, Int.reduceNe, Int.reduceNeg, Int.reduceToNat, Nat.reduceMul, Nat.reduceLT, Nat.reduceSub, Nat.reduceLeDiff]
        refine ⟨.inr trivial, _, rfl, ?_⟩
        have : a ≠ b := fun e => by subst e; rw [hx] at hy; cases hy; exact h0 rfl
        simp [resOf, lk_cons, this]
    · have : a = b := List.ext_getElem? fun j => by
        by_cases hj : j < i
        · exact hb j hj
        · rw [List.getElem?_eq_none (by omega), List.getElem?_eq_none (by omega)]
      simp (maxSteps := 1000000) (disch := first | omega | (simp only [lenW] <;> omega)) only [hlt, wordsN, Int.reduceGT, wordsR, ne_eq, words, Nat.reduceAdd, Nat.reduceEqDiff, Nat.reduceBEq, ↓reduceIte, reduceCtorEq, SX.exit.injEq, if_true, if_false, Int.reduceAdd, Int.reduceSub, Int.reduceMul, Int.reduceLT, Int.reduceLE, Int.reduceEq, Int.reduceNe, Int.reduceNeg, Int.reduceToNat, Nat.reduceMul, Nat.reduceLT, Nat.reduceSub, Nat.reduceLeDiff]
      exact ⟨.inr trivial, _, rfl, by simp [resOf, lk_cons, this]⟩
  · simp (maxSteps := 1000000) (disch := first | omega | (simp only [lenW] <;> omega)) only [SQ.s51, hab, wordsN, Int.reduceGT, wordsR, ne_eq, words, Nat.reduceAdd, Nat.reduceEqDiff, Nat.reduceBEq, ↓reduceIte, reduceCtorEq, SX.exit.injEq, if_true, if_false, Int.reduceAdd, Int.reduceSub, Int.reduceMul, Int.reduceLT, Int.reduceLE, Int.reduceEq, Int.reduceNe, Int.reduceNeg, Int.reduceToNat, Nat.reduceMul, Nat.reduceLT, Nat.reduceSub, Nat.reduceLeDiff]
    have : a ≠ b := fun e => hab (by rw [e])
    exact ⟨.inr trivial, _, rfl, by simp [resOf, lk_cons, this]⟩
def fstErr (K : Nat) : List (List Int) → Int
  | [] => 0
  | w :: l => if wErr w K = 0 then fstErr K l else wErr w K
theorem fstErr_at {K : Nat} : ∀ {l : List (List Int)} {i : Nat} {w : List Int}, l[i]? = some w → (∀ (j : Nat) y, j < i → l[j]? = some y → wErr y K = 0) → wErr w K ≠ 0 → fstErr K l = wErr w K
  | [], i, w, h, _, _ => by simp at h
  | a :: l, 0, w, h, _, hw => by simp at h; subst h; simp [fstErr, hw]
  | a :: l, i + 1, w, h, hb, hw => by
    have h0 := hb 0 a (by omega) rfl
    rw [fstErr, if_pos h0]
    exact fstErr_at (by simpa using h) (fun j y hj hy => hb (j + 1) y (by omega) (by simpa using hy)) hw
theorem fstErr_ok {K : Nat} : ∀ {l : List (List Int)}, (∀ (j : Nat) y, l[j]? = some y → wErr y K = 0) → fstErr K l = 0
  | [], _ => rfl
  | a :: l, hb => by
    rw [fstErr, if_pos (hb 0 a rfl)]
    exact fstErr_ok fun j y hy => hb (j + 1) y (by simpa using hy)
def verR (K : Nat) (M l : List (List Int)) : Int := if fstErr K l = 0 then (if l = M then 0 else 24) else fstErr K l
set_option maxHeartbeats 8000000 in
theorem VerifyT (x : Nt) (kind : Int) (K : Nat) (R : List (List Int)) (hT : PSpec Try.prog 39 [netV x, .int .i64 kind] (.tup [tabV K R, .int .i64 0]))
    (hK : K ≤ 5) (hR : R.length ≤ 100) (hRk : ∀ r ∈ R, r.length = K) (hRb : ∀ r ∈ R, ∀ x ∈ r, -8 ≤ x ∧ x ≤ 8) (hW : ∀ f ∈ minF R K K, ∀ i, i < K → f.2 i ≤ 65536)
    (l : List (List Int)) (hl : l.length ≤ 1000000) (hll : ∀ w ∈ l, w.length ≤ 1000000) :
    PSpec Try.prog 33 [netV x, .int .i64 kind, lsts l] (.int .i64 (verR K (minL R K) l)) := by
  refine PSpec.of_rn 64 SQ.ok33 rfl (by rw [noRefs, noRef_net]; simp only [noRefs, noRef, noRefs_lsts]; rfl) rfl ?_
  have hli := listedP K R hK hR hRk hRb hW
  have hK0 : K ≤ 1099511627776 := by omega
  simp (maxSteps := 1000000) (disch := first | omega | (simp only [lenW] <;> omega)) only [SQ.s33, wordsN, Int.reduceGT, wordsR, ne_eq, words, Nat.reduceAdd, Nat.reduceEqDiff, Nat.reduceBEq, ↓reduceIte, reduceCtorEq, SX.exit.injEq, if_true, if_false, Int.reduceAdd, Int.reduceSub, Int.reduceMul, Int.reduceLT, Int.reduceLE, Int.reduceEq, Int.reduceNe, Int.reduceNeg, Int.reduceToNat, Nat.reduceMul, Nat.reduceLT, Nat.reduceSub, Nat.reduceLeDiff]
  refine cp hT ?_
  simp (maxSteps := 1000000) (disch := first | omega | (simp only [lenW] <;> omega)) only [wordsN, Int.reduceGT, wordsR, ne_eq, words, Nat.reduceAdd, Nat.reduceEqDiff, Nat.reduceBEq, ↓reduceIte, reduceCtorEq, SX.exit.injEq, if_true, if_false, Int.reduceAdd, Int.reduceSub, Int.reduceMul, Int.reduceLT, Int.reduceLE, Int.reduceEq, Int.reduceNe, Int.reduceNeg, Int.reduceToNat, Nat.reduceMul, Nat.reduceLT, Nat.reduceSub, Nat.reduceLeDiff]
  refine wS_loopX 100 (fun i : Nat => [(2, lsts l), (7, .ptr 51 0 0), (22, lsts l), (23, .int .i64 l.length), (24, .int .i64 i)]) (fun _ => [(51, .cells 0 [.int .i64 K, .fsl (R.flatMap pad) R.length 10])])
    (fun i => i ≤ l.length ∧ ∀ (j : Nat) y, j < i → l[j]? = some y → wErr y K = 0) (fun i => l.length - i) 0 0 200 (fun _ : Unit => [(2, lsts l), (7, .ptr 51 0 0)]) (fun _ => [(51, .cells 0 [.int .i64 K, .fsl (R.flatMap pad) R.length 10])]) (fun _ => fstErr K l = 0)
    ?_ ⟨Nat.zero_le _, fun j y hj => absurd hj (Nat.not_lt_zero _)⟩ ?_ ?_
  · exact ⟨[(51, .blk 72 0)], rfl, (by repeat (first | exact RO.zero | exact RO.e | refine RO.set rfl ?_)), (by repeat' (first | exact RB.nil | (refine RnL.same ?_; first | rfl | (simp only [noRef, noRefs, noRefs_append, Bool.and_self, Bool.and_true, Bool.true_and, noRefs_ints, noRefs_lsts, noRefs_pad, noRefs_tnC, noRefs_arcC, noRefs_rowF]; done)) | exact RnM.keyM rfl | exact RnL.nil | refine RnL.cons ?_ ?_ | (refine Rn.same ?_; first | rfl | (simp only [noRef, noRefs, noRefs_append, Bool.and_self, Bool.and_true, Bool.true_and, noRefs_ints, noRefs_lsts, noRefs_pad, noRefs_tnC, noRefs_arcC, noRefs_rowF]; done)) | exact Rn.x1 rfl rfl | exact Rn.x2 rfl rfl | exact Rn.x3 rfl rfl | exact Rn.x4 rfl rfl | exact Rn.x5 rfl | exact Rn.x6 rfl | exact Rn.x7 rfl | refine RB.newnil rfl rfl ?_ | refine RB.cells rfl rfl rfl ?_ ?_ | refine RB.map rfl rfl rfl ?_ ?_ | refine RB.cellsB rfl rfl ?_ ?_ | refine RB.mapB rfl rfl ?_ ?_)), (by repeat (first | exact RT.nil | (refine RT.cons ?_ ?_; · (first | exact Rn.any | exact Rn.x1 rfl rfl | exact Rn.x2 rfl rfl | exact Rn.x3 rfl rfl | exact Rn.x4 rfl rfl | exact Rn.x5 rfl | exact Rn.x6 rfl | exact Rn.x7 rfl | (refine Rn.slot ?_ ?_; (first | rfl | (rw [Int.natCast_add]; rfl)); (first | rfl | (simp only [noRef, noRefs, noRefs_append, Bool.and_self, Bool.and_true, Bool.true_and, noRefs_ints, noRefs_lsts, noRefs_pad, noRefs_tnC, noRefs_arcC, noRefs_rowF]; done))) | (refine Rn.fn ?_ ?_ <;> (repeat' (first | exact RnL.nil | refine RnL.cons ?_ ?_ | exact Rn.same rfl | exact Rn.x6 rfl | exact Rn.x2 rfl rfl | exact Rn.x5 rfl | exact Rn.x1 rfl rfl)))))))⟩
  · rintro i ⟨hi, hb⟩
    by_cases hlt : i < l.length
    · obtain ⟨w, hw⟩ := get_ex hlt
      have hwl := hll w (List.mem_of_getElem? hw)
      simp (maxSteps := 1000000) (disch := first | omega | (simp only [lenW] <;> omega)) only [hlt, head_lsts hw, wordsN, Int.reduceGT, wordsR, ne_eq, words, Nat.reduceAdd, Nat.reduceEqDiff, Nat.reduceBEq, ↓reduceIte, reduceCtorEq, SX.exit.injEq, if_true, if_false, Int.reduceAdd, Int.reduceSub, Int.reduceMul, Int.reduceLT, Int.reduceLE, Int.reduceEq, Int.reduceNe, Int.reduceNeg, Int.reduceToNat, Nat.reduceMul, Nat.reduceLT, Nat.reduceSub, Nat.reduceLeDiff]
      refine cp (weighG w K (by omega) hK0) ?_
      by_cases h0 : wErr w K = 0
      · simp (maxSteps := 1000000) (disch := first | omega | (simp only [lenW] <;> omega)) only [h0, wordsN, Int.reduceGT, wordsR, ne_eq, words, Nat.reduceAdd, Nat.reduceEqDiff, Nat.reduceBEq, ↓reduceIte, reduceCtorEq, SX.exit.injEq, if_true, if_false, Int.reduceAdd, Int.reduceSub, Int.reduceMul, Int.reduceLT, Int.reduceLE, Int.reduceEq, Int.reduceNe, Int.reduceNeg, Int.reduceToNat, Nat.reduceMul, Nat.reduceLT, Nat.reduceSub, Nat.reduceLeDiff]
        refine ⟨i + 1, by omega, ⟨by omega, fun j y hj hy => ?_⟩, ⟨[(51, .blk 51 0)], rfl, (by repeat (first | exact RO.zero | exact RO.e | refine RO.set rfl ?_)), (by repeat' (first | exact RB.nil | (refine RnL.same ?_; first | rfl | (simp only [noRef, noRefs, noRefs_append, Bool.and_self, Bool.and_true, Bool.true_and, noRefs_ints, noRefs_lsts, noRefs_pad, noRefs_tnC, noRefs_arcC, noRefs_rowF]; done)) | exact RnM.keyM rfl | exact RnL.nil | refine RnL.cons ?_ ?_ | (refine Rn.same ?_; first | rfl | (simp only [noRef, noRefs, noRefs_append, Bool.and_self, Bool.and_true, Bool.true_and, noRefs_ints, noRefs_lsts, noRefs_pad, noRefs_tnC, noRefs_arcC, noRefs_rowF]; done)) | exact Rn.x1 rfl rfl | exact Rn.x2 rfl rfl | exact Rn.x3 rfl rfl | exact Rn.x4 rfl rfl | exact Rn.x5 rfl | exact Rn.x6 rfl | exact Rn.x7 rfl | refine RB.newnil rfl rfl ?_ | refine RB.cells rfl rfl rfl ?_ ?_ | refine RB.map rfl rfl rfl ?_ ?_ | refine RB.cellsB rfl rfl ?_ ?_ | refine RB.mapB rfl rfl ?_ ?_)), (by repeat (first | exact RT.nil | (refine RT.cons ?_ ?_; · (first | exact Rn.any | exact Rn.x1 rfl rfl | exact Rn.x2 rfl rfl | exact Rn.x3 rfl rfl | exact Rn.x4 rfl rfl | exact Rn.x5 rfl | exact Rn.x6 rfl | exact Rn.x7 rfl | (refine Rn.slot ?_ ?_; (first | rfl | (rw [Int.natCast_add]; rfl)); (first | rfl | (simp only [noRef, noRefs, noRefs_append, Bool.and_self, Bool.and_true, Bool.true_and, noRefs_ints, noRefs_lsts, noRefs_pad, noRefs_tnC, noRefs_arcC, noRefs_rowF]; done))) | (refine Rn.fn ?_ ?_ <;> (repeat' (first | exact RnL.nil | refine RnL.cons ?_ ?_ | exact Rn.same rfl | exact Rn.x6 rfl | exact Rn.x2 rfl rfl | exact Rn.x5 rfl | exact Rn.x1 rfl rfl)))))))⟩⟩
        by_cases e : j = i
        · subst e; rw [hw] at hy; cases hy; exact h0
        · exact hb j y (by omega) hy
      · have hv : verR K (minL R K) l = wErr w K := by
          have h1 := fstErr_at hw hb h0
          unfold verR; rw [h1, if_neg h0]
        simp (maxSteps := 1000000) (disch := first | omega | (simp only [lenW] <;> omega)) only [h0, wordsN, Int.reduceGT, wordsR, ne_eq, words, Nat.reduceAdd, Nat.reduceEqDiff, Nat.reduceBEq, ↓reduceIte, reduceCtorEq, SX.exit.injEq, if_true, if_false, Int.reduceAdd, Int.reduceSub, Int.reduceMul, Int.reduceLT, Int.reduceLE, Int.reduceEq, Int.reduceNe, Int.reduceNeg, Int.reduceToNat, Nat.reduceMul, Nat.reduceLT, Nat.reduceSub, Nat.reduceLeDiff]
        refine ⟨.inr trivial, _, rfl, ?_⟩
        rw [hv]; exact Rn.same rfl
    · have e : i = l.length := by omega
      simp (maxSteps := 1000000) (disch := first | omega | (simp only [lenW] <;> omega)) only [hlt, wordsN, Int.reduceGT, wordsR, ne_eq, words, Nat.reduceAdd, Nat.reduceEqDiff, Nat.reduceBEq, ↓reduceIte, reduceCtorEq, SX.exit.injEq, if_true, if_false, Int.reduceAdd, Int.reduceSub, Int.reduceMul, Int.reduceLT, Int.reduceLE, Int.reduceEq, Int.reduceNe, Int.reduceNeg, Int.reduceToNat, Nat.reduceMul, Nat.reduceLT, Nat.reduceSub, Nat.reduceLeDiff]
      exact ⟨(), fstErr_ok fun j y hy => hb j y (by have := (List.getElem?_eq_some_iff.1 hy).1; omega) hy, ⟨[(51, .blk 51 0)], rfl, (by repeat (first | exact RO.zero | exact RO.e | refine RO.set rfl ?_)), (by repeat' (first | exact RB.nil | (refine RnL.same ?_; first | rfl | (simp only [noRef, noRefs, noRefs_append, Bool.and_self, Bool.and_true, Bool.true_and, noRefs_ints, noRefs_lsts, noRefs_pad, noRefs_tnC, noRefs_arcC, noRefs_rowF]; done)) | exact RnM.keyM rfl | exact RnL.nil | refine RnL.cons ?_ ?_ | (refine Rn.same ?_; first | rfl | (simp only [noRef, noRefs, noRefs_append, Bool.and_self, Bool.and_true, Bool.true_and, noRefs_ints, noRefs_lsts, noRefs_pad, noRefs_tnC, noRefs_arcC, noRefs_rowF]; done)) | exact Rn.x1 rfl rfl | exact Rn.x2 rfl rfl | exact Rn.x3 rfl rfl | exact Rn.x4 rfl rfl | exact Rn.x5 rfl | exact Rn.x6 rfl | exact Rn.x7 rfl | refine RB.newnil rfl rfl ?_ | refine RB.cells rfl rfl rfl ?_ ?_ | refine RB.map rfl rfl rfl ?_ ?_ | refine RB.cellsB rfl rfl ?_ ?_ | refine RB.mapB rfl rfl ?_ ?_)), (by repeat (first | exact RT.nil | (refine RT.cons ?_ ?_; · (first | exact Rn.any | exact Rn.x1 rfl rfl | exact Rn.x2 rfl rfl | exact Rn.x3 rfl rfl | exact Rn.x4 rfl rfl | exact Rn.x5 rfl | exact Rn.x6 rfl | exact Rn.x7 rfl | (refine Rn.slot ?_ ?_; (first | rfl | (rw [Int.natCast_add]; rfl)); (first | rfl | (simp only [noRef, noRefs, noRefs_append, Bool.and_self, Bool.and_true, Bool.true_and, noRefs_ints, noRefs_lsts, noRefs_pad, noRefs_tnC, noRefs_arcC, noRefs_rowF]; done))) | (refine Rn.fn ?_ ?_ <;> (repeat' (first | exact RnL.nil | refine RnL.cons ?_ ?_ | exact Rn.same rfl | exact Rn.x6 rfl | exact Rn.x2 rfl rfl | exact Rn.x5 rfl | exact Rn.x1 rfl rfl)))))))⟩⟩
  intro _ hf
  have hv : verR K (minL R K) l = if l = minL R K then 0 else 24 := by unfold verR; rw [if_pos hf]
  rw [hv]
  unfold minL
  generalize listR K (minF R K K) = M at *
  simp (maxSteps := 1000000) (disch := first | omega | (simp only [lenW] <;> omega)) only [wordsN, Int.reduceGT, wordsR, ne_eq, words, Nat.reduceAdd, Nat.reduceEqDiff, Nat.reduceBEq, ↓reduceIte, reduceCtorEq, SX.exit.injEq, if_true, if_false, Int.reduceAdd, Int.reduceSub, Int.reduceMul, Int.reduceLT, Int.reduceLE, Int.reduceEq, Int.reduceNe, Int.reduceNeg, Int.reduceToNat, Nat.reduceMul, Nat.reduceLT, Nat.reduceSub, Nat.reduceLeDiff]
  refine cp hli ?_
  simp (maxSteps := 1000000) (disch := first | omega | (simp only [lenW] <;> omega)) only [wordsN, Int.reduceGT, wordsR, ne_eq, words, Nat.reduceAdd, Nat.reduceEqDiff, Nat.reduceBEq, ↓reduceIte, reduceCtorEq, SX.exit.injEq, if_true, if_false, Int.reduceAdd, Int.reduceSub, Int.reduceMul, Int.reduceLT, Int.reduceLE, Int.reduceEq, Int.reduceNe, Int.reduceNeg, Int.reduceToNat, Nat.reduceMul, Nat.reduceLT, Nat.reduceSub, Nat.reduceLeDiff]
  refine cp (equal51 l M (by omega) (fun w hw => by have := hll w hw; omega)) ?_
  by_cases h0 : l = M
  · simp (maxSteps := 1000000) (disch := first | omega | (simp only [lenW] <;> omega)) only [h0, wordsN, Int.reduceGT, wordsR, ne_eq, words, Nat.reduceAdd, Nat.reduceEqDiff, Nat.reduceBEq, ↓reduceIte, reduceCtorEq, SX.exit.injEq, if_true, if_false, Int.reduceAdd, Int.reduceSub, Int.reduceMul, Int.reduceLT, Int.reduceLE, Int.reduceEq, Int.reduceNe, Int.reduceNeg, Int.reduceToNat, Nat.reduceMul, Nat.reduceLT, Nat.reduceSub, Nat.reduceLeDiff]
    exact ⟨.inr trivial, _, rfl, Rn.same rfl⟩
  · simp (maxSteps := 1000000) (disch := first | omega | (simp only [lenW] <;> omega)) only [h0, wordsN, Int.reduceGT, wordsR, ne_eq, words, Nat.reduceAdd, Nat.reduceEqDiff, Nat.reduceBEq, ↓reduceIte, reduceCtorEq, SX.exit.injEq, if_true, if_false, Int.reduceAdd, Int.reduceSub, Int.reduceMul, Int.reduceLT, Int.reduceLE, Int.reduceEq, Int.reduceNe, Int.reduceNeg, Int.reduceToNat, Nat.reduceMul, Nat.reduceLT, Nat.reduceSub, Nat.reduceLeDiff]
    exact ⟨.inr trivial, _, rfl, Rn.same rfl⟩
end Go.AM.SN
set_option maxRecDepth 100000
namespace Go.AM.SZ
open Go.Proofs
def s11 : SFn := ⟨155, [.tmp 6],
 (.seq (.region [⟨(some 3), .box .dyn (.t 0), [], none⟩,
 ⟨(some 6), .mov (.c (.bool false)), [], none⟩] [] [0, 6])
 (.seq (.seq (.region [⟨(some 20), .call .pure (.f 12) [], [], none⟩,
 ⟨(some 21), .un .not (.t 20), [0], none⟩,
 ⟨(some 22), .mov (.t 21), [1, 0], none⟩,
 ⟨(some 23), .load (some 2) (.t 3), [2], (some (22, false))⟩,
 ⟨(some 24), .call .pure (.f 36) [(.t 23)], [3, 2, 2], (some (22, false))⟩,
 ⟨(some 25), .un .not (.t 24), [4, 2], (some (22, false))⟩,
 ⟨(some 26), .pick (.t 22) (.c (.bool true)) (.t 25), [2, 5], none⟩,
 ⟨(some 27), .mov (.t 26), [6, 4], none⟩,
 ⟨(some 28), .mov (.t 2), [7], (some (27, false))⟩,
 ⟨(some 29), .len 1 (.t 28), [8, 7], (some (27, false))⟩,
 ⟨(some 30), .bin .gtr (.t 29) (.c (.int .i64 6)), [9, 7], (some (27, false))⟩,
 ⟨(some 31), .pick (.t 27) (.c (.bool true)) (.t 30), [7, 10], none⟩] [] [20, 21, 22, 23, 24, 25, 26, 27, 28, 29, 30])
 (.cond (.t 31)
 (.seq (.region [⟨(some 32), .call .pure (.f 12) [], [], none⟩,
 ⟨(some 6), .mov (.t 32), [0, 0, 0], none⟩] [] [1, 2, 3, 31, 32])
 .ret)
 .skip))
 (.seq (.region [⟨(some 33), .load (some 2) (.t 3), [], none⟩,
 ⟨(some 34), .call .pure (.f 37) [(.t 33)], [0], none⟩,
 ⟨(some 7), .mov (.t 34), [1, 1, 0, 1], none⟩] [] [6, 31, 33, 34])
 (.seq (.region [⟨(some 36), .load (some 2) (.t 3), [], none⟩,
 ⟨(some 37), .call .pure (.f 27) [(.t 36)], [0], none⟩,
 ⟨(some 35), .mov (.t 37), [1], none⟩,
 ⟨(some 38), .extract 0 (.t 35), [2], none⟩,
 ⟨(some 39), .extract 1 (.t 35), [2], none⟩,
 ⟨(some 8), .mov (.t 38), [3, 1, 0, 1, 2, 3], none⟩,
 ⟨(some 9), .mov (.t 39), [4, 5, 0, 1, 2, 3, 4, 5], none⟩] [] [36, 37, 35, 38, 39])
 (.seq (.seq (.region [⟨(some 40), .mov (.t 9), [], none⟩,
 ⟨(some 41), .mov (.t 7), [], none⟩,
 ⟨(some 42), .bin .neq (.t 40) (.t 41), [0, 1], none⟩,
 ⟨(some 43), .mov (.t 42), [2], none⟩,
 ⟨(some 44), .mov (.t 7), [3], (some (43, false))⟩,
 ⟨(some 45), .bin .neq (.t 44) (.c (.int .i64 0)), [4, 3], (some (43, false))⟩,
 ⟨(some 46), .mov (.t 45), [5, 3, 3], (some (43, false))⟩,
 ⟨(some 47), .mov (.t 8), [6], (some (46, true))⟩,
 ⟨(some 48), .len 1 (.t 47), [7, 6], (some (46, true))⟩,
 ⟨(some 49), .bin .gtr (.t 48) (.c (.int .i64 0)), [8, 6], (some (46, true))⟩,
 ⟨(some 50), .pick (.t 46) (.t 49) (.c (.bool false)), [6, 9, 3], (some (43, false))⟩,
 ⟨(some 51), .pick (.t 43) (.c (.bool true)) (.t 50), [3, 10], none⟩] [] [8, 9, 40, 41, 42, 43, 44, 45, 46, 47, 48, 49, 50])
 (.cond (.t 51)
 (.seq (.region [⟨(some 6), .mov (.c (.bool false)), [], none⟩] [] [1, 2, 3, 7, 51])
 .ret)
 .skip))
 (.seq (.region [⟨(some 52), .mov (.t 7), [], none⟩,
 ⟨(some 10), .mov (.t 52), [0, 0], none⟩] [] [6, 7, 51, 52])
 (.seq (.seq (.region [⟨(some 53), .mov (.t 10), [], none⟩,
 ⟨(some 54), .bin .eql (.t 53) (.c (.int .i64 0)), [0], none⟩,
 ⟨(some 55), .mov (.t 54), [1], none⟩,
 ⟨(some 56), .mov (.t 1), [2], (some (55, true))⟩,
 ⟨(some 57), .bin .neq (.t 56) (.c (.int .i64 1)), [3, 2], (some (55, true))⟩,
 ⟨(some 58), .pick (.t 55) (.t 57) (.c (.bool false)), [2, 4], none⟩,
 ⟨(some 59), .mov (.t 58), [5, 2], none⟩,
 ⟨(some 60), .mov (.t 1), [6], (some (59, true))⟩,
 ⟨(some 61), .bin .neq (.t 60) (.c (.int .i64 2)), [7, 6], (some (59, true))⟩,
 ⟨(some 62), .pick (.t 59) (.t 61) (.c (.bool false)), [6, 8], none⟩] [] [53, 54, 55, 56, 57, 58, 59, 60, 61])
 (.cond (.t 62)
 (.region [⟨(some 10), .mov (.c (.int .i64 11)), [], none⟩] [] [62])
 .skip))
 (.seq (.region [⟨(some 64), .load (some 2) (.t 3), [], none⟩,
 ⟨(some 65), .mov (.t 1), [], none⟩,
 ⟨(some 66), .mov (.t 2), [], none⟩,
 ⟨(some 67), .call .pure (.f 28) [(.t 64), (.t 65), (.t 66)], [0, 1, 2], none⟩,
 ⟨(some 63), .mov (.t 67), [3], none⟩,
 ⟨(some 68), .extract 0 (.t 63), [4], none⟩,
 ⟨(some 69), .extract 1 (.t 63), [4], none⟩,
 ⟨(some 11), .mov (.t 68), [5, 3, 0, 1, 2, 3, 4, 5], none⟩,
 ⟨(some 12), .mov (.t 69), [6, 7, 0, 1, 2, 3, 4, 5, 6, 7], none⟩] [] [62, 64, 65, 66, 67, 63, 68, 69])
 (.seq (.region [⟨(some 71), .load (some 2) (.t 3), [], none⟩,
 ⟨(some 72), .mov (.t 1), [], none⟩,
 ⟨(some 73), .call .pure (.f 14) [(.t 71), (.t 72)], [0, 1], none⟩,
 ⟨(some 70), .mov (.t 73), [2], none⟩,
 ⟨(some 74), .extract 0 (.t 70), [3], none⟩,
 ⟨(some 75), .extract 1 (.t 70), [3], none⟩,
 ⟨(some 13), .mov (.t 74), [4, 2, 0, 1, 2, 3, 4], none⟩,
 ⟨(some 14), .mov (.t 75), [5, 6, 0, 1, 2, 3, 4, 5, 6], none⟩] [] [71, 72, 73, 70, 74, 75])
 (.seq (.region [⟨(some 77), .load (some 2) (.t 3), [], none⟩,
 ⟨(some 78), .mov (.t 1), [], none⟩,
 ⟨(some 79), .call .pure (.f 15) [(.t 77), (.t 78)], [0, 1], none⟩,
 ⟨(some 76), .mov (.t 79), [2], none⟩,
 ⟨(some 80), .extract 0 (.t 76), [3], none⟩,
 ⟨(some 81), .extract 1 (.t 76), [3], none⟩,
 ⟨(some 15), .mov (.t 80), [4, 2, 0, 1, 2, 3, 4], none⟩,
 ⟨(some 16), .mov (.t 81), [5, 6, 0, 1, 2, 3, 4, 5, 6], none⟩] [] [77, 78, 79, 76, 80, 81])
 (.seq (.region [⟨(some 82), .load (some 2) (.t 3), [], none⟩,
 ⟨(some 83), .mov (.t 1), [], none⟩,
 ⟨(some 84), .mov (.t 2), [], none⟩,
 ⟨(some 85), .bslice true .dyn 1 1 [.nilsl] [(0, 1, (.t 84))], [2], none⟩,
 ⟨(some 86), .call .pure (.f 33) [(.t 82), (.t 83), (.t 85)], [0, 1, 3], none⟩,
 ⟨(some 17), .mov (.t 86), [4, 4, 0, 1, 2, 3, 4], none⟩] [] [82, 83, 84, 85, 86])
 (.seq (.seq (.region [⟨(some 87), .mov (.t 10), [], none⟩,
 ⟨(some 88), .bin .neq (.t 87) (.c (.int .i64 0)), [0], none⟩] [] [87])
 (.cond (.t 88)
 (.seq (.region [⟨(some 89), .mov (.t 11), [], none⟩,
 ⟨(some 90), .un .not (.t 89), [0], none⟩,
 ⟨(some 91), .mov (.t 90), [1], none⟩,
 ⟨(some 92), .mov (.t 12), [2], (some (91, true))⟩,
 ⟨(some 93), .mov (.t 10), [2], (some (91, true))⟩,
 ⟨(some 94), .bin .eql (.t 92) (.t 93), [3, 4, 2], (some (91, true))⟩,
 ⟨(some 95), .pick (.t 91) (.t 94) (.c (.bool false)), [2, 5], none⟩,
 ⟨(some 96), .mov (.t 95), [6, 2], none⟩,
 ⟨(some 97), .mov (.t 13), [7], (some (96, true))⟩,
 ⟨(some 98), .len 1 (.t 97), [8, 7], (some (96, true))⟩,
 ⟨(some 99), .bin .eql (.t 98) (.c (.int .i64 0)), [9, 7], (some (96, true))⟩,
 ⟨(some 100), .pick (.t 96) (.t 99) (.c (.bool false)), [7, 10], none⟩,
 ⟨(some 101), .mov (.t 100), [11, 7], none⟩,
 ⟨(some 102), .mov (.t 14), [12], (some (101, true))⟩,
 ⟨(some 103), .mov (.t 10), [12], (some (101, true))⟩,
 ⟨(some 104), .bin .eql (.t 102) (.t 103), [13, 14, 12], (some (101, true))⟩,
 ⟨(some 105), .pick (.t 101) (.t 104) (.c (.bool false)), [12, 15], none⟩,
 ⟨(some 106), .mov (.t 105), [16, 12], none⟩,
 ⟨(some 107), .mov (.t 15), [17], (some (106, true))⟩,
 ⟨(some 108), .un .not (.t 107), [18, 17], (some (106, true))⟩,
 ⟨(some 109), .pick (.t 106) (.t 108) (.c (.bool false)), [17, 19], none⟩,
 ⟨(some 110), .mov (.t 109), [20, 17], none⟩,
 ⟨(some 111), .mov (.t 16), [21], (some (110, true))⟩,
 ⟨(some 112), .mov (.t 10), [21], (some (110, true))⟩,
 ⟨(some 113), .bin .eql (.t 111) (.t 112), [22, 23, 21], (some (110, true))⟩,
 ⟨(some 114), .pick (.t 110) (.t 113) (.c (.bool false)), [21, 24], none⟩,
 ⟨(some 115), .mov (.t 114), [25, 21], none⟩,
 ⟨(some 116), .mov (.t 17), [26], (some (115, true))⟩,
 ⟨(some 117), .mov (.t 10), [26], (some (115, true))⟩,
 ⟨(some 118), .bin .eql (.t 116) (.t 117), [27, 28, 26], (some (115, true))⟩,
 ⟨(some 119), .pick (.t 115) (.t 118) (.c (.bool false)), [26, 29], none⟩,
 ⟨(some 6), .mov (.t 119), [30, 26, 0, 1, 2, 3, 4, 5, 6, 7, 8, 9, 10, 11, 12, 13, 14, 15, 16, 17, 18, 19, 20, 21, 22, 23, 24, 25, 26, 27, 28, 29, 30], none⟩] [] [1, 2, 3, 10, 11, 12, 13, 14, 15, 16, 17, 88, 89, 90, 91, 92, 93, 94, 95, 96, 97, 98, 99, 100, 101, 102, 103, 104, 105, 106, 107, 108, 109, 110, 111, 112, 113, 114, 115, 116, 117, 118, 119])
 .ret)
 .skip))
 (.seq (.region [⟨(some 120), .faddr 0 (.t 3), [], none⟩,
 ⟨(some 121), .load none (.t 120), [0], none⟩,
 ⟨(some 122), .len 1 (.t 121), [1], none⟩,
 ⟨(some 18), .mov (.t 122), [2, 0, 1, 2], none⟩] [] [6, 10, 13, 15, 88, 120, 121, 122])
 (.seq (.seq (.region [⟨(some 123), .mov (.t 1), [], none⟩,
 ⟨(some 124), .bin .eql (.t 123) (.c (.int .i64 2)), [0], none⟩] [] [1, 123])
 (.cond (.t 124)
 (.region [⟨(some 125), .faddr 1 (.t 3), [], none⟩,
 ⟨(some 126), .load none (.t 125), [0], none⟩,
 ⟨(some 127), .len 1 (.t 126), [1], none⟩,
 ⟨(some 18), .mov (.t 127), [2, 0, 1, 2], none⟩] [] [3, 124, 125, 126, 127])
 .skip))
 (.seq (.region [⟨(some 128), .mov (.t 2), [], none⟩,
 ⟨(some 129), .mov (.t 18), [], none⟩,
 ⟨(some 130), .call .pure (.f 19) [(.t 128), (.t 129)], [0, 1], none⟩,
 ⟨(some 19), .mov (.t 130), [2, 2, 0, 1, 2], none⟩] [] [2, 18, 3, 124, 128, 129, 130])
 (.seq (.region [⟨(some 131), .mov (.t 12), [], none⟩,
 ⟨(some 132), .mov (.t 19), [], none⟩,
 ⟨(some 133), .bin .eql (.t 131) (.t 132), [0, 1], none⟩,
 ⟨(some 134), .mov (.t 133), [2], none⟩,
 ⟨(some 135), .mov (.t 19), [3], (some (134, true))⟩,
 ⟨(some 136), .bin .eql (.t 135) (.c (.int .i64 0)), [4, 3], (some (134, true))⟩,
 ⟨(some 137), .mov (.t 136), [5, 3, 3], (some (134, true))⟩,
 ⟨(some 138), .mov (.t 11), [6], (some (137, false))⟩,
 ⟨(some 139), .un .not (.t 138), [7, 6], (some (137, false))⟩,
 ⟨(some 140), .mov (.t 139), [8, 6, 6], (some (137, false))⟩,
 ⟨(some 141), .mov (.t 17), [9], (some (140, true))⟩,
 ⟨(some 142), .mov (.t 19), [9], (some (140, true))⟩,
 ⟨(some 143), .bin .eql (.t 141) (.t 142), [10, 11, 9], (some (140, true))⟩,
 ⟨(some 144), .pick (.t 140) (.t 143) (.c (.bool false)), [9, 12, 6], (some (137, false))⟩,
 ⟨(some 145), .pick (.t 137) (.c (.bool true)) (.t 144), [6, 13, 3], (some (134, true))⟩,
 ⟨(some 146), .pick (.t 134) (.t 145) (.c (.bool false)), [3, 14], none⟩,
 ⟨(some 147), .mov (.t 146), [15, 9], none⟩,
 ⟨(some 148), .mov (.t 14), [16], (some (147, true))⟩,
 ⟨(some 149), .bin .eql (.t 148) (.c (.int .i64 0)), [17, 16], (some (147, true))⟩,
 ⟨(some 150), .pick (.t 147) (.t 149) (.c (.bool false)), [16, 18], none⟩,
 ⟨(some 151), .mov (.t 150), [19, 16], none⟩,
 ⟨(some 152), .mov (.t 16), [20], (some (151, true))⟩,
 ⟨(some 153), .bin .eql (.t 152) (.c (.int .i64 0)), [21, 20], (some (151, true))⟩,
 ⟨(some 154), .pick (.t 151) (.t 153) (.c (.bool false)), [20, 22], none⟩,
 ⟨(some 6), .mov (.t 154), [23, 20, 0, 1, 2, 3, 4, 5, 6, 7, 8, 9, 10, 11, 12, 13, 14, 15, 16, 17, 18, 19, 20, 21, 22, 23], none⟩] [] [11, 12, 14, 16, 17, 19, 131, 132, 133, 134, 135, 136, 137, 138, 139, 140, 141, 142, 143, 144, 145, 146, 147, 148, 149, 150, 151, 152, 153, 154])
 .ret))))))))))))))))⟩
def s36 : SFn := ⟨43, [.tmp 2],
 (.seq (.region [⟨(some 1), .box .dyn (.t 0), [], none⟩,
 ⟨(some 2), .mov (.c (.bool false)), [], none⟩] [] [0, 2])
 (.seq (.seq (.region [⟨(some 3), .mov (.c (.int .i64 0)), [], none⟩] [] [])
 (.block 0 (.loop (.seq (.seq (.region [⟨(some 4), .mov (.t 3), [], none⟩,
 ⟨(some 5), .faddr 1 (.t 1), [], none⟩,
 ⟨(some 6), .load none (.t 5), [1], none⟩,
 ⟨(some 7), .len 1 (.t 6), [2], none⟩,
 ⟨(some 8), .bin .lss (.t 4) (.t 7), [0, 3], none⟩,
 ⟨(some 9), .mov (.t 8), [4], none⟩,
 ⟨(some 10), .mov (.t 3), [5], (some (9, true))⟩,
 ⟨(some 11), .bin .lss (.t 10) (.c (.int .i64 6)), [6, 5], (some (9, true))⟩,
 ⟨(some 12), .pick (.t 9) (.t 11) (.c (.bool false)), [5, 7], none⟩] [] [4, 5, 6, 7, 8, 9])
 (.cond (.t 12)
 .skip
 (.exit 0)))
 (.seq (.block 1 (.seq (.region [⟨(some 15), .faddr 1 (.t 1), [], none⟩,
 ⟨(some 16), .load none (.t 15), [0], none⟩,
 ⟨(some 17), .mov (.t 3), [], none⟩,
 ⟨(some 18), .iaddr none 3 (.t 16) (.t 17), [1, 2], none⟩,
 ⟨(some 19), .faddr 1 (.t 18), [3], none⟩,
 ⟨(some 20), .load none (.t 19), [4], none⟩,
 ⟨(some 21), .len 1 (.t 20), [5], none⟩,
 ⟨(some 22), .bin .gtr (.t 21) (.c (.int .i64 5)), [6], none⟩,
 ⟨(some 23), .mov (.t 22), [7], none⟩,
 ⟨(some 24), .faddr 1 (.t 1), [8], (some (23, false))⟩,
 ⟨(some 25), .load none (.t 24), [9, 8], (some (23, false))⟩,
 ⟨(some 26), .mov (.t 3), [8], (some (23, false))⟩,
 ⟨(some 27), .iaddr none 3 (.t 25) (.t 26), [10, 11, 8], (some (23, false))⟩,
 ⟨(some 28), .faddr 2 (.t 27), [12, 8], (some (23, false))⟩,
 ⟨(some 29), .load none (.t 28), [13, 8], (some (23, false))⟩,
 ⟨(some 30), .len 1 (.t 29), [14, 8], (some (23, false))⟩,
 ⟨(some 31), .bin .gtr (.t 30) (.c (.int .i64 5)), [15, 8], (some (23, false))⟩,
 ⟨(some 32), .pick (.t 23) (.c (.bool true)) (.t 31), [8, 16], none⟩] [] [12, 15, 16, 17, 18, 19, 20, 21, 22, 23])
 (.cond (.t 32)
 (.seq (.region [⟨(some 2), .mov (.c (.bool false)), [], none⟩] [] [1, 3, 31, 30, 29, 28, 27, 25, 26, 24, 41, 40, 39, 38, 11, 10, 32])
 .ret)
 .skip)))
 (.region [⟨(some 13), .mov (.t 3), [], none⟩,
 ⟨(some 14), .bin .add (.t 13) (.c (.int .i64 1)), [0], none⟩,
 ⟨(some 3), .mov (.t 14), [1, 0, 1], none⟩] [] [2, 32, 13, 14]))))))
 (.seq (.region [⟨(some 33), .faddr 0 (.t 1), [], none⟩,
 ⟨(some 34), .load none (.t 33), [0], none⟩,
 ⟨(some 35), .len 1 (.t 34), [1], none⟩,
 ⟨(some 36), .bin .leq (.t 35) (.c (.int .i64 5)), [2], none⟩,
 ⟨(some 37), .mov (.t 36), [3], none⟩,
 ⟨(some 38), .faddr 1 (.t 1), [4], (some (37, true))⟩,
 ⟨(some 39), .load none (.t 38), [5, 4], (some (37, true))⟩,
 ⟨(some 40), .len 1 (.t 39), [6, 4], (some (37, true))⟩,
 ⟨(some 41), .bin .leq (.t 40) (.c (.int .i64 5)), [7, 4], (some (37, true))⟩,
 ⟨(some 42), .pick (.t 37) (.t 41) (.c (.bool false)), [4, 8], none⟩,
 ⟨(some 2), .mov (.t 42), [9, 4, 0, 1, 2, 3, 4, 5, 6, 7, 8, 9], none⟩] [] [1, 3, 31, 30, 29, 28, 27, 25, 26, 24, 41, 40, 39, 38, 11, 10, 33, 34, 35, 36, 37, 42])
 .ret)))⟩
theorem ok11 : okFn Try.prog 11 s11 = true := by kernel_rfl
theorem ok36 : okFn Try.prog 36 s36 = true := by kernel_rfl
end Go.AM.SZ
set_option linter.unusedSimpArgs false
set_option linter.unusedVariables false
namespace Go.AM
variable {P : Program}
section
variable {N : NM} {n : Nat} {d : Option Nat} {dead : List Nat} {r : List SOper} {T : Tmps} {h : Heap} {Q : QC} {fs : List Fr}
end
end Go.AM
set_option linter.unusedSimpArgs false
set_option linter.unusedVariables false
namespace Go.AM
variable {P : Program}
def blks : AV → Option (List Nat)
  | .ptr b _ _ => some [b]
  | .sl b _ _ _ _ => some [b]
  | .map b _ => some [b]
  | .any => none
  | .agg _ => none
  | .tup [] => some []
  | .tup _ => none
  | .fn _ _ _ => none
  | .ifc _ _ => none
  | _ => some []
def Pts (v : AV) (bs : List Nat) : Prop := ∃ cs, blks v = some cs ∧ ∀ b ∈ cs, b ∈ bs
theorem Pts.mono {v : AV} {bs cs : List Nat} (h : Pts v bs) (hs : ∀ b ∈ bs, b ∈ cs) : Pts v cs := by
  obtain ⟨ds, h1, h2⟩ := h
  exact ⟨ds, h1, fun b hb => hs b (h2 b hb)⟩
abbrev Abs := List (Nat × Option (List Nat))
def absT (T : Tmps) : Abs → Nat → Option (List Nat)
  | [], i => blks (lk T i)
  | (j, a) :: r, i => bif Nat.beq j i then a else absT T r i
def absO (T : Tmps) (A : Abs) : Opd → Option (List Nat)
  | .t i => absT T A i
  | .c v => blks v
  | _ => none
def SOp.absV (i : Nat) (ax : Opd → Option (List Nat)) : SOp → Option (List Nat)
  | .mov x => ax x
  | .slice _ x _ _ _ => ax x
  | .iaddr _ _ x _ => ax x
  | .faddr _ x => ax x
  | .alloc .dyn _ => some [i]
  | .box .dyn _ => some [i]
  | .bslice false .dyn _ _ _ _ => some [i]
  | .mkslice .dyn _ _ _ _ _ => some [i]
  | .mkmap .dyn => some [i]
  | .append .dyn _ _ x _ => (ax x).map fun bs => i :: bs
  | _ => none
def SOp.touch (i : Nat) (ax : Opd → Option (List Nat)) : SOp → Option (List Nat)
  | .load _ x => ax x
  | .store _ x _ => ax x
  | .len _ x => ax x
  | .alloc .dyn _ => some [i]
  | .box .dyn _ => some [i]
  | .bslice _ .dyn _ _ _ _ => some [i]
  | .mkslice .dyn _ _ _ _ _ => some [i]
  | .mkmap .dyn => some [i]
  | .append .dyn _ _ x y => match ax x, ax y with
    | some a, some b => some (i :: (a ++ b))
    | _, _ => none
  | .copy _ x y => match ax x, ax y with
    | some a, some b => some (a ++ b)
    | _, _ => none
  | .lookup _ _ _ _ x _ => ax x
  | .mupd _ _ x _ _ => ax x
  | s => bif Nat.beq s.cls 0 then some [] else none
def touches (n : Nat) (T : Tmps) : List SOper → Abs → List (Option (List Nat))
  | [], _ => []
  | s :: r, A => s.op.touch n (absO T A) :: touches (n + 1) T r (match s.dst with | some d => (d, s.op.absV n (absO T A)) :: A | none => A)
section
variable {i : Nat} {T : Tmps} {ax : Opd → Option (List Nat)} {B : Nat → Prop}
theorem Pts.slice {n : Option Nat} {x v : AV} {l h m : Option AV} {bs : List Nat} (hx : Pts x bs) (hv : aSliceC n x l h m = some v) : Pts v bs := by
  obtain ⟨cs, h1, h2⟩ := hx
  have key : aSlice x l h m = some v → Pts v bs := by
    intro hv
    unfold aSlice at hv
    have nil : ∀ {v : AV}, blks v = some [] → Pts v bs := fun h => ⟨[], h, fun b hb => by cases hb⟩
    split at hv
    · cases hv
    · split at hv
      · split at hv
        · split at hv
          · split at hv <;> first | (cases hv; exact nil rfl) | cases hv
          · cases hv
        · cases hv
      · cases hv
      · split at hv
        · split at hv
          · cases hv
          · split at hv
            · cases hv; exact ⟨cs, h1, h2⟩
            · cases hv
        · split at hv
          · cases hv
          · split at hv
            · cases hv; exact nil rfl
            · cases hv
        · split at hv
          · cases hv
          · split at hv
            · cases hv; exact nil rfl
            · cases hv
        · split at hv
          · cases hv
          · split at hv
            · cases hv; exact nil rfl
            · cases hv
        · split at hv
          · cases hv
          · split at hv
            · cases hv; exact nil rfl
            · cases hv
        · cases hv
  unfold aSliceC at hv
  split at hv <;> first | exact key hv | cases hv | (split at hv; exact key hv; cases hv)
theorem Pts.iaddr {a : Option Nat} {sz : Nat} {x j v : AV} {bs : List Nat} (hx : Pts x bs) (hv : aIAddr a sz x j = some v) : Pts v bs := by
  obtain ⟨cs, h1, h2⟩ := hx
  have nil : ∀ {v : AV}, blks v = some [] → Pts v bs := fun h => ⟨[], h, fun b hb => by cases hb⟩
  unfold aIAddr at hv
  split at hv
  · split at hv <;> first | (split at hv <;> first | (cases hv; first | exact ⟨cs, h1, h2⟩ | exact nil rfl) | cases hv) | cases hv
  · cases hv
theorem Pts.faddr {off : Nat} {x v : AV} {bs : List Nat} (hx : Pts x bs) (hv : aFAddr off x = some v) : Pts v bs := by
  obtain ⟨cs, h1, h2⟩ := hx
  have nil : ∀ {v : AV}, blks v = some [] → Pts v bs := fun h => ⟨[], h, fun b hb => by cases hb⟩
  unfold aFAddr at hv
  split at hv
  · cases hv; exact ⟨cs, h1, h2⟩
  · cases hv; exact nil rfl
  · cases hv
end
def AbsOK (T0 : Tmps) (A : Abs) (T : Tmps) : Prop := ∀ j bs, absT T0 A j = some bs → Pts (lk T j) bs
theorem AbsOK.nil {T : Tmps} : AbsOK T [] T := fun j bs h => ⟨bs, h, fun b hb => hb⟩
theorem AbsOK.up {T0 T : Tmps} {A : Abs} {d : Nat} {v : AV} {a : Option (List Nat)} (h : AbsOK T0 A T) (hv : ∀ bs, a = some bs → Pts v bs) : AbsOK T0 ((d, a) :: A) (up T d v) := by
  intro j bs hj
  rw [lk_up]
  simp only [absT] at hj
  by_cases e : d = j
  · subst e
    have e1 : Nat.beq d d = true := by simp
    rw [e1] at hj
    rw [if_pos rfl]
    exact hv bs hj
  · have : Nat.beq d j = false := by rw [Bool.eq_false_iff]; simpa using e
    rw [this] at hj
    rw [if_neg (fun h => e h.symm)]
    exact h j bs hj
theorem FrzL.nil {h : Heap} : FrzL h [] [] := trivial
theorem FrzL.cons {h : Heap} {x y : AV} {xs ys : List AV} (h1 : FrzTo h x y) (h2 : FrzL h xs ys) : FrzL h (x :: xs) (y :: ys) := ⟨h1, h2⟩
end Go.AM
set_option linter.unusedSimpArgs false
set_option linter.unusedVariables false
namespace Go.AM
variable {P : Program}
theorem Rec.one {h : Heap} {v u : AV} {b k g : Nat} {cs ds : List AV} (hb : b < 1099511627775) (hk : h.get k = some (.cells g ds)) (hc : RnL 0 (ow 0 [(b, .blk k g)]) h cs ds) (hv : Rn 0 (ow 0 [(b, .blk k g)]) h v u) :
    Rec 0 [(0, v)] [(b, .cells 0 cs)] [(0, u)] h := by
  refine ⟨[(b, .blk k g)], ?_, RO.zero, RB.cells rfl ?_ hk hc RB.nil, RT.cons' rfl hv RT.nil⟩
  · simp [okPs, Nat.blt, srcNew]; omega
  · simp [ow, lkS]
end Go.AM
namespace Go.AM.SN
open Go.Proofs Go.AM.SK
set_option maxRecDepth 100000
set_option linter.unusedSimpArgs false
set_option linter.unusedVariables false
def up1 (p : Option Int) (n : Int) : Bool := match p with | some q => decide (n ≤ q) | none => false
def arcsE (places : Int) : Option Int → List (Int × Int) → Int
  | _, [] => 0
  | p, a :: l => if a.1 < 0 ∨ places ≤ a.1 then 2 else if up1 p a.1 = true then 5 else if a.2 < 1 ∨ 8 < a.2 then 2 else arcsE places (some a.1) l
def prv (l : List (Int × Int)) : Nat → Option Int
  | 0 => none
  | i + 1 => (l[i]?).map (·.1)
theorem arcsE_drop {places : Int} {l : List (Int × Int)} {i : Nat} {a : Int × Int} (h : l[i]? = some a) (p : Option Int) : arcsE places p (l.drop i) = if a.1 < 0 ∨ places ≤ a.1 then 2 else if up1 p a.1 = true then 5 else if a.2 < 1 ∨ 8 < a.2 then 2 else arcsE places (some a.1) (l.drop (i + 1)) := by
  obtain ⟨h1, rfl⟩ := List.getElem?_eq_some_iff.1 h
  rw [List.drop_eq_getElem_cons h1]; rfl
theorem arcsE_zero {places : Int} : ∀ {l : List (Int × Int)} {p : Option Int}, arcsE places p l = 0 → (∀ a ∈ l, 0 ≤ a.1 ∧ a.1 < places ∧ 1 ≤ a.2 ∧ a.2 ≤ 8) ∧ (∀ (i : Nat) (a b : Int × Int), l[i]? = some a → l[i + 1]? = some b → a.1 < b.1) ∧ (∀ a, l[0]? = some a → up1 p a.1 = false)
  | [], p, _ => ⟨by simp, by simp, by simp⟩
  | a :: l, p, h => by
    unfold arcsE at h
    split at h
    · cases h
    · split at h
      · cases h
      · split at h
        · cases h
        · rename_i h1 h2 h3
          obtain ⟨q1, q2, q3⟩ := arcsE_zero h
          refine ⟨fun b hb => ?_, fun i x y hx hy => ?_, fun b hb => ?_⟩
          · rcases List.mem_cons.1 hb with rfl | hb
            · omega
            · exact q1 b hb
          · cases i with
            | zero =>
              simp at hx hy; subst hx
              have := q3 y (by simpa using hy)
              simp only [up1, decide_eq_false_iff_not] at this; omega
            | succ i => exact q2 i x y (by simpa using hx) (by simpa using hy)
          · simp at hb; subst hb; simpa using h2
theorem arcsE_ok {places : Int} {l : List (Int × Int)} (hl : l.length ≤ 1000) (h : arcsE places none l = 0) : ArcsOk l places := by
  obtain ⟨h1, h2, _⟩ := arcsE_zero h
  exact ⟨hl, fun i a ha => h1 a (List.mem_of_getElem? ha), h2⟩
set_option maxHeartbeats 4000000 in
theorem checkArcsG (l : List (Int × Int)) (places : Int) (hl : l.length ≤ 1000) : PSpec Try.prog 58 [arcs l, .int .i64 places] (.int .i64 (arcsE places none l)) := by
  refine PSpec.of_rn 64 ok58 rfl (by simp only [noRefs, noRef_arcs]; rfl) rfl ?_
  simp (maxSteps := 1000000) (disch := first | omega | (simp only [lenW] <;> omega)) only [s58, wordsN, Int.reduceGT, wordsR, ne_eq, words, Nat.reduceAdd, Nat.reduceEqDiff, Nat.reduceBEq, ↓reduceIte, reduceCtorEq, SX.exit.injEq, if_true, if_false, Int.reduceAdd, Int.reduceSub, Int.reduceMul, Int.reduceLT, Int.reduceLE, Int.reduceEq, Int.reduceNe, Int.reduceNeg, Int.reduceToNat, Nat.reduceMul, Nat.reduceLT, Nat.reduceSub, Nat.reduceLeDiff]
  refine wS_loopR 100 (fun i : Nat => [(0, arcs l), (1, .int .i64 places), (7, arcs l), (8, .int .i64 l.length), (9, .int .i64 i)]) (fun _ => []) (fun i => i ≤ l.length ∧ arcsE places none l = arcsE places (prv l i) (l.drop i)) (fun i => l.length - i) 0 ⟨[], rfl, (by repeat (first | exact RO.zero | exact RO.e | refine RO.set rfl ?_)), (by repeat' (first | exact RB.nil | (refine RnL.same ?_; first | rfl | (simp only [noRef, noRefs, noRefs_append, Bool.and_self, Bool.and_true, Bool.true_and, noRefs_ints, noRefs_lsts, noRefs_pad, noRefs_tnC, noRefs_arcC, noRefs_rowF]; done)) | exact RnM.keyM rfl | exact RnL.nil | refine RnL.cons ?_ ?_ | (refine Rn.same ?_; first | rfl | (simp only [noRef, noRefs, noRefs_append, Bool.and_self, Bool.and_true, Bool.true_and, noRefs_ints, noRefs_lsts, noRefs_pad, noRefs_tnC, noRefs_arcC, noRefs_rowF]; done)) | exact Rn.x1 rfl rfl | exact Rn.x2 rfl rfl | exact Rn.x3 rfl rfl | exact Rn.x4 rfl rfl | exact Rn.x5 rfl | exact Rn.x6 rfl | exact Rn.x7 rfl | refine RB.newnil rfl rfl ?_ | refine RB.cells rfl rfl rfl ?_ ?_ | refine RB.map rfl rfl rfl ?_ ?_ | refine RB.cellsB rfl rfl ?_ ?_ | refine RB.mapB rfl rfl ?_ ?_)), (by repeat (first | exact RT.nil | (refine RT.cons ?_ ?_; · (first | exact Rn.any | exact Rn.x1 rfl rfl | exact Rn.x2 rfl rfl | exact Rn.x3 rfl rfl | exact Rn.x4 rfl rfl | exact Rn.x5 rfl | exact Rn.x6 rfl | exact Rn.x7 rfl | (refine Rn.slot ?_ ?_; (first | rfl | (rw [Int.natCast_add]; rfl)); (first | rfl | (simp only [noRef, noRefs, noRefs_append, Bool.and_self, Bool.and_true, Bool.true_and, noRefs_ints, noRefs_lsts, noRefs_pad, noRefs_tnC, noRefs_arcC, noRefs_rowF]; done))) | (refine Rn.fn ?_ ?_ <;> (repeat' (first | exact RnL.nil | refine RnL.cons ?_ ?_ | exact Rn.same rfl | exact Rn.x6 rfl | exact Rn.x2 rfl rfl | exact Rn.x5 rfl | exact Rn.x1 rfl rfl)))))))⟩ ⟨Nat.zero_le _, rfl⟩ ?_
  rintro i ⟨hi, he⟩
  by_cases hlt : i < l.length
  · obtain ⟨a, ha⟩ := get_ex hlt
    have hd := drop_arcs ha
    rw [arcsE_drop ha] at he
    have hnx : prv l (i + 1) = some a.1 := by simp [prv, ha]
    obtain ⟨p, w⟩ := a
    dsimp only at hd he hnx
    by_cases h1 : p < 0
    · rw [if_pos (.inl h1)] at he
      rw [he]
      simp (maxSteps := 1000000) (disch := first | omega | (simp only [lenW] <;> omega)) only [hlt, hd, h1, wordsN, Int.reduceGT, wordsR, ne_eq, words, Nat.reduceAdd, Nat.reduceEqDiff, Nat.reduceBEq, ↓reduceIte, reduceCtorEq, SX.exit.injEq, if_true, if_false, Int.reduceAdd, Int.reduceSub, Int.reduceMul, Int.reduceLT, Int.reduceLE, Int.reduceEq, Int.reduceNe, Int.reduceNeg, Int.reduceToNat, Nat.reduceMul, Nat.reduceLT, Nat.reduceSub, Nat.reduceLeDiff]
      exact ⟨.inr trivial, _, rfl, Rn.same rfl⟩
    by_cases h2 : places ≤ p
    · rw [if_pos (.inr h2)] at he
      rw [he]
      simp (maxSteps := 1000000) (disch := first | omega | (simp only [lenW] <;> omega)) only [hlt, hd, h1, h2, wordsN, Int.reduceGT, wordsR, ne_eq, words, Nat.reduceAdd, Nat.reduceEqDiff, Nat.reduceBEq, ↓reduceIte, reduceCtorEq, SX.exit.injEq, if_true, if_false, Int.reduceAdd, Int.reduceSub, Int.reduceMul, Int.reduceLT, Int.reduceLE, Int.reduceEq, Int.reduceNe, Int.reduceNeg, Int.reduceToNat, Nat.reduceMul, Nat.reduceLT, Nat.reduceSub, Nat.reduceLeDiff]
      exact ⟨.inr trivial, _, rfl, Rn.same rfl⟩
    rw [if_neg (by omega)] at he
    have step : up1 (prv l i) p = false → ∀ (T : Tmps) (h : Heap), True := fun _ _ _ => trivial
    cases i with
    | zero =>
      rw [show prv l 0 = none from rfl, show up1 none p = false from rfl, if_neg (by decide)] at he
      have hl0 : (0 : Int) < (l.length : Int) := by omega
      simp only [Nat.zero_mul] at hd
      by_cases h3 : w < 1
      · rw [if_pos (.inl h3)] at he
        rw [he]
        simp (maxSteps := 1000000) (disch := first | omega | (simp only [lenW] <;> omega)) only [hlt, hl0, hd, h1, h2, h3, wordsN, Int.reduceGT, wordsR, ne_eq, words, Nat.reduceAdd, Nat.reduceEqDiff, Nat.reduceBEq, ↓reduceIte, reduceCtorEq, SX.exit.injEq, if_true, if_false, Int.reduceAdd, Int.reduceSub, Int.reduceMul, Int.reduceLT, Int.reduceLE, Int.reduceEq, Int.reduceNe, Int.reduceNeg, Int.reduceToNat, Nat.reduceMul, Nat.reduceLT, Nat.reduceSub, Nat.reduceLeDiff]
        exact ⟨.inr trivial, _, rfl, Rn.same rfl⟩
      by_cases h4 : 8 < w
      · rw [if_pos (.inr h4)] at he
        rw [he]
        simp (maxSteps := 1000000) (disch := first | omega | (simp only [lenW] <;> omega)) only [hlt, hl0, hd, h1, h2, h3, h4, wordsN, Int.reduceGT, wordsR, ne_eq, words, Nat.reduceAdd, Nat.reduceEqDiff, Nat.reduceBEq, ↓reduceIte, reduceCtorEq, SX.exit.injEq, if_true, if_false, Int.reduceAdd, Int.reduceSub, Int.reduceMul, Int.reduceLT, Int.reduceLE, Int.reduceEq, Int.reduceNe, Int.reduceNeg, Int.reduceToNat, Nat.reduceMul, Nat.reduceLT, Nat.reduceSub, Nat.reduceLeDiff]
        exact ⟨.inr trivial, _, rfl, Rn.same rfl⟩
      rw [if_neg (by omega)] at he
      simp (maxSteps := 1000000) (disch := first | omega | (simp only [lenW] <;> omega)) only [hlt, hl0, hd, h1, h2, h3, h4, wordsN, Int.reduceGT, wordsR, ne_eq, words, Nat.reduceAdd, Nat.reduceEqDiff, Nat.reduceBEq, ↓reduceIte, reduceCtorEq, SX.exit.injEq, if_true, if_false, Int.reduceAdd, Int.reduceSub, Int.reduceMul, Int.reduceLT, Int.reduceLE, Int.reduceEq, Int.reduceNe, Int.reduceNeg, Int.reduceToNat, Nat.reduceMul, Nat.reduceLT, Nat.reduceSub, Nat.reduceLeDiff]
      exact ⟨1, by omega, ⟨by omega, by rw [he, hnx]⟩, ⟨[], rfl, (by repeat (first | exact RO.zero | exact RO.e | refine RO.set rfl ?_)), (by repeat' (first | exact RB.nil | (refine RnL.same ?_; first | rfl | (simp only [noRef, noRefs, noRefs_append, Bool.and_self, Bool.and_true, Bool.true_and, noRefs_ints, noRefs_lsts, noRefs_pad, noRefs_tnC, noRefs_arcC, noRefs_rowF]; done)) | exact RnM.keyM rfl | exact RnL.nil | refine RnL.cons ?_ ?_ | (refine Rn.same ?_; first | rfl | (simp only [noRef, noRefs, noRefs_append, Bool.and_self, Bool.and_true, Bool.true_and, noRefs_ints, noRefs_lsts, noRefs_pad, noRefs_tnC, noRefs_arcC, noRefs_rowF]; done)) | exact Rn.x1 rfl rfl | exact Rn.x2 rfl rfl | exact Rn.x3 rfl rfl | exact Rn.x4 rfl rfl | exact Rn.x5 rfl | exact Rn.x6 rfl | exact Rn.x7 rfl | refine RB.newnil rfl rfl ?_ | refine RB.cells rfl rfl rfl ?_ ?_ | refine RB.map rfl rfl rfl ?_ ?_ | refine RB.cellsB rfl rfl ?_ ?_ | refine RB.mapB rfl rfl ?_ ?_)), (by repeat (first | exact RT.nil | (refine RT.cons ?_ ?_; · (first | exact Rn.any | exact Rn.x1 rfl rfl | exact Rn.x2 rfl rfl | exact Rn.x3 rfl rfl | exact Rn.x4 rfl rfl | exact Rn.x5 rfl | exact Rn.x6 rfl | exact Rn.x7 rfl | (refine Rn.slot ?_ ?_; (first | rfl | (rw [Int.natCast_add]; rfl)); (first | rfl | (simp only [noRef, noRefs, noRefs_append, Bool.and_self, Bool.and_true, Bool.true_and, noRefs_ints, noRefs_lsts, noRefs_pad, noRefs_tnC, noRefs_arcC, noRefs_rowF]; done))) | (refine Rn.fn ?_ ?_ <;> (repeat' (first | exact RnL.nil | refine RnL.cons ?_ ?_ | exact Rn.same rfl | exact Rn.x6 rfl | exact Rn.x2 rfl rfl | exact Rn.x5 rfl | exact Rn.x1 rfl rfl)))))))⟩⟩
    | succ i =>
      obtain ⟨b, hb⟩ := get_ex (l := l) (i := i) (by omega)
      have hpv : prv l (i + 1) = some b.1 := by simp [prv, hb]
      have hdp := drop_arcs hb
      have hpos : (0 : Int) < ((i + 1 : Nat) : Int) := by omega
      have hpos2 : (0 : Int) < (i : Int) + 1 := by omega
      have hsub : (((i + 1 : Nat) : Int) - 1) = (i : Int) := by omega
      have hsub2 : ((i : Int) + 1 - 1) = (i : Int) := by omega
      have hlt2 : (i : Int) < (l.length : Int) := by omega
      have hlt3 : (i : Int) + 1 < (l.length : Int) := by omega
      have htn : ((i : Int) + 1).toNat = i + 1 := by omega
      rw [hpv] at he
      obtain ⟨bp, bw⟩ := b
      dsimp only at hdp he
      by_cases h5 : p ≤ bp
      · rw [show up1 (some bp) p = true by simp [up1, h5], if_pos rfl] at he
        rw [he]
        simp (maxSteps := 1000000) (disch := first | omega | (simp only [lenW] <;> omega)) only [hlt, hlt3, htn, hd, hdp, h1, h2, hpos, hpos2, hsub, hsub2, hlt2, h5, wordsN, Int.reduceGT, wordsR, ne_eq, words, Nat.reduceAdd, Nat.reduceEqDiff, Nat.reduceBEq, ↓reduceIte, reduceCtorEq, SX.exit.injEq, if_true, if_false, Int.reduceAdd, Int.reduceSub, Int.reduceMul, Int.reduceLT, Int.reduceLE, Int.reduceEq, Int.reduceNe, Int.reduceNeg, Int.reduceToNat, Nat.reduceMul, Nat.reduceLT, Nat.reduceSub, Nat.reduceLeDiff]
        exact ⟨.inr trivial, _, rfl, Rn.same rfl⟩
      rw [show up1 (some bp) p = false by simp [up1]; omega, if_neg (by decide)] at he
      by_cases h3 : w < 1
      · rw [if_pos (.inl h3)] at he
        rw [he]
        simp (maxSteps := 1000000) (disch := first | omega | (simp only [lenW] <;> omega)) only [hlt, hlt3, htn, hd, hdp, h1, h2, hpos, hpos2, hsub, hsub2, hlt2, h5, h3, wordsN, Int.reduceGT, wordsR, ne_eq, words, Nat.reduceAdd, Nat.reduceEqDiff, Nat.reduceBEq, ↓reduceIte, reduceCtorEq, SX.exit.injEq, if_true, if_false, Int.reduceAdd, Int.reduceSub, Int.reduceMul, Int.reduceLT, Int.reduceLE, Int.reduceEq, Int.reduceNe, Int.reduceNeg, Int.reduceToNat, Nat.reduceMul, Nat.reduceLT, Nat.reduceSub, Nat.reduceLeDiff]
        exact ⟨.inr trivial, _, rfl, Rn.same rfl⟩
      by_cases h4 : 8 < w
      · rw [if_pos (.inr h4)] at he
        rw [he]
        simp (maxSteps := 1000000) (disch := first | omega | (simp only [lenW] <;> omega)) only [hlt, hlt3, htn, hd, hdp, h1, h2, hpos, hpos2, hsub, hsub2, hlt2, h5, h3, h4, wordsN, Int.reduceGT, wordsR, ne_eq, words, Nat.reduceAdd, Nat.reduceEqDiff, Nat.reduceBEq, ↓reduceIte, reduceCtorEq, SX.exit.injEq, if_true, if_false, Int.reduceAdd, Int.reduceSub, Int.reduceMul, Int.reduceLT, Int.reduceLE, Int.reduceEq, Int.reduceNe, Int.reduceNeg, Int.reduceToNat, Nat.reduceMul, Nat.reduceLT, Nat.reduceSub, Nat.reduceLeDiff]
        exact ⟨.inr trivial, _, rfl, Rn.same rfl⟩
      rw [if_neg (by omega)] at he
      simp (maxSteps := 1000000) (disch := first | omega | (simp only [lenW] <;> omega)) only [hlt, hlt3, htn, hd, hdp, h1, h2, hpos, hpos2, hsub, hsub2, hlt2, h5, h3, h4, wordsN, Int.reduceGT, wordsR, ne_eq, words, Nat.reduceAdd, Nat.reduceEqDiff, Nat.reduceBEq, ↓reduceIte, reduceCtorEq, SX.exit.injEq, if_true, if_false, Int.reduceAdd, Int.reduceSub, Int.reduceMul, Int.reduceLT, Int.reduceLE, Int.reduceEq, Int.reduceNe, Int.reduceNeg, Int.reduceToNat, Nat.reduceMul, Nat.reduceLT, Nat.reduceSub, Nat.reduceLeDiff]
      exact ⟨i + 1 + 1, by omega, ⟨by omega, by rw [he, hnx]⟩, ⟨[], rfl, (by repeat (first | exact RO.zero | exact RO.e | refine RO.set rfl ?_)), (by repeat' (first | exact RB.nil | (refine RnL.same ?_; first | rfl | (simp only [noRef, noRefs, noRefs_append, Bool.and_self, Bool.and_true, Bool.true_and, noRefs_ints, noRefs_lsts, noRefs_pad, noRefs_tnC, noRefs_arcC, noRefs_rowF]; done)) | exact RnM.keyM rfl | exact RnL.nil | refine RnL.cons ?_ ?_ | (refine Rn.same ?_; first | rfl | (simp only [noRef, noRefs, noRefs_append, Bool.and_self, Bool.and_true, Bool.true_and, noRefs_ints, noRefs_lsts, noRefs_pad, noRefs_tnC, noRefs_arcC, noRefs_rowF]; done)) | exact Rn.x1 rfl rfl | exact Rn.x2 rfl rfl | exact Rn.x3 rfl rfl | exact Rn.x4 rfl rfl | exact Rn.x5 rfl | exact Rn.x6 rfl | exact Rn.x7 rfl | refine RB.newnil rfl rfl ?_ | refine RB.cells rfl rfl rfl ?_ ?_ | refine RB.map rfl rfl rfl ?_ ?_ | refine RB.cellsB rfl rfl ?_ ?_ | refine RB.mapB rfl rfl ?_ ?_)), (by repeat (first | exact RT.nil | (refine RT.cons ?_ ?_; · (first | exact Rn.any | exact Rn.x1 rfl rfl | exact Rn.x2 rfl rfl | exact Rn.x3 rfl rfl | exact Rn.x4 rfl rfl | exact Rn.x5 rfl | exact Rn.x6 rfl | exact Rn.x7 rfl | (refine Rn.slot ?_ ?_; (first | rfl | (rw [Int.natCast_add]; rfl)); (first | rfl | (simp only [noRef, noRefs, noRefs_append, Bool.and_self, Bool.and_true, Bool.true_and, noRefs_ints, noRefs_lsts, noRefs_pad, noRefs_tnC, noRefs_arcC, noRefs_rowF]; done))) | (refine Rn.fn ?_ ?_ <;> (repeat' (first | exact RnL.nil | refine RnL.cons ?_ ?_ | exact Rn.same rfl | exact Rn.x6 rfl | exact Rn.x2 rfl rfl | exact Rn.x5 rfl | exact Rn.x1 rfl rfl)))))))⟩⟩
  · have e : i = l.length := by omega
    rw [he, e, List.drop_length]
    simp (maxSteps := 1000000) (disch := first | omega | (simp only [lenW] <;> omega)) only [hlt, wordsN, Int.reduceGT, wordsR, ne_eq, words, Nat.reduceAdd, Nat.reduceEqDiff, Nat.reduceBEq, ↓reduceIte, reduceCtorEq, SX.exit.injEq, if_true, if_false, Int.reduceAdd, Int.reduceSub, Int.reduceMul, Int.reduceLT, Int.reduceLE, Int.reduceEq, Int.reduceNe, Int.reduceNeg, Int.reduceToNat, Nat.reduceMul, Nat.reduceLT, Nat.reduceSub, Nat.reduceLeDiff]
    exact ⟨.inr trivial, _, rfl, Rn.same rfl⟩
theorem tok1G (n : Int) : PSpec Try.prog 69 [.int .i64 n] (.bool (badW n)) := by
  refine PSpec.of_rn 64 ok69 rfl rfl rfl ?_
  unfold badW
  by_cases h : n < 0
  · simp (maxSteps := 1000000) (disch := first | omega | (simp only [lenW] <;> omega)) only [s69, h, wordsN, Int.reduceGT, wordsR, ne_eq, words, Nat.reduceAdd, Nat.reduceEqDiff, Nat.reduceBEq, ↓reduceIte, reduceCtorEq, SX.exit.injEq, if_true, if_false, Int.reduceAdd, Int.reduceSub, Int.reduceMul, Int.reduceLT, Int.reduceLE, Int.reduceEq, Int.reduceNe, Int.reduceNeg, Int.reduceToNat, Nat.reduceMul, Nat.reduceLT, Nat.reduceSub, Nat.reduceLeDiff]
    exact ⟨.inr trivial, _, rfl, by simp [h, resOf, lk_cons]; exact Rn.same rfl⟩
  · by_cases h2 : 65536 < n
    · simp (maxSteps := 1000000) (disch := first | omega | (simp only [lenW] <;> omega)) only [s69, h, h2, wordsN, Int.reduceGT, wordsR, ne_eq, words, Nat.reduceAdd, Nat.reduceEqDiff, Nat.reduceBEq, ↓reduceIte, reduceCtorEq, SX.exit.injEq, if_true, if_false, Int.reduceAdd, Int.reduceSub, Int.reduceMul, Int.reduceLT, Int.reduceLE, Int.reduceEq, Int.reduceNe, Int.reduceNeg, Int.reduceToNat, Nat.reduceMul, Nat.reduceLT, Nat.reduceSub, Nat.reduceLeDiff]
      exact ⟨.inr trivial, _, rfl, by simp [h, h2, resOf, lk_cons]; exact Rn.same rfl⟩
    · simp (maxSteps := 1000000) (disch := first | omega | (simp only [lenW] <;> omega)) only [s69, h, h2, wordsN, Int.reduceGT, wordsR, ne_eq, words, Nat.reduceAdd, Nat.reduceEqDiff, Nat.reduceBEq, ↓reduceIte, reduceCtorEq, SX.exit.injEq, if_true, if_false, Int.reduceAdd, Int.reduceSub, Int.reduceMul, Int.reduceLT, Int.reduceLE, Int.reduceEq, Int.reduceNe, Int.reduceNeg, Int.reduceToNat, Nat.reduceMul, Nat.reduceLT, Nat.reduceSub, Nat.reduceLeDiff]
      exact ⟨.inr trivial, _, rfl, by simp [h, h2, resOf, lk_cons]; exact Rn.same rfl⟩
theorem tokensG (l : List Int) (hl : l.length ≤ 1099511627776) : PSpec Try.prog 57 [sli l] (.bool (!l.any badW)) := by
  refine PSpec.of_rn 64 ok57 rfl (by simp only [noRefs, noRef, noRefs_ints]; rfl) rfl ?_
  simp (maxSteps := 1000000) (disch := first | omega | (simp only [lenW] <;> omega)) only [s57, wordsN, Int.reduceGT, wordsR, ne_eq, words, Nat.reduceAdd, Nat.reduceEqDiff, Nat.reduceBEq, ↓reduceIte, reduceCtorEq, SX.exit.injEq, if_true, if_false, Int.reduceAdd, Int.reduceSub, Int.reduceMul, Int.reduceLT, Int.reduceLE, Int.reduceEq, Int.reduceNe, Int.reduceNeg, Int.reduceToNat, Nat.reduceMul, Nat.reduceLT, Nat.reduceSub, Nat.reduceLeDiff]
  refine cp (containsG 69 badW l (fun x _ => tok1G x) hl) ?_
  cases l.any badW
  · simp (maxSteps := 1000000) (disch := first | omega | (simp only [lenW] <;> omega)) only [wordsN, Int.reduceGT, wordsR, ne_eq, words, Nat.reduceAdd, Nat.reduceEqDiff, Nat.reduceBEq, ↓reduceIte, reduceCtorEq, SX.exit.injEq, if_true, if_false, Int.reduceAdd, Int.reduceSub, Int.reduceMul, Int.reduceLT, Int.reduceLE, Int.reduceEq, Int.reduceNe, Int.reduceNeg, Int.reduceToNat, Nat.reduceMul, Nat.reduceLT, Nat.reduceSub, Nat.reduceLeDiff]
    exact ⟨.inr trivial, _, rfl, Rn.same rfl⟩
  · simp (maxSteps := 1000000) (disch := first | omega | (simp only [lenW] <;> omega)) only [wordsN, Int.reduceGT, wordsR, ne_eq, words, Nat.reduceAdd, Nat.reduceEqDiff, Nat.reduceBEq, ↓reduceIte, reduceCtorEq, SX.exit.injEq, if_true, if_false, Int.reduceAdd, Int.reduceSub, Int.reduceMul, Int.reduceLT, Int.reduceLE, Int.reduceEq, Int.reduceNe, Int.reduceNeg, Int.reduceToNat, Nat.reduceMul, Nat.reduceLT, Nat.reduceSub, Nat.reduceLeDiff]
    exact ⟨.inr trivial, _, rfl, Rn.same rfl⟩
def trE (places : Int) : List Tn → Int
  | [] => 0
  | t :: l => if t.ev < 0 ∨ 32 ≤ t.ev then 2 else if arcsE places none t.inn = 0 then (if arcsE places none t.out = 0 then trE places l else arcsE places none t.out) else arcsE places none t.inn
def netE (x : Nt) : Int := if x.ini.any badW = true then 2 else trE x.ini.length x.tr
theorem trE_drop {places : Int} {l : List Tn} {i : Nat} {t : Tn} (h : l[i]? = some t) : trE places (l.drop i) = if t.ev < 0 ∨ 32 ≤ t.ev then 2 else if arcsE places none t.inn = 0 then (if arcsE places none t.out = 0 then trE places (l.drop (i + 1)) else arcsE places none t.out) else arcsE places none t.inn := by
  obtain ⟨h1, rfl⟩ := List.getElem?_eq_some_iff.1 h
  rw [List.drop_eq_getElem_cons h1]; rfl
structure Few (x : Nt) : Prop where
  places : x.ini.length ≤ 5
  trans : x.tr.length ≤ 5
  inn : ∀ t ∈ x.tr, t.inn.length ≤ 5
  out : ∀ t ∈ x.tr, t.out.length ≤ 5
theorem trE_zero {places : Int} : ∀ {l : List Tn}, trE places l = 0 → ∀ t ∈ l, (0 ≤ t.ev ∧ t.ev < 32) ∧ arcsE places none t.inn = 0 ∧ arcsE places none t.out = 0
  | [], _, t, ht => by cases ht
  | a :: l, h, t, ht => by
    unfold trE at h
    split at h
    · cases h
    · split at h
      · split at h
        · rename_i h1 h2 h3
          rcases List.mem_cons.1 ht with rfl | ht
          · exact ⟨by omega, h2, h3⟩
          · exact trE_zero h t ht
        · rename_i h1 h2 h3; exact absurd h h3
      · rename_i h1 h2; exact absurd h h2
theorem netE_ok {x : Nt} (hf : Few x) (h : netE x = 0) : NetOk x := by
  unfold netE at h
  split at h
  · cases h
  · rename_i hb
    have ht := trE_zero h
    exact ⟨by have := hf.places; omega, fun y hy => by
      have : badW y = false := by
        cases hq : badW y with
        | false => rfl
        | true => exact absurd (List.any_eq_true.2 ⟨y, hy, hq⟩) hb
      exact badW_of this, by have := hf.trans; omega, fun t hm => (ht t hm).1, fun t hm => arcsE_ok (by have := hf.inn t hm; omega) (ht t hm).2.1, fun t hm => arcsE_ok (by have := hf.out t hm; omega) (ht t hm).2.2⟩
set_option maxHeartbeats 4000000 in
theorem checkG (x : Nt) (hf : Few x) : PSpec Try.prog 37 [netV x] (.int .i64 (netE x)) := by
  refine PSpec.of_rn 64 ok37 rfl (by rw [noRefs, noRef_net]; rfl) rfl ?_
  have hp := hf.places
  have ht5 := hf.trans
  have hp1 : ¬ (10 : Int) < x.ini.length := by omega
  have ht1 : ¬ (10 : Int) < x.tr.length := by omega
  have htok := tokensG x.ini (by omega)
  simp (maxSteps := 1000000) (disch := first | omega | (simp only [lenW] <;> omega)) only [s37, hp1, wordsN, Int.reduceGT, wordsR, ne_eq, words, Nat.reduceAdd, Nat.reduceEqDiff, Nat.reduceBEq, ↓reduceIte, reduceCtorEq, SX.exit.injEq, if_true, if_false, Int.reduceAdd, Int.reduceSub, Int.reduceMul, Int.reduceLT, Int.reduceLE, Int.reduceEq, Int.reduceNe, Int.reduceNeg, Int.reduceToNat, Nat.reduceMul, Nat.reduceLT, Nat.reduceSub, Nat.reduceLeDiff]
  refine cp htok ?_
  cases hb : x.ini.any badW with
  | true =>
    have hE : netE x = 2 := if_pos hb
    rw [hE]
    simp (maxSteps := 1000000) (disch := first | omega | (simp only [lenW] <;> omega)) only [wordsN, Int.reduceGT, wordsR, ne_eq, words, Nat.reduceAdd, Nat.reduceEqDiff, Nat.reduceBEq, ↓reduceIte, reduceCtorEq, SX.exit.injEq, if_true, if_false, Int.reduceAdd, Int.reduceSub, Int.reduceMul, Int.reduceLT, Int.reduceLE, Int.reduceEq, Int.reduceNe, Int.reduceNeg, Int.reduceToNat, Nat.reduceMul, Nat.reduceLT, Nat.reduceSub, Nat.reduceLeDiff]
    exact ⟨.inr trivial, _, rfl, Rn.same rfl⟩
  | false =>
    have hE : netE x = trE x.ini.length x.tr := if_neg (by rw [hb]; decide)
    rw [hE]
    simp (maxSteps := 1000000) (disch := first | omega | (simp only [lenW] <;> omega)) only [ht1, wordsN, Int.reduceGT, wordsR, ne_eq, words, Nat.reduceAdd, Nat.reduceEqDiff, Nat.reduceBEq, ↓reduceIte, reduceCtorEq, SX.exit.injEq, if_true, if_false, Int.reduceAdd, Int.reduceSub, Int.reduceMul, Int.reduceLT, Int.reduceLE, Int.reduceEq, Int.reduceNe, Int.reduceNeg, Int.reduceToNat, Nat.reduceMul, Nat.reduceLT, Nat.reduceSub, Nat.reduceLeDiff]
    refine wS_loopR 200 (fun i : Nat => [(1, .ptr 51 0 0), (24, tns x.tr), (25, .int .i64 x.tr.length), (26, .int .i64 i)]) (fun _ => [(51, .cells 0 [sli x.ini, tns x.tr])]) (fun i => i ≤ x.tr.length ∧ trE x.ini.length x.tr = trE x.ini.length (x.tr.drop i)) (fun i => x.tr.length - i) 0 ?_ ⟨Nat.zero_le _, rfl⟩ ?_
    · exact ⟨[(51, .blk 64 0)], rfl, (by repeat (first | exact RO.zero | exact RO.e | refine RO.set rfl ?_)), (by repeat' (first | exact RB.nil | (refine RnL.same ?_; first | rfl | (simp only [noRef, noRefs, noRefs_append, Bool.and_self, Bool.and_true, Bool.true_and, noRefs_ints, noRefs_lsts, noRefs_pad, noRefs_tnC, noRefs_arcC, noRefs_rowF]; done)) | exact RnM.keyM rfl | exact RnL.nil | refine RnL.cons ?_ ?_ | (refine Rn.same ?_; first | rfl | (simp only [noRef, noRefs, noRefs_append, Bool.and_self, Bool.and_true, Bool.true_and, noRefs_ints, noRefs_lsts, noRefs_pad, noRefs_tnC, noRefs_arcC, noRefs_rowF]; done)) | exact Rn.x1 rfl rfl | exact Rn.x2 rfl rfl | exact Rn.x3 rfl rfl | exact Rn.x4 rfl rfl | exact Rn.x5 rfl | exact Rn.x6 rfl | exact Rn.x7 rfl | refine RB.newnil rfl rfl ?_ | refine RB.cells rfl rfl rfl ?_ ?_ | refine RB.map rfl rfl rfl ?_ ?_ | refine RB.cellsB rfl rfl ?_ ?_ | refine RB.mapB rfl rfl ?_ ?_)), (by repeat (first | exact RT.nil | (refine RT.cons ?_ ?_; · (first | exact Rn.any | exact Rn.x1 rfl rfl | exact Rn.x2 rfl rfl | exact Rn.x3 rfl rfl | exact Rn.x4 rfl rfl | exact Rn.x5 rfl | exact Rn.x6 rfl | exact Rn.x7 rfl | (refine Rn.slot ?_ ?_; (first | rfl | (rw [Int.natCast_add]; rfl)); (first | rfl | (simp only [noRef, noRefs, noRefs_append, Bool.and_self, Bool.and_true, Bool.true_and, noRefs_ints, noRefs_lsts, noRefs_pad, noRefs_tnC, noRefs_arcC, noRefs_rowF]; done))) | (refine Rn.fn ?_ ?_ <;> (repeat' (first | exact RnL.nil | refine RnL.cons ?_ ?_ | exact Rn.same rfl | exact Rn.x6 rfl | exact Rn.x2 rfl rfl | exact Rn.x5 rfl | exact Rn.x1 rfl rfl)))))))⟩
    rintro i ⟨hi, he⟩
    by_cases hlt : i < x.tr.length
    · obtain ⟨t, ht⟩ := get_ex hlt
      have htm := List.mem_of_getElem? ht
      have hd := drop_tns ht
      rw [trE_drop ht] at he
      by_cases h1 : t.ev < 0
      · rw [if_pos (.inl h1)] at he
        rw [he]
        simp (maxSteps := 1000000) (disch := first | omega | (simp only [lenW] <;> omega)) only [hlt, hd, h1, wordsN, Int.reduceGT, wordsR, ne_eq, words, Nat.reduceAdd, Nat.reduceEqDiff, Nat.reduceBEq, ↓reduceIte, reduceCtorEq, SX.exit.injEq, if_true, if_false, Int.reduceAdd, Int.reduceSub, Int.reduceMul, Int.reduceLT, Int.reduceLE, Int.reduceEq, Int.reduceNe, Int.reduceNeg, Int.reduceToNat, Nat.reduceMul, Nat.reduceLT, Nat.reduceSub, Nat.reduceLeDiff]
        exact ⟨.inr trivial, _, rfl, Rn.same rfl⟩
      by_cases h2 : 32 ≤ t.ev
      · rw [if_pos (.inr h2)] at he
        rw [he]
        simp (maxSteps := 1000000) (disch := first | omega | (simp only [lenW] <;> omega)) only [hlt, hd, h1, h2, wordsN, Int.reduceGT, wordsR, ne_eq, words, Nat.reduceAdd, Nat.reduceEqDiff, Nat.reduceBEq, ↓reduceIte, reduceCtorEq, SX.exit.injEq, if_true, if_false, Int.reduceAdd, Int.reduceSub, Int.reduceMul, Int.reduceLT, Int.reduceLE, Int.reduceEq, Int.reduceNe, Int.reduceNeg, Int.reduceToNat, Nat.reduceMul, Nat.reduceLT, Nat.reduceSub, Nat.reduceLeDiff]
        exact ⟨.inr trivial, _, rfl, Rn.same rfl⟩
      rw [if_neg (by omega)] at he
      simp (maxSteps := 1000000) (disch := first | omega | (simp only [lenW] <;> omega)) only [hlt, hd, h1, h2, wordsN, Int.reduceGT, wordsR, ne_eq, words, Nat.reduceAdd, Nat.reduceEqDiff, Nat.reduceBEq, ↓reduceIte, reduceCtorEq, SX.exit.injEq, if_true, if_false, Int.reduceAdd, Int.reduceSub, Int.reduceMul, Int.reduceLT, Int.reduceLE, Int.reduceEq, Int.reduceNe, Int.reduceNeg, Int.reduceToNat, Nat.reduceMul, Nat.reduceLT, Nat.reduceSub, Nat.reduceLeDiff]
      have hc1 := checkArcsG t.inn x.ini.length (by have := hf.inn t htm; omega)
      have hc2 := checkArcsG t.out x.ini.length (by have := hf.out t htm; omega)
      refine wS_loopX 400 (fun j : Nat => [(1, .ptr 51 0 0), (24, tns x.tr), (25, .int .i64 x.tr.length), (26, .int .i64 i), (42, .sl 52 0 0 2 1), (43, .int .i64 2), (44, .int .i64 j)]) (fun _ => [(51, .cells 0 [sli x.ini, tns x.tr]), (52, .cells 0 [arcs t.inn, arcs t.out])])
        (fun j => j ≤ 2 ∧ (1 ≤ j → arcsE x.ini.length none t.inn = 0) ∧ (2 ≤ j → arcsE x.ini.length none t.out = 0)) (fun j => 2 - j) 0 3 500
        (fun _ : Unit => [(1, .ptr 51 0 0), (24, tns x.tr), (25, .int .i64 x.tr.length), (26, .int .i64 i)]) (fun _ => [(51, .cells 0 [sli x.ini, tns x.tr])]) (fun _ => arcsE x.ini.length none t.inn = 0 ∧ arcsE x.ini.length none t.out = 0) ?_ ⟨by omega, by omega, by omega⟩ ?_ ?_
      · refine ⟨[(51, .blk 51 0), (52, .blk 217 0)], rfl, (by repeat (first | exact RO.zero | exact RO.e | refine RO.set rfl ?_)), ?_, (by repeat (first | exact RT.nil | (refine RT.cons ?_ ?_; · (first | exact Rn.any | exact Rn.x1 rfl rfl | exact Rn.x2 rfl rfl | exact Rn.x3 rfl rfl | exact Rn.x4 rfl rfl | exact Rn.x5 rfl | exact Rn.x6 rfl | exact Rn.x7 rfl | (refine Rn.slot ?_ ?_; (first | rfl | (rw [Int.natCast_add]; rfl)); (first | rfl | (simp only [noRef, noRefs, noRefs_append, Bool.and_self, Bool.and_true, Bool.true_and, noRefs_ints, noRefs_lsts, noRefs_pad, noRefs_tnC, noRefs_arcC, noRefs_rowF]; done))) | (refine Rn.fn ?_ ?_ <;> (repeat' (first | exact RnL.nil | refine RnL.cons ?_ ?_ | exact Rn.same rfl | exact Rn.x6 rfl | exact Rn.x2 rfl rfl | exact Rn.x5 rfl | exact Rn.x1 rfl rfl)))))))⟩
        refine RB.cells rfl rfl rfl ?_ (RB.cells rfl rfl rfl (RnL.same (by simp only [noRefs, noRef_arcs]; rfl)) RB.nil)
        repeat' (first | exact RB.nil | (refine RnL.same ?_; first | rfl | (simp only [noRef, noRefs, noRefs_append, Bool.and_self, Bool.and_true, Bool.true_and, noRefs_ints, noRefs_lsts, noRefs_pad, noRefs_tnC, noRefs_arcC, noRefs_rowF]; done)) | exact RnM.keyM rfl | exact RnL.nil | refine RnL.cons ?_ ?_ | (refine Rn.same ?_; first | rfl | (simp only [noRef, noRefs, noRefs_append, Bool.and_self, Bool.and_true, Bool.true_and, noRefs_ints, noRefs_lsts, noRefs_pad, noRefs_tnC, noRefs_arcC, noRefs_rowF]; done)) | exact Rn.x1 rfl rfl | exact Rn.x2 rfl rfl | exact Rn.x3 rfl rfl | exact Rn.x4 rfl rfl | exact Rn.x5 rfl | exact Rn.x6 rfl | exact Rn.x7 rfl | refine RB.newnil rfl rfl ?_ | refine RB.cells rfl rfl rfl ?_ ?_ | refine RB.map rfl rfl rfl ?_ ?_ | refine RB.cellsB rfl rfl ?_ ?_ | refine RB.mapB rfl rfl ?_ ?_)
      · rintro j ⟨hj, k1, k2⟩
        have hna : noRefs [arcs t.inn, arcs t.out] = true := by simp only [noRefs, noRef_arcs]; rfl
        have hj3 : j = 0 ∨ j = 1 ∨ j = 2 := by omega
        rcases hj3 with rfl | rfl | rfl
        · by_cases h3 : arcsE x.ini.length none t.inn = 0
          · rw [h3] at hc1
            simp (maxSteps := 1000000) (disch := first | omega | (simp only [lenW] <;> omega)) only [wordsN, Int.reduceGT, wordsR, ne_eq, words, Nat.reduceAdd, Nat.reduceEqDiff, Nat.reduceBEq, ↓reduceIte, reduceCtorEq, SX.exit.injEq, if_true, if_false, Int.reduceAdd, Int.reduceSub, Int.reduceMul, Int.reduceLT, Int.reduceLE, Int.reduceEq, Int.reduceNe, Int.reduceNeg, Int.reduceToNat, Nat.reduceMul, Nat.reduceLT, Nat.reduceSub, Nat.reduceLeDiff]
            refine cp hc1 ?_
            simp (maxSteps := 1000000) (disch := first | omega | (simp only [lenW] <;> omega)) only [wordsN, Int.reduceGT, wordsR, ne_eq, words, Nat.reduceAdd, Nat.reduceEqDiff, Nat.reduceBEq, ↓reduceIte, reduceCtorEq, SX.exit.injEq, if_true, if_false, Int.reduceAdd, Int.reduceSub, Int.reduceMul, Int.reduceLT, Int.reduceLE, Int.reduceEq, Int.reduceNe, Int.reduceNeg, Int.reduceToNat, Nat.reduceMul, Nat.reduceLT, Nat.reduceSub, Nat.reduceLeDiff]
            refine ⟨1, by omega, ⟨by omega, fun _ => h3, fun h => by omega⟩, ?_⟩
            refine ⟨[(51, .blk 51 0), (52, .blk 52 0)], rfl, (by repeat (first | exact RO.zero | exact RO.e | refine RO.set rfl ?_)), ?_, (by repeat (first | exact RT.nil | (refine RT.cons ?_ ?_; · (first | exact Rn.any | exact Rn.x1 rfl rfl | exact Rn.x2 rfl rfl | exact Rn.x3 rfl rfl | exact Rn.x4 rfl rfl | exact Rn.x5 rfl | exact Rn.x6 rfl | exact Rn.x7 rfl | (refine Rn.slot ?_ ?_; (first | rfl | (rw [Int.natCast_add]; rfl)); (first | rfl | (simp only [noRef, noRefs, noRefs_append, Bool.and_self, Bool.and_true, Bool.true_and, noRefs_ints, noRefs_lsts, noRefs_pad, noRefs_tnC, noRefs_arcC, noRefs_rowF]; done))) | (refine Rn.fn ?_ ?_ <;> (repeat' (first | exact RnL.nil | refine RnL.cons ?_ ?_ | exact Rn.same rfl | exact Rn.x6 rfl | exact Rn.x2 rfl rfl | exact Rn.x5 rfl | exact Rn.x1 rfl rfl)))))))⟩
            refine RB.cells rfl rfl rfl ?_ (RB.cells rfl rfl rfl (RnL.same hna) RB.nil)
            repeat' (first | exact RB.nil | (refine RnL.same ?_; first | rfl | (simp only [noRef, noRefs, noRefs_append, Bool.and_self, Bool.and_true, Bool.true_and, noRefs_ints, noRefs_lsts, noRefs_pad, noRefs_tnC, noRefs_arcC, noRefs_rowF]; done)) | exact RnM.keyM rfl | exact RnL.nil | refine RnL.cons ?_ ?_ | (refine Rn.same ?_; first | rfl | (simp only [noRef, noRefs, noRefs_append, Bool.and_self, Bool.and_true, Bool.true_and, noRefs_ints, noRefs_lsts, noRefs_pad, noRefs_tnC, noRefs_arcC, noRefs_rowF]; done)) | exact Rn.x1 rfl rfl | exact Rn.x2 rfl rfl | exact Rn.x3 rfl rfl | exact Rn.x4 rfl rfl | exact Rn.x5 rfl | exact Rn.x6 rfl | exact Rn.x7 rfl | refine RB.newnil rfl rfl ?_ | refine RB.cells rfl rfl rfl ?_ ?_ | refine RB.map rfl rfl rfl ?_ ?_ | refine RB.cellsB rfl rfl ?_ ?_ | refine RB.mapB rfl rfl ?_ ?_)
          · rw [if_neg h3] at he
            rw [he]
            simp (maxSteps := 1000000) (disch := first | omega | (simp only [lenW] <;> omega)) only [wordsN, Int.reduceGT, wordsR, ne_eq, words, Nat.reduceAdd, Nat.reduceEqDiff, Nat.reduceBEq, ↓reduceIte, reduceCtorEq, SX.exit.injEq, if_true, if_false, Int.reduceAdd, Int.reduceSub, Int.reduceMul, Int.reduceLT, Int.reduceLE, Int.reduceEq, Int.reduceNe, Int.reduceNeg, Int.reduceToNat, Nat.reduceMul, Nat.reduceLT, Nat.reduceSub, Nat.reduceLeDiff]
            refine cp hc1 ?_
            simp (maxSteps := 1000000) (disch := first | omega | (simp only [lenW] <;> omega)) only [h3, wordsN, Int.reduceGT, wordsR, ne_eq, words, Nat.reduceAdd, Nat.reduceEqDiff, Nat.reduceBEq, ↓reduceIte, reduceCtorEq, SX.exit.injEq, if_true, if_false, Int.reduceAdd, Int.reduceSub, Int.reduceMul, Int.reduceLT, Int.reduceLE, Int.reduceEq, Int.reduceNe, Int.reduceNeg, Int.reduceToNat, Nat.reduceMul, Nat.reduceLT, Nat.reduceSub, Nat.reduceLeDiff]
            exact ⟨.inr trivial, _, rfl, Rn.same rfl⟩
        · have h3 := k1 (Nat.le_refl _)
          rw [if_pos h3] at he
          have hj1 : ((1 : Nat) : Int) < 2 := by decide
          by_cases h4 : arcsE x.ini.length none t.out = 0
          · rw [h4] at hc2
            simp (maxSteps := 1000000) (disch := first | omega | (simp only [lenW] <;> omega)) only [wordsN, Int.reduceGT, wordsR, ne_eq, words, Nat.reduceAdd, Nat.reduceEqDiff, Nat.reduceBEq, ↓reduceIte, reduceCtorEq, SX.exit.injEq, if_true, if_false, Int.reduceAdd, Int.reduceSub, Int.reduceMul, Int.reduceLT, Int.reduceLE, Int.reduceEq, Int.reduceNe, Int.reduceNeg, Int.reduceToNat, Nat.reduceMul, Nat.reduceLT, Nat.reduceSub, Nat.reduceLeDiff]
            refine cp hc2 ?_
            simp (maxSteps := 1000000) (disch := first | omega | (simp only [lenW] <;> omega)) only [wordsN, Int.reduceGT, wordsR, ne_eq, words, Nat.reduceAdd, Nat.reduceEqDiff, Nat.reduceBEq, ↓reduceIte, reduceCtorEq, SX.exit.injEq, if_true, if_false, Int.reduceAdd, Int.reduceSub, Int.reduceMul, Int.reduceLT, Int.reduceLE, Int.reduceEq, Int.reduceNe, Int.reduceNeg, Int.reduceToNat, Nat.reduceMul, Nat.reduceLT, Nat.reduceSub, Nat.reduceLeDiff]
            refine ⟨2, by omega, ⟨by omega, fun _ => h3, fun _ => h4⟩, ?_⟩
            refine ⟨[(51, .blk 51 0), (52, .blk 52 0)], rfl, (by repeat (first | exact RO.zero | exact RO.e | refine RO.set rfl ?_)), ?_, (by repeat (first | exact RT.nil | (refine RT.cons ?_ ?_; · (first | exact Rn.any | exact Rn.x1 rfl rfl | exact Rn.x2 rfl rfl | exact Rn.x3 rfl rfl | exact Rn.x4 rfl rfl | exact Rn.x5 rfl | exact Rn.x6 rfl | exact Rn.x7 rfl | (refine Rn.slot ?_ ?_; (first | rfl | (rw [Int.natCast_add]; rfl)); (first | rfl | (simp only [noRef, noRefs, noRefs_append, Bool.and_self, Bool.and_true, Bool.true_and, noRefs_ints, noRefs_lsts, noRefs_pad, noRefs_tnC, noRefs_arcC, noRefs_rowF]; done))) | (refine Rn.fn ?_ ?_ <;> (repeat' (first | exact RnL.nil | refine RnL.cons ?_ ?_ | exact Rn.same rfl | exact Rn.x6 rfl | exact Rn.x2 rfl rfl | exact Rn.x5 rfl | exact Rn.x1 rfl rfl)))))))⟩
            refine RB.cells rfl rfl rfl ?_ (RB.cells rfl rfl rfl (RnL.same hna) RB.nil)
            repeat' (first | exact RB.nil | (refine RnL.same ?_; first | rfl | (simp only [noRef, noRefs, noRefs_append, Bool.and_self, Bool.and_true, Bool.true_and, noRefs_ints, noRefs_lsts, noRefs_pad, noRefs_tnC, noRefs_arcC, noRefs_rowF]; done)) | exact RnM.keyM rfl | exact RnL.nil | refine RnL.cons ?_ ?_ | (refine Rn.same ?_; first | rfl | (simp only [noRef, noRefs, noRefs_append, Bool.and_self, Bool.and_true, Bool.true_and, noRefs_ints, noRefs_lsts, noRefs_pad, noRefs_tnC, noRefs_arcC, noRefs_rowF]; done)) | exact Rn.x1 rfl rfl | exact Rn.x2 rfl rfl | exact Rn.x3 rfl rfl | exact Rn.x4 rfl rfl | exact Rn.x5 rfl | exact Rn.x6 rfl | exact Rn.x7 rfl | refine RB.newnil rfl rfl ?_ | refine RB.cells rfl rfl rfl ?_ ?_ | refine RB.map rfl rfl rfl ?_ ?_ | refine RB.cellsB rfl rfl ?_ ?_ | refine RB.mapB rfl rfl ?_ ?_)
          · rw [if_neg h4] at he
            rw [he]
            simp (maxSteps := 1000000) (disch := first | omega | (simp only [lenW] <;> omega)) only [wordsN, Int.reduceGT, wordsR, ne_eq, words, Nat.reduceAdd, Nat.reduceEqDiff, Nat.reduceBEq, ↓reduceIte, reduceCtorEq, SX.exit.injEq, if_true, if_false, Int.reduceAdd, Int.reduceSub, Int.reduceMul, Int.reduceLT, Int.reduceLE, Int.reduceEq, Int.reduceNe, Int.reduceNeg, Int.reduceToNat, Nat.reduceMul, Nat.reduceLT, Nat.reduceSub, Nat.reduceLeDiff]
            refine cp hc2 ?_
            simp (maxSteps := 1000000) (disch := first | omega | (simp only [lenW] <;> omega)) only [h4, wordsN, Int.reduceGT, wordsR, ne_eq, words, Nat.reduceAdd, Nat.reduceEqDiff, Nat.reduceBEq, ↓reduceIte, reduceCtorEq, SX.exit.injEq, if_true, if_false, Int.reduceAdd, Int.reduceSub, Int.reduceMul, Int.reduceLT, Int.reduceLE, Int.reduceEq, Int.reduceNe, Int.reduceNeg, Int.reduceToNat, Nat.reduceMul, Nat.reduceLT, Nat.reduceSub, Nat.reduceLeDiff]
            exact ⟨.inr trivial, _, rfl, Rn.same rfl⟩
        · simp (maxSteps := 1000000) (disch := first | omega | (simp only [lenW] <;> omega)) only [wordsN, Int.reduceGT, wordsR, ne_eq, words, Nat.reduceAdd, Nat.reduceEqDiff, Nat.reduceBEq, ↓reduceIte, reduceCtorEq, SX.exit.injEq, if_true, if_false, Int.reduceAdd, Int.reduceSub, Int.reduceMul, Int.reduceLT, Int.reduceLE, Int.reduceEq, Int.reduceNe, Int.reduceNeg, Int.reduceToNat, Nat.reduceMul, Nat.reduceLT, Nat.reduceSub, Nat.reduceLeDiff]
          exact ⟨(), ⟨k1 (by omega), k2 (by omega)⟩, ⟨[(51, .blk 51 0)], rfl, (by repeat (first | exact RO.zero | exact RO.e | refine RO.set rfl ?_)), (by repeat' (first | exact RB.nil | (refine RnL.same ?_; first | rfl | (simp only [noRef, noRefs, noRefs_append, Bool.and_self, Bool.and_true, Bool.true_and, noRefs_ints, noRefs_lsts, noRefs_pad, noRefs_tnC, noRefs_arcC, noRefs_rowF]; done)) | exact RnM.keyM rfl | exact RnL.nil | refine RnL.cons ?_ ?_ | (refine Rn.same ?_; first | rfl | (simp only [noRef, noRefs, noRefs_append, Bool.and_self, Bool.and_true, Bool.true_and, noRefs_ints, noRefs_lsts, noRefs_pad, noRefs_tnC, noRefs_arcC, noRefs_rowF]; done)) | exact Rn.x1 rfl rfl | exact Rn.x2 rfl rfl | exact Rn.x3 rfl rfl | exact Rn.x4 rfl rfl | exact Rn.x5 rfl | exact Rn.x6 rfl | exact Rn.x7 rfl | refine RB.newnil rfl rfl ?_ | refine RB.cells rfl rfl rfl ?_ ?_ | refine RB.map rfl rfl rfl ?_ ?_ | refine RB.cellsB rfl rfl ?_ ?_ | refine RB.mapB rfl rfl ?_ ?_)), (by repeat (first | exact RT.nil | (refine RT.cons ?_ ?_; · (first | exact Rn.any | exact Rn.x1 rfl rfl | exact Rn.x2 rfl rfl | exact Rn.x3 rfl rfl | exact Rn.x4 rfl rfl | exact Rn.x5 rfl | exact Rn.x6 rfl | exact Rn.x7 rfl | (refine Rn.slot ?_ ?_; (first | rfl | (rw [Int.natCast_add]; rfl)); (first | rfl | (simp only [noRef, noRefs, noRefs_append, Bool.and_self, Bool.and_true, Bool.true_and, noRefs_ints, noRefs_lsts, noRefs_pad, noRefs_tnC, noRefs_arcC, noRefs_rowF]; done))) | (refine Rn.fn ?_ ?_ <;> (repeat' (first | exact RnL.nil | refine RnL.cons ?_ ?_ | exact Rn.same rfl | exact Rn.x6 rfl | exact Rn.x2 rfl rfl | exact Rn.x5 rfl | exact Rn.x1 rfl rfl)))))))⟩⟩
      rintro _ ⟨h3, h4⟩
      rw [if_pos h3, if_pos h4] at he
      simp (maxSteps := 1000000) (disch := first | omega | (simp only [lenW] <;> omega)) only [wordsN, Int.reduceGT, wordsR, ne_eq, words, Nat.reduceAdd, Nat.reduceEqDiff, Nat.reduceBEq, ↓reduceIte, reduceCtorEq, SX.exit.injEq, if_true, if_false, Int.reduceAdd, Int.reduceSub, Int.reduceMul, Int.reduceLT, Int.reduceLE, Int.reduceEq, Int.reduceNe, Int.reduceNeg, Int.reduceToNat, Nat.reduceMul, Nat.reduceLT, Nat.reduceSub, Nat.reduceLeDiff]
      exact ⟨i + 1, by omega, ⟨by omega, he⟩, ⟨[(51, .blk 51 0)], rfl, (by repeat (first | exact RO.zero | exact RO.e | refine RO.set rfl ?_)), (by repeat' (first | exact RB.nil | (refine RnL.same ?_; first | rfl | (simp only [noRef, noRefs, noRefs_append, Bool.and_self, Bool.and_true, Bool.true_and, noRefs_ints, noRefs_lsts, noRefs_pad, noRefs_tnC, noRefs_arcC, noRefs_rowF]; done)) | exact RnM.keyM rfl | exact RnL.nil | refine RnL.cons ?_ ?_ | (refine Rn.same ?_; first | rfl | (simp only [noRef, noRefs, noRefs_append, Bool.and_self, Bool.and_true, Bool.true_and, noRefs_ints, noRefs_lsts, noRefs_pad, noRefs_tnC, noRefs_arcC, noRefs_rowF]; done)) | exact Rn.x1 rfl rfl | exact Rn.x2 rfl rfl | exact Rn.x3 rfl rfl | exact Rn.x4 rfl rfl | exact Rn.x5 rfl | exact Rn.x6 rfl | exact Rn.x7 rfl | refine RB.newnil rfl rfl ?_ | refine RB.cells rfl rfl rfl ?_ ?_ | refine RB.map rfl rfl rfl ?_ ?_ | refine RB.cellsB rfl rfl ?_ ?_ | refine RB.mapB rfl rfl ?_ ?_)), (by repeat (first | exact RT.nil | (refine RT.cons ?_ ?_; · (first | exact Rn.any | exact Rn.x1 rfl rfl | exact Rn.x2 rfl rfl | exact Rn.x3 rfl rfl | exact Rn.x4 rfl rfl | exact Rn.x5 rfl | exact Rn.x6 rfl | exact Rn.x7 rfl | (refine Rn.slot ?_ ?_; (first | rfl | (rw [Int.natCast_add]; rfl)); (first | rfl | (simp only [noRef, noRefs, noRefs_append, Bool.and_self, Bool.and_true, Bool.true_and, noRefs_ints, noRefs_lsts, noRefs_pad, noRefs_tnC, noRefs_arcC, noRefs_rowF]; done))) | (refine Rn.fn ?_ ?_ <;> (repeat' (first | exact RnL.nil | refine RnL.cons ?_ ?_ | exact Rn.same rfl | exact Rn.x6 rfl | exact Rn.x2 rfl rfl | exact Rn.x5 rfl | exact Rn.x1 rfl rfl)))))))⟩⟩
    · have e : i = x.tr.length := by omega
      rw [he, e, List.drop_length]
      simp (maxSteps := 1000000) (disch := first | omega | (simp only [lenW] <;> omega)) only [hlt, wordsN, Int.reduceGT, wordsR, ne_eq, words, Nat.reduceAdd, Nat.reduceEqDiff, Nat.reduceBEq, ↓reduceIte, reduceCtorEq, SX.exit.injEq, if_true, if_false, Int.reduceAdd, Int.reduceSub, Int.reduceMul, Int.reduceLT, Int.reduceLE, Int.reduceEq, Int.reduceNe, Int.reduceNeg, Int.reduceToNat, Nat.reduceMul, Nat.reduceLT, Nat.reduceSub, Nat.reduceLeDiff]
      exact ⟨.inr trivial, _, rfl, Rn.same rfl⟩
end Go.AM.SN
set_option maxRecDepth 100000
namespace Go.AM.SV
open Go.Proofs
def s12 : SFn := ⟨106, [.tmp 0],
 (.seq (.region [⟨(some 0), .mov (.c (.bool false)), [], none⟩] [] [0])
 (.seq (.region [⟨(some 14), .call .pure (.f 38) [], [], none⟩,
 ⟨(some 15), .call .pure (.f 14) [(.t 14), (.c (.int .i64 1))], [0, 0], none⟩,
 ⟨(some 13), .mov (.t 15), [1], none⟩,
 ⟨(some 16), .extract 0 (.t 13), [2], none⟩,
 ⟨(some 17), .extract 1 (.t 13), [2], none⟩,
 ⟨(some 1), .mov (.t 16), [3, 1, 0, 1, 2, 3], none⟩,
 ⟨(some 2), .mov (.t 17), [4, 5, 0, 1, 2, 3, 4, 5], none⟩] [] [14, 15, 13, 16, 17])
 (.seq (.region [⟨(some 19), .call .pure (.f 38) [], [], none⟩,
 ⟨(some 20), .bslice true .dyn 1 2 [(.int .i64 0), (.int .i64 0)] [(0, 1, (.c (.int .i64 1))), (1, 1, (.c (.int .i64 1)))], [], none⟩,
 ⟨(some 21), .bslice true .dyn 1 1 [.nilsl] [(0, 1, (.t 20))], [1], none⟩,
 ⟨(some 22), .call .pure (.f 23) [(.t 19), (.t 21)], [0, 2, 0], none⟩,
 ⟨(some 18), .mov (.t 22), [3], none⟩,
 ⟨(some 23), .extract 0 (.t 18), [4], none⟩,
 ⟨(some 24), .extract 1 (.t 18), [4], none⟩,
 ⟨(some 3), .mov (.t 23), [5, 3, 0, 1, 2, 3, 4, 5], none⟩,
 ⟨(some 4), .mov (.t 24), [6, 7, 0, 1, 2, 3, 4, 5, 6, 7], none⟩] [] [19, 20, 21, 22, 18, 23, 24])
 (.seq (.region [⟨(some 26), .call .pure (.f 38) [], [], none⟩,
 ⟨(some 27), .bslice true .dyn 1 2 [(.int .i64 0), (.int .i64 0)] [(0, 1, (.c (.int .i64 1))), (1, 1, (.c (.int .i64 1)))], [], none⟩,
 ⟨(some 28), .bslice true .dyn 1 1 [.nilsl] [(0, 1, (.t 27))], [1], none⟩,
 ⟨(some 29), .bslice true .dyn 1 2 [(.int .i64 0), (.int .i64 0)] [(0, 1, (.c (.int .i64 1))), (1, 1, (.c (.int .i64 1)))], [], none⟩,
 ⟨(some 30), .call .pure (.f 24) [(.t 26), (.t 28), (.t 29)], [0, 2, 3, 0], none⟩,
 ⟨(some 25), .mov (.t 30), [4], none⟩,
 ⟨(some 31), .extract 0 (.t 25), [5], none⟩,
 ⟨(some 32), .extract 1 (.t 25), [5], none⟩,
 ⟨(some 33), .extract 2 (.t 25), [5], none⟩,
 ⟨(some 5), .mov (.t 31), [6, 4, 0, 1, 2, 3, 4, 5, 6], none⟩,
 ⟨(some 6), .mov (.t 32), [7, 9, 0, 1, 2, 3, 4, 5, 6, 7, 9], none⟩,
 ⟨(some 7), .mov (.t 33), [8, 10, 0, 1, 2, 3, 4, 5, 6, 7, 8, 9, 10], none⟩] [] [26, 27, 28, 29, 30, 25, 31, 32, 33, 5])
 (.seq (.region [⟨(some 34), .bslice true .dyn 1 2 [(.int .i64 0), (.int .i64 0)] [(0, 1, (.c (.int .i64 4))), (1, 1, (.c (.int .i64 0)))], [], none⟩,
 ⟨(some 35), .build [(.int .i64 0), (.int .i64 0)] [(0, 1, (.c (.int .i64 0))), (1, 1, (.c (.int .i64 2)))], [], none⟩,
 ⟨(some 36), .bslice true .dyn 2 1 [(.int .i64 0), (.int .i64 0)] [(0, 2, (.t 35))], [1], none⟩,
 ⟨(some 37), .build [(.int .i64 0), (.int .i64 0)] [(0, 1, (.c (.int .i64 1))), (1, 1, (.c (.int .i64 3)))], [], none⟩,
 ⟨(some 38), .bslice true .dyn 2 1 [(.int .i64 0), (.int .i64 0)] [(0, 2, (.t 37))], [3], none⟩,
 ⟨(some 39), .build [(.int .i64 0), .nilsl, .nilsl] [(1, 1, (.t 36)), (2, 1, (.t 38))], [2, 4], none⟩,
 ⟨(some 40), .bslice true .dyn 3 1 [(.int .i64 0), .nilsl, .nilsl] [(0, 3, (.t 39))], [5], none⟩,
 ⟨(some 41), .build [.nilsl, .nilsl] [(0, 1, (.t 34)), (1, 1, (.t 40))], [0, 6], none⟩,
 ⟨(some 8), .alloc .dyn (.agg [.nilsl, .nilsl]), [], none⟩,
 ⟨none, .store 2 (.t 8) (.t 41), [8, 7, 0, 1, 2, 3, 4, 5, 6, 7, 8], none⟩] [] [34, 35, 36, 37, 38, 39, 40, 41])
 (.seq (.region [⟨(some 43), .load (some 2) (.t 8), [], none⟩,
 ⟨(some 44), .call .pure (.f 14) [(.t 43), (.c (.int .i64 1))], [0], none⟩,
 ⟨(some 42), .mov (.t 44), [1], none⟩,
 ⟨(some 45), .extract 0 (.t 42), [2], none⟩,
 ⟨(some 46), .extract 1 (.t 42), [2], none⟩,
 ⟨(some 9), .mov (.t 45), [3, 1, 0, 1, 2, 3], none⟩,
 ⟨(some 10), .mov (.t 46), [4, 5, 0, 1, 2, 3, 4, 5], none⟩] [] [43, 44, 42, 45, 46])
 (.seq (.region [⟨(some 48), .load (some 2) (.t 8), [], none⟩,
 ⟨(some 49), .call .pure (.f 15) [(.t 48), (.c (.int .i64 2))], [0], none⟩,
 ⟨(some 47), .mov (.t 49), [1], none⟩,
 ⟨(some 50), .extract 0 (.t 47), [2], none⟩,
 ⟨(some 51), .extract 1 (.t 47), [2], none⟩,
 ⟨(some 11), .mov (.t 50), [3, 1, 0, 1, 2, 3], none⟩,
 ⟨(some 12), .mov (.t 51), [4, 5, 0, 1, 2, 3, 4, 5], none⟩] [] [8, 48, 49, 47, 50, 51])
 (.seq (.region [⟨(some 52), .mov (.t 2), [], none⟩,
 ⟨(some 53), .bin .eql (.t 52) (.c (.int .i64 0)), [0], none⟩,
 ⟨(some 54), .mov (.t 53), [1], none⟩,
 ⟨(some 55), .mov (.t 1), [2], (some (54, true))⟩,
 ⟨(some 56), .len 1 (.t 55), [3, 2], (some (54, true))⟩,
 ⟨(some 57), .bin .eql (.t 56) (.c (.int .i64 1)), [4, 2], (some (54, true))⟩,
 ⟨(some 58), .pick (.t 54) (.t 57) (.c (.bool false)), [2, 5], none⟩,
 ⟨(some 59), .mov (.t 58), [6, 2], none⟩,
 ⟨(some 60), .mov (.t 1), [7], (some (59, true))⟩,
 ⟨(some 61), .iaddr none 1 (.t 60) (.c (.int .i64 0)), [8, 7], (some (59, true))⟩,
 ⟨(some 62), .load none (.t 61), [9, 7], (some (59, true))⟩,
 ⟨(some 63), .bslice true .dyn 1 2 [(.int .i64 0), (.int .i64 0)] [(0, 1, (.c (.int .i64 1))), (1, 1, (.c (.int .i64 1)))], [7], (some (59, true))⟩,
 ⟨(some 64), .call .pure (.f 29) [(.t 62), (.t 63)], [10, 11, 7, 7], (some (59, true))⟩,
 ⟨(some 65), .pick (.t 59) (.t 64) (.c (.bool false)), [7, 12], none⟩,
 ⟨(some 66), .mov (.t 65), [13, 12], none⟩,
 ⟨(some 67), .mov (.t 4), [14], (some (66, true))⟩,
 ⟨(some 68), .bin .eql (.t 67) (.c (.int .i64 0)), [15, 14], (some (66, true))⟩,
 ⟨(some 69), .pick (.t 66) (.t 68) (.c (.bool false)), [14, 16], none⟩,
 ⟨(some 70), .mov (.t 69), [17, 14], none⟩,
 ⟨(some 71), .mov (.t 3), [18], (some (70, true))⟩,
 ⟨(some 72), .bslice true .dyn 1 2 [(.int .i64 0), (.int .i64 0)] [(0, 1, (.c (.int .i64 1))), (1, 1, (.c (.int .i64 1)))], [18], (some (70, true))⟩,
 ⟨(some 73), .call .pure (.f 29) [(.t 71), (.t 72)], [19, 20, 18, 18], (some (70, true))⟩,
 ⟨(some 74), .pick (.t 70) (.t 73) (.c (.bool false)), [18, 21], none⟩,
 ⟨(some 75), .mov (.t 74), [22, 21], none⟩,
 ⟨(some 76), .mov (.t 7), [23], (some (75, true))⟩,
 ⟨(some 77), .bin .eql (.t 76) (.c (.int .i64 0)), [24, 23], (some (75, true))⟩,
 ⟨(some 78), .pick (.t 75) (.t 77) (.c (.bool false)), [23, 25], none⟩,
 ⟨(some 79), .mov (.t 78), [26, 23], none⟩,
 ⟨(some 80), .mov (.t 6), [27], (some (79, true))⟩,
 ⟨(some 81), .pick (.t 79) (.t 80) (.c (.bool false)), [27, 28], none⟩,
 ⟨(some 82), .mov (.t 81), [29, 27], none⟩,
 ⟨(some 83), .mov (.t 10), [30], (some (82, true))⟩,
 ⟨(some 84), .bin .eql (.t 83) (.c (.int .i64 0)), [31, 30], (some (82, true))⟩,
 ⟨(some 85), .pick (.t 82) (.t 84) (.c (.bool false)), [30, 32], none⟩,
 ⟨(some 86), .mov (.t 85), [33, 30], none⟩,
 ⟨(some 87), .mov (.t 9), [34], (some (86, true))⟩,
 ⟨(some 88), .len 1 (.t 87), [35, 34], (some (86, true))⟩,
 ⟨(some 89), .bin .eql (.t 88) (.c (.int .i64 1)), [36, 34], (some (86, true))⟩,
 ⟨(some 90), .pick (.t 86) (.t 89) (.c (.bool false)), [34, 37], none⟩,
 ⟨(some 91), .mov (.t 90), [38, 34], none⟩,
 ⟨(some 92), .mov (.t 9), [39], (some (91, true))⟩,
 ⟨(some 93), .iaddr none 1 (.t 92) (.c (.int .i64 0)), [40, 39], (some (91, true))⟩,
 ⟨(some 94), .load none (.t 93), [41, 39], (some (91, true))⟩,
 ⟨(some 95), .bslice true .dyn 1 2 [(.int .i64 0), (.int .i64 0)] [(0, 1, (.c (.int .i64 3))), (1, 1, (.c (.int .i64 2)))], [39], (some (91, true))⟩,
 ⟨(some 96), .call .pure (.f 29) [(.t 94), (.t 95)], [42, 43, 39, 39], (some (91, true))⟩,
 ⟨(some 97), .pick (.t 91) (.t 96) (.c (.bool false)), [39, 44], none⟩,
 ⟨(some 98), .mov (.t 97), [45, 44], none⟩,
 ⟨(some 99), .mov (.t 12), [46], (some (98, true))⟩,
 ⟨(some 100), .bin .eql (.t 99) (.c (.int .i64 0)), [47, 46], (some (98, true))⟩,
 ⟨(some 101), .pick (.t 98) (.t 100) (.c (.bool false)), [46, 48], none⟩,
 ⟨(some 102), .mov (.t 101), [49, 46], none⟩,
 ⟨(some 103), .mov (.t 11), [50], (some (102, true))⟩,
 ⟨(some 104), .un .not (.t 103), [51, 50], (some (102, true))⟩,
 ⟨(some 105), .pick (.t 102) (.t 104) (.c (.bool false)), [50, 52], none⟩,
 ⟨(some 0), .mov (.t 105), [53, 50, 0, 1, 2, 3, 4, 5, 6, 7, 8, 9, 10, 11, 12, 13, 14, 15, 16, 17, 18, 19, 20, 21, 22, 23, 24, 25, 26, 27, 28, 29, 30, 31, 32, 33, 34, 35, 36, 37, 38, 39, 40, 41, 42, 43, 44, 45, 46, 47, 48, 49, 50, 51, 52, 53], none⟩] [] [1, 2, 3, 4, 6, 7, 9, 10, 11, 12, 52, 53, 54, 55, 56, 57, 58, 59, 60, 61, 62, 63, 64, 65, 66, 67, 68, 69, 70, 71, 72, 73, 74, 75, 76, 77, 78, 79, 80, 81, 82, 83, 84, 85, 86, 87, 88, 89, 90, 91, 92, 93, 94, 95, 96, 97, 98, 99, 100, 101, 102, 103, 104, 105])
 .ret))))))))⟩
def s38 : SFn := ⟨14, [.cell 0 (some 2)],
 (.seq (.region [⟨(some 0), .alloc .dyn (.agg [.nilsl, .nilsl]), [], none⟩] [] [])
 (.seq (.region [⟨(some 1), .bslice true .dyn 1 2 [(.int .i64 0), (.int .i64 0)] [(0, 1, (.c (.int .i64 1))), (1, 1, (.c (.int .i64 0)))], [], none⟩,
 ⟨(some 2), .build [(.int .i64 0), (.int .i64 0)] [(0, 1, (.c (.int .i64 0))), (1, 1, (.c (.int .i64 1)))], [], none⟩,
 ⟨(some 3), .bslice true .dyn 2 1 [(.int .i64 0), (.int .i64 0)] [(0, 2, (.t 2))], [1], none⟩,
 ⟨(some 4), .build [(.int .i64 0), (.int .i64 0)] [(0, 1, (.c (.int .i64 1))), (1, 1, (.c (.int .i64 1)))], [], none⟩,
 ⟨(some 5), .bslice true .dyn 2 1 [(.int .i64 0), (.int .i64 0)] [(0, 2, (.t 4))], [3], none⟩,
 ⟨(some 6), .build [(.int .i64 0), .nilsl, .nilsl] [(0, 1, (.c (.int .i64 0))), (1, 1, (.t 3)), (2, 1, (.t 5))], [2, 4], none⟩,
 ⟨(some 7), .build [(.int .i64 0), (.int .i64 0)] [(0, 1, (.c (.int .i64 1))), (1, 1, (.c (.int .i64 1)))], [], none⟩,
 ⟨(some 8), .bslice true .dyn 2 1 [(.int .i64 0), (.int .i64 0)] [(0, 2, (.t 7))], [6], none⟩,
 ⟨(some 9), .build [(.int .i64 0), (.int .i64 0)] [(0, 1, (.c (.int .i64 0))), (1, 1, (.c (.int .i64 1)))], [], none⟩,
 ⟨(some 10), .bslice true .dyn 2 1 [(.int .i64 0), (.int .i64 0)] [(0, 2, (.t 9))], [8], none⟩,
 ⟨(some 11), .build [(.int .i64 0), .nilsl, .nilsl] [(0, 1, (.c (.int .i64 1))), (1, 1, (.t 8)), (2, 1, (.t 10))], [7, 9], none⟩,
 ⟨(some 12), .bslice true .dyn 3 2 [(.int .i64 0), .nilsl, .nilsl, (.int .i64 0), .nilsl, .nilsl] [(0, 3, (.t 6)), (3, 3, (.t 11))], [5, 10], none⟩,
 ⟨(some 13), .build [.nilsl, .nilsl] [(0, 1, (.t 1)), (1, 1, (.t 12))], [0, 11], none⟩,
 ⟨none, .store 2 (.t 0) (.t 13), [12, 0, 1, 2, 3, 4, 5, 6, 7, 8, 9, 10, 11, 12], none⟩] [] [1, 2, 3, 4, 5, 6, 7, 8, 9, 10, 11, 12, 13])
 .ret))⟩
theorem ok12 : okFn Try.prog 12 s12 = true := by kernel_rfl
theorem ok38 : okFn Try.prog 38 s38 = true := by kernel_rfl
end Go.AM.SV
namespace Go.AM.SN
open Go.Proofs
set_option maxRecDepth 100000
set_option linter.unusedSimpArgs false
set_option linter.unusedVariables false
def exN : Nt := ⟨[1, 0], [⟨0, [(0, 1)], [(1, 1)]⟩, ⟨1, [(1, 1)], [(0, 1)]⟩]⟩
def twoN : Nt := ⟨[4, 0], [⟨0, [(0, 2)], [(1, 3)]⟩]⟩
theorem arcs1_ok {p w n : Int} (h : 0 ≤ p ∧ p < n ∧ 1 ≤ w ∧ w ≤ 8) : ArcsOk [(p, w)] n where
  len := by simp
  each := fun i a ha => by
    cases i with
    | zero => simp at ha; subst ha; exact h
    | succ i => simp at ha
  up := fun i a b ha hb => by simp at hb
theorem exN_ok : NetOk exN where
  places := by decide
  tokens := by unfold okT; decide
  trans := by decide
  ev := by decide
  inn := fun t ht => by
    simp only [exN, List.mem_cons, List.not_mem_nil, or_false] at ht
    rcases ht with rfl | rfl <;> exact arcs1_ok (by decide)
  out := fun t ht => by
    simp only [exN, List.mem_cons, List.not_mem_nil, or_false] at ht
    rcases ht with rfl | rfl <;> exact arcs1_ok (by decide)
theorem twoN_ok : NetOk twoN where
  places := by decide
  tokens := by unfold okT; decide
  trans := by decide
  ev := by decide
  inn := fun t ht => by
    simp only [twoN, List.mem_cons, List.not_mem_nil, or_false] at ht
    subst ht; exact arcs1_ok (by decide)
  out := fun t ht => by
    simp only [twoN, List.mem_cons, List.not_mem_nil, or_false] at ht
    subst ht; exact arcs1_ok (by decide)
theorem exMin : PSpec Try.prog 14 [netV exN, .int .i64 1] (.tup [lsts [[1, 1]], .int .i64 0]) := by
  have h := MinimalT exN 1 _ _ (newTable exN exN_ok 1 (.inl rfl)) (by decide +kernel) (by decide +kernel) (tabR_len exN 1) (by decide +kernel) (by decide +kernel)
  rwa [show listR (tabC exN 1) (minF (tabR exN 1) (tabC exN 1) (tabC exN 1)) = [[1, 1]] by decide +kernel] at h
theorem twoMin : PSpec Try.prog 14 [netV twoN, .int .i64 1] (.tup [lsts [[3, 2]], .int .i64 0]) := by
  have h := MinimalT twoN 1 _ _ (newTable twoN twoN_ok 1 (.inl rfl)) (by decide +kernel) (by decide +kernel) (tabR_len twoN 1) (by decide +kernel) (by decide +kernel)
  rwa [show listR (tabC twoN 1) (minF (tabR twoN 1) (tabC twoN 1) (tabC twoN 1)) = [[3, 2]] by decide +kernel] at h
theorem twoCov : PSpec Try.prog 15 [netV twoN, .int .i64 2] (.tup [.bool false, .int .i64 0]) := by
  have h := CoveredT twoN 2 _ _ (newTable twoN twoN_ok 2 (.inr rfl)) (by decide +kernel) (by decide +kernel) (tabR_len twoN 2) (by decide +kernel)
  rwa [show decide (covR (minF (tabR twoN 2) (tabC twoN 2) (tabC twoN 2)) = 2 ^ tabC twoN 2 - 1) = false by decide +kernel] at h
theorem exBnd : PSpec Try.prog 23 [netV exN, lsts [[1, 1]]] (.tup [sli [1, 1], .int .i64 0]) := by
  have h := bounds exN exN_ok [[1, 1]] (by decide) (by decide)
  rwa [show chkR exN [[1, 1]] = 0 by decide +kernel, if_pos rfl, show bndL exN [[1, 1]] = [1, 1] by decide +kernel] at h
theorem exExc : PSpec Try.prog 24 [netV exN, lsts [[1, 1]], sli [1, 1]] (.tup [.int .i64 0, .bool true, .int .i64 0]) := by
  have h := excludes exN exN_ok [[1, 1]] [1, 1] (by decide) (by decide) (by decide)
  rwa [show exV exN [[1, 1]] [1, 1] = .tup [.int .i64 0, .bool true, .int .i64 0] by
    unfold exV
    rw [if_pos (by decide +kernel), if_pos (by decide +kernel), if_pos (by decide +kernel), show firstAt (exP exN [1, 1]) [[1, 1]] = 0 by decide +kernel]] at h
theorem exchange38 : PSpec Try.prog 38 [] (netV exN) := by
  refine PSpec.of_rn 64 SV.ok38 rfl rfl (noRef_net _) ?_
  simp (maxSteps := 1000000) (disch := first | omega | (simp only [lenW] <;> omega)) only [SV.s38, aBuildSlice_frz, wZ_some, wordsN, Int.reduceGT, wordsR, ne_eq, words, Nat.reduceAdd, Nat.reduceEqDiff, Nat.reduceBEq, ↓reduceIte, reduceCtorEq, SX.exit.injEq, if_true, if_false, Int.reduceAdd, Int.reduceSub, Int.reduceMul, Int.reduceLT, Int.reduceLE, Int.reduceEq, Int.reduceNe, Int.reduceNeg, Int.reduceToNat, Nat.reduceMul, Nat.reduceLT, Nat.reduceSub, Nat.reduceLeDiff]
  exact ⟨.inr trivial, _, rfl, Rn.same (noRef_net exN)⟩
theorem known : PSpec Try.prog 12 [] (.bool true) := by
  refine PSpec.of_rn 64 SV.ok12 rfl rfl rfl ?_
  simp (maxSteps := 1000000) (disch := first | omega | (simp only [lenW] <;> omega)) only [SV.s12, wordsN, Int.reduceGT, wordsR, ne_eq, words, Nat.reduceAdd, Nat.reduceEqDiff, Nat.reduceBEq, ↓reduceIte, reduceCtorEq, SX.exit.injEq, if_true, if_false, Int.reduceAdd, Int.reduceSub, Int.reduceMul, Int.reduceLT, Int.reduceLE, Int.reduceEq, Int.reduceNe, Int.reduceNeg, Int.reduceToNat, Nat.reduceMul, Nat.reduceLT, Nat.reduceSub, Nat.reduceLeDiff]
  refine cp exchange38 ?_
  simp (maxSteps := 1000000) (disch := first | omega | (simp only [lenW] <;> omega)) only [wordsN, Int.reduceGT, wordsR, ne_eq, words, Nat.reduceAdd, Nat.reduceEqDiff, Nat.reduceBEq, ↓reduceIte, reduceCtorEq, SX.exit.injEq, if_true, if_false, Int.reduceAdd, Int.reduceSub, Int.reduceMul, Int.reduceLT, Int.reduceLE, Int.reduceEq, Int.reduceNe, Int.reduceNeg, Int.reduceToNat, Nat.reduceMul, Nat.reduceLT, Nat.reduceSub, Nat.reduceLeDiff]
  refine cp exMin ?_
  simp (maxSteps := 1000000) (disch := first | omega | (simp only [lenW] <;> omega)) only [wordsN, Int.reduceGT, wordsR, ne_eq, words, Nat.reduceAdd, Nat.reduceEqDiff, Nat.reduceBEq, ↓reduceIte, reduceCtorEq, SX.exit.injEq, if_true, if_false, Int.reduceAdd, Int.reduceSub, Int.reduceMul, Int.reduceLT, Int.reduceLE, Int.reduceEq, Int.reduceNe, Int.reduceNeg, Int.reduceToNat, Nat.reduceMul, Nat.reduceLT, Nat.reduceSub, Nat.reduceLeDiff]
  refine cp exchange38 ?_
  simp (maxSteps := 1000000) (disch := first | omega | (simp only [lenW] <;> omega)) only [aBuildSlice_frz, wZ_some, List.map_cons, List.map_nil, wordsN, Int.reduceGT, wordsR, ne_eq, words, Nat.reduceAdd, Nat.reduceEqDiff, Nat.reduceBEq, ↓reduceIte, reduceCtorEq, SX.exit.injEq, if_true, if_false, Int.reduceAdd, Int.reduceSub, Int.reduceMul, Int.reduceLT, Int.reduceLE, Int.reduceEq, Int.reduceNe, Int.reduceNeg, Int.reduceToNat, Nat.reduceMul, Nat.reduceLT, Nat.reduceSub, Nat.reduceLeDiff]
  refine cp exBnd ?_
  simp (maxSteps := 1000000) (disch := first | omega | (simp only [lenW] <;> omega)) only [wordsN, Int.reduceGT, wordsR, ne_eq, words, Nat.reduceAdd, Nat.reduceEqDiff, Nat.reduceBEq, ↓reduceIte, reduceCtorEq, SX.exit.injEq, if_true, if_false, Int.reduceAdd, Int.reduceSub, Int.reduceMul, Int.reduceLT, Int.reduceLE, Int.reduceEq, Int.reduceNe, Int.reduceNeg, Int.reduceToNat, Nat.reduceMul, Nat.reduceLT, Nat.reduceSub, Nat.reduceLeDiff]
  refine cp exchange38 ?_
  simp (maxSteps := 1000000) (disch := first | omega | (simp only [lenW] <;> omega)) only [aBuildSlice_frz, wZ_some, List.map_cons, List.map_nil, wordsN, Int.reduceGT, wordsR, ne_eq, words, Nat.reduceAdd, Nat.reduceEqDiff, Nat.reduceBEq, ↓reduceIte, reduceCtorEq, SX.exit.injEq, if_true, if_false, Int.reduceAdd, Int.reduceSub, Int.reduceMul, Int.reduceLT, Int.reduceLE, Int.reduceEq, Int.reduceNe, Int.reduceNeg, Int.reduceToNat, Nat.reduceMul, Nat.reduceLT, Nat.reduceSub, Nat.reduceLeDiff]
  refine cp exExc ?_
  simp (maxSteps := 1000000) (disch := first | omega | (simp only [lenW] <;> omega)) only [aBuildSlice_frz, wZ_some, List.map_cons, List.map_nil, wordsN, Int.reduceGT, wordsR, ne_eq, words, Nat.reduceAdd, Nat.reduceEqDiff, Nat.reduceBEq, ↓reduceIte, reduceCtorEq, SX.exit.injEq, if_true, if_false, Int.reduceAdd, Int.reduceSub, Int.reduceMul, Int.reduceLT, Int.reduceLE, Int.reduceEq, Int.reduceNe, Int.reduceNeg, Int.reduceToNat, Nat.reduceMul, Nat.reduceLT, Nat.reduceSub, Nat.reduceLeDiff]
  refine cp twoMin ?_
  simp (maxSteps := 1000000) (disch := first | omega | (simp only [lenW] <;> omega)) only [wordsN, Int.reduceGT, wordsR, ne_eq, words, Nat.reduceAdd, Nat.reduceEqDiff, Nat.reduceBEq, ↓reduceIte, reduceCtorEq, SX.exit.injEq, if_true, if_false, Int.reduceAdd, Int.reduceSub, Int.reduceMul, Int.reduceLT, Int.reduceLE, Int.reduceEq, Int.reduceNe, Int.reduceNeg, Int.reduceToNat, Nat.reduceMul, Nat.reduceLT, Nat.reduceSub, Nat.reduceLeDiff]
  refine cp twoCov ?_
  simp (maxSteps := 1000000) (disch := first | omega | (simp only [lenW] <;> omega)) only [aBuildSlice_frz, wZ_some, List.map_cons, List.map_nil, wordsN, Int.reduceGT, wordsR, ne_eq, words, Nat.reduceAdd, Nat.reduceEqDiff, Nat.reduceBEq, ↓reduceIte, reduceCtorEq, SX.exit.injEq, if_true, if_false, Int.reduceAdd, Int.reduceSub, Int.reduceMul, Int.reduceLT, Int.reduceLE, Int.reduceEq, Int.reduceNe, Int.reduceNeg, Int.reduceToNat, Nat.reduceMul, Nat.reduceLT, Nat.reduceSub, Nat.reduceLeDiff]
  refine cp (same [1, 1] [1, 1] (by decide)) ?_
  simp (maxSteps := 1000000) (disch := first | omega | (simp only [lenW] <;> omega)) only [aBuildSlice_frz, wZ_some, List.map_cons, List.map_nil, wordsN, Int.reduceGT, wordsR, ne_eq, words, Nat.reduceAdd, Nat.reduceEqDiff, Nat.reduceBEq, ↓reduceIte, reduceCtorEq, SX.exit.injEq, if_true, if_false, Int.reduceAdd, Int.reduceSub, Int.reduceMul, Int.reduceLT, Int.reduceLE, Int.reduceEq, Int.reduceNe, Int.reduceNeg, Int.reduceToNat, Nat.reduceMul, Nat.reduceLT, Nat.reduceSub, Nat.reduceLeDiff]
  refine cp (same [1, 1] [1, 1] (by decide)) ?_
  simp (maxSteps := 1000000) (disch := first | omega | (simp only [lenW] <;> omega)) only [aBuildSlice_frz, wZ_some, List.map_cons, List.map_nil, wordsN, Int.reduceGT, wordsR, ne_eq, words, Nat.reduceAdd, Nat.reduceEqDiff, Nat.reduceBEq, ↓reduceIte, reduceCtorEq, SX.exit.injEq, if_true, if_false, Int.reduceAdd, Int.reduceSub, Int.reduceMul, Int.reduceLT, Int.reduceLE, Int.reduceEq, Int.reduceNe, Int.reduceNeg, Int.reduceToNat, Nat.reduceMul, Nat.reduceLT, Nat.reduceSub, Nat.reduceLeDiff]
  refine cp (same [3, 2] [3, 2] (by decide)) ?_
  simp (maxSteps := 1000000) (disch := first | omega | (simp only [lenW] <;> omega)) only [aBuildSlice_frz, wZ_some, List.map_cons, List.map_nil, wordsN, Int.reduceGT, wordsR, ne_eq, words, Nat.reduceAdd, Nat.reduceEqDiff, Nat.reduceBEq, ↓reduceIte, reduceCtorEq, SX.exit.injEq, if_true, if_false, Int.reduceAdd, Int.reduceSub, Int.reduceMul, Int.reduceLT, Int.reduceLE, Int.reduceEq, Int.reduceNe, Int.reduceNeg, Int.reduceToNat, Nat.reduceMul, Nat.reduceLT, Nat.reduceSub, Nat.reduceLeDiff]
  exact ⟨.inr trivial, _, rfl, Rn.same rfl⟩
end Go.AM.SN
