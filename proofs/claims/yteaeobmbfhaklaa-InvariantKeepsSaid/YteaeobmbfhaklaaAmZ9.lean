/- A part of the proof of InvariantKeeps: lemmas on the way (AmTb, AmMh, AmMj, AmMk, AmMl, AmMm, AmPa, AmPb, AmPf, AmPk, AmPw, AmNq, AmTc, AmTd). Conditions: none of ours. -/
import Derived.Test.YteaeobmbfhaklaaProg
import Derived.KernelRfl
import Derived.Test.YteaeobmbfhaklaaAmZ8
set_option linter.unusedSimpArgs false
set_option linter.unusedVariables false
namespace Go.AM
variable {P : Program}
section
variable {N : NM} {n : Nat} {d : Option Nat} {af dead : List Nat} {r : List SOper} {T : Tmps} {h : Heap} {Q : QC} {fs : List Fr}
theorem aMakeMap_new (hl : n < 1099511627775) : wM P N (aMakeMap .dyn n) d r dead fs n T h Q = if h.get n = none then wR P N r dead fs (n + 1) (putD T d (.map n 0)) (h.set n (.map 0 [])) Q else False := by
  have hl' : Nat.blt n lim = true := by simp [Nat.blt]; unfold lim; omega
  apply propext; constructor
  · rintro ⟨v', h1, hm, hk⟩
    unfold aMakeMap HM.new at hm
    simp only [HM.run] at hm
    cases hn : h.get n with
    | none =>
      rw [hn] at hm
      obtain ⟨hl, hm⟩ := run_put hm
      simp only [HM.run, Option.some.injEq, Prod.mk.injEq] at hm
      obtain ⟨rfl, rfl⟩ := hm
      rw [if_pos rfl]; exact hk
    | some z => rw [hn] at hm; cases hm
  · split
    · rename_i hn
      intro hk
      refine ⟨_, _, ?_, hk⟩
      unfold aMakeMap HM.new
      simp only [HM.run, hn]
      rw [hl']; rfl
    · exact fun h => h.elim
def keyM (k : IntKind) (v : AV) (l : List Nat) : List (AV × AV) := l.map fun x : Nat => (.int k (x : Int), v)
theorem keyM_get {k : IntKind} {v : AV} {l : List Nat} {i : Nat} {a b : AV} (hi : (keyM k v l)[i]? = some (a, b)) : ∃ x : Nat, l[i]? = some x ∧ a = .int k (x : Int) ∧ b = v := by
  simp only [keyM, List.getElem?_map] at hi
  cases hx : l[i]? with
  | none => rw [hx] at hi; cases hi
  | some x => rw [hx] at hi; cases hi; exact ⟨x, rfl, rfl, rfl⟩
theorem aFind_keyM {k : IntKind} {v : AV} {x : Nat} : ∀ (l : List Nat) (i : Nat), x ∉ l → aFind false [.i] (.int k (x : Int)) (keyM k v l) i = some none
  | [], _, _ => rfl
  | y :: l, i, hx => by
    simp only [List.mem_cons, not_or] at hx
    show (match keyEq false [.i] (.int k (x : Int)) (.int k (y : Int)) with | some true => _ | some false => _ | none => _) = _
    have : keyEq false [.i] (.int k (x : Int)) (.int k (y : Int)) = some false := by
      have : ¬ (x : Int) = y := by omega
      simp [keyEq, eqCells, eqCell, this]
    rw [this]
    exact aFind_keyM l (i + 1) hx.2
theorem RnM.keyM {m : Nat} {π : Nat → Option Src} {h : Heap} {k : IntKind} {v : AV} (hv : noRef v = true) : ∀ {l : List Nat}, RnM m π h (keyM k v l) (keyM k v l)
  | [] => trivial
  | x :: l => ⟨⟨Rn.same rfl, Rn.same hv⟩, RnM.keyM hv (l := l)⟩
def wU (P : Program) (N : NM) (o : Option Blk) (b g : Nat) (k v : AV) (d : Option Nat) (ops : List SOper) (dead : List Nat) (fs : List Fr) (n : Nat) (T : Tmps) (h : Heap) (Q : QC) : Prop :=
  ∃ es, o = some (.map g es) ∧ aFind false [.i] k es 0 = some none ∧ b < lim ∧ wR P N ops dead fs (n + 1) (putD T d .any) (h.set b (.map g (es ++ [(k, v)]))) Q
theorem aMapUpd_new {k : IntKind} {x : Int} {b g : Nat} {v : AV} (hu : wU P N (h.get b) b g (.int k x) v d r dead fs n T h Q) : wM P N (aMapUpd false [.i] (.map b g) (.int k x) v) d r dead fs n T h Q := by
  obtain ⟨es, hb, hf, hl, hk⟩ := hu
  refine ⟨_, _, ?_, hk⟩
  have hok : keyOK false [.i] (.int k x) = true := by simp [keyOK, keyEq, eqCells, eqCell]
  have hl' : Nat.blt b lim = true := by simp [Nat.blt]; exact hl
  have hg : Nat.beq g g = true := by simp
  unfold aMapUpd
  rw [if_pos hok]
  simp only [HM.entries, HM.run, hb, hg, cond_true, hf, hl']
theorem wU_ins {k : IntKind} {x : Nat} {l : List Nat} {b g : Nat} {u : AV} (hx : x ∉ l) (hl : b < 1099511627775) (hk : wR P N r dead fs (n + 1) (putD T d .any) (h.set b (.map g (keyM k u (l ++ [x])))) Q) :
    wU P N (some (.map g (keyM k u l))) b g (.int k (x : Int)) u d r dead fs n T h Q :=
by
  have e : keyM k u l ++ [(.int k (x : Int), u)] = keyM k u (l ++ [x]) := by simp [keyM]
  have hl' : b < lim := hl
  rw [← e] at hk
  exact ⟨_, rfl, aFind_keyM l 0 hx, hl', hk⟩
end
def wZ (P : Program) (N : NM) (o : Option (List AV)) (k len sz : Nat) (d : Option Nat) (ops : List SOper) (dead : List Nat) (fs : List Fr) (n : Nat) (T : Tmps) (h : Heap) (Q : QC) : Prop :=
  ∃ cs, o = some cs ∧ cs.length = k ∧ cs.all AV.one = true ∧ wR P N ops dead fs (n + 1) (putD T d (.fsl cs len sz)) h Q
theorem wZ_some {N : NM} {n : Nat} {d : Option Nat} {dead : List Nat} {r : List SOper} {T : Tmps} {h : Heap} {Q : QC} {fs : List Fr} {cs : List AV} {k len sz : Nat} :
    wZ P N (some cs) k len sz d r dead fs n T h Q = if cs.length = k then (if cs.all AV.one = true then wR P N r dead fs (n + 1) (putD T d (.fsl cs len sz)) h Q else False) else False := by
  by_cases h1 : cs.length = k <;> by_cases h2 : cs.all AV.one = true <;> simp only [wZ, h1, h2, if_true, if_false, Option.some.injEq, exists_eq_left', true_and, false_and] <;> simp [h1, h2]
theorem aBuildSlice_frz {N : NM} {n : Nat} {d : Option Nat} {dead : List Nat} {r : List SOper} {T : Tmps} {h : Heap} {Q : QC} {fs : List Fr} {s : Site} {sz len : Nat} {z : List AV} {ps : List (Nat × Nat × AV)} :
    wM P N (aBuildSlice true s n sz len z ps) d r dead fs n T h Q = wZ P N (fillA z ps) (len * sz) len sz d r dead fs n T h Q := by
  unfold aBuildSlice
  cases fillA z ps with
  | none => simp [wM_fail, wZ]
  | some cs =>
    simp only [wZ_some, if_true]
    split
    · split
      · exact wM_ret
      · exact wM_fail
    · exact wM_fail
theorem wordsM : AV.nilmap.boxable = true ∧ AV.nilmap.cells = [.nilmap] ∧ (∀ b g, (AV.map b g).cells = [.map b g]) ∧ (∀ b g, (AV.map b g).one = true) ∧ (∀ b g, (AV.map b g).boxable = true) ∧ AV.nilmap.one = true :=
  ⟨rfl, rfl, fun _ _ => rfl, fun _ _ => rfl, fun _ _ => rfl, rfl⟩
theorem or16 {x y : Nat} (hx : x < 65536) (hy : y < 65536) : aBin .or (.int .u16 (x : Int)) (.int .u16 (y : Int)) = some (.int .u16 ((x ||| y : Nat) : Int)) := by
  have h1 : (BitVec.ofInt 16 (x : Int) ||| BitVec.ofInt 16 (y : Int)).toNat = x ||| y := by
    have e1 : BitVec.ofInt 16 (x : Int) = BitVec.ofNat 16 x := by simp
    have e2 : BitVec.ofInt 16 (y : Int) = BitVec.ofNat 16 y := by simp
    rw [e1, e2, BitVec.toNat_or, BitVec.toNat_ofNat, BitVec.toNat_ofNat, Nat.mod_eq_of_lt (by omega), Nat.mod_eq_of_lt (by omega)]
  have h2 : x ||| y < 2 ^ 16 := Nat.or_lt_two_pow (by omega) (by omega)
  have e2 : aBin .or (.int .u16 (x : Int)) (.int .u16 (y : Int)) = some (.int .u16 (wr .u16 ((BitVec.ofInt 16 (x : Int) ||| BitVec.ofInt 16 (y : Int)).toNat : Int))) := rfl
  rw [e2, h1, wr_u16 (by omega) (by omega)]
theorem and16 {x y : Nat} (hx : x < 65536) (hy : y < 65536) : aBin .and (.int .u16 (x : Int)) (.int .u16 (y : Int)) = some (.int .u16 ((x &&& y : Nat) : Int)) := by
  have h1 : (BitVec.ofInt 16 (x : Int) &&& BitVec.ofInt 16 (y : Int)).toNat = x &&& y := by
    have e1 : BitVec.ofInt 16 (x : Int) = BitVec.ofNat 16 x := by simp
    have e2 : BitVec.ofInt 16 (y : Int) = BitVec.ofNat 16 y := by simp
    rw [e1, e2, BitVec.toNat_and, BitVec.toNat_ofNat, BitVec.toNat_ofNat, Nat.mod_eq_of_lt (by omega), Nat.mod_eq_of_lt (by omega)]
  have h2 : x &&& y < 2 ^ 16 := Nat.and_lt_two_pow x (by omega)
  have e2 : aBin .and (.int .u16 (x : Int)) (.int .u16 (y : Int)) = some (.int .u16 (wr .u16 ((BitVec.ofInt 16 (x : Int) &&& BitVec.ofInt 16 (y : Int)).toNat : Int))) := rfl
  rw [e2, h1, wr_u16 (by omega) (by omega)]
theorem shl16 {c : Nat} {k : IntKind} (hc : c < 16) : aBin .shl (.int .u16 1) (.int k (c : Int)) = some (.int .u16 ((1 <<< c : Nat) : Int)) := by
  have h0 : ¬ (c : Int) < 0 := by omega
  have h1 : 1 <<< c < 65536 := by
    rw [Nat.shiftLeft_eq, Nat.one_mul]
    exact Nat.lt_of_lt_of_le (Nat.pow_lt_pow_right (by decide) hc) (by decide)
  have e2 : aBin .shl (.int .u16 1) (.int k (c : Int)) = if (c : Int) < 0 then none else some (.int .u16 (wr .u16 (1 * 2 ^ (min (c : Int).toNat 16)))) := rfl
  have e3 : (1 * 2 ^ (min (c : Int).toNat 16) : Int) = ((1 <<< c : Nat) : Int) := by
    rw [Int.toNat_natCast, Nat.min_eq_left (show c ≤ 16 by omega), Nat.shiftLeft_eq]
    simp
  have h3 : wr .u16 ((1 <<< c : Nat) : Int) = ((1 <<< c : Nat) : Int) := by
    generalize 1 <<< c = z at h1
    exact wr_u16 (by omega) (by omega)
  rw [e2, if_neg h0, e3, h3]
theorem shl_lt {c : Nat} (hc : c < 16) : 1 <<< c < 65536 := by
  rw [Nat.shiftLeft_eq, Nat.one_mul]
  exact Nat.lt_of_lt_of_le (Nat.pow_lt_pow_right (by decide) hc) (by decide)
theorem HSpec.of_rec {f m : Nat} {sf : SFn} {args : List AV} {L0 L : HL} {v : AV} (n : Nat) (hok : okFn P f sf = true) (hl : Nat.ble args.length sf.n = true) (hm : (Nat.ble m 1099511627775 && L0.all fun p => Nat.blt p.1 m) = true)
    (hv : noRef v = true) (hw : wS P ⟨sf.n, m⟩ sf.body [] n (argT 0 args) (hp L0) fun e T k _ => (e = .normal ∨ e = .ret) ∧ ∃ vs, resV T k sf.res = some vs ∧ resOf vs = v ∧ Rec m [] L T k) : HSpec P f args (hp L0) v (hp L) := by
  simp only [Bool.and_eq_true, Nat.ble_eq] at hm
  refine HSpec.of_W2 hok (Nat.le_of_ble_eq_true hl) (fun b hb => ?_) ((wpC.toW hw).mono ?_)
  · have : ∀ M : HL, M.all (fun p => Nat.blt p.1 m) = true → (hp M).get b = none := by
      intro M
      induction M with
      | nil => intro _; exact get_e
      | cons q M ih =>
        obtain ⟨j, x⟩ := q
        intro hM
        simp only [List.all_cons, Bool.and_eq_true, Nat.blt, Nat.ble_eq] at hM
        rw [hp_cons, get_ne (by omega) (by omega)]; exact ih (by simpa [Nat.blt] using hM.2)
    exact this L0 hm.2
  · rintro e B ⟨n', h1, vs, h2, h3, ps, ho, hro, hb, ht⟩
    exact ⟨h1, vs, _, h2, Rec.maps ho hb, Rec.heap ho hb, Rec.dom ho hro, by rw [h3]; exact Rn.same hv⟩
end Go.AM
namespace Go.AM.SN
open Go.Proofs Go.AM.SK
set_option maxRecDepth 100000
set_option linter.unusedSimpArgs false
set_option linter.unusedVariables false
abbrev Flow := Nat × (Nat → Int)
def flowC (F : List Flow) : List AV := F.flatMap fun f => .int .u16 f.1 :: rowF 10 f.2
def supOf (set : List Nat) : Nat := set.foldl (fun a c => a ||| 1 <<< c) 0
def scat (set : List Nat) (l : List Int) : Nat → Int := (set.zip l).foldl (fun f p => fun c => if c = p.1 then p.2 else f c) fun _ => 0
def visitR (R : List (List Int)) (F : List Flow) (set : List Nat) : List Flow :=
  if (F.any fun f => decide (f.1 &&& supOf set = f.1)) = true then F else
  match kerR R set with
  | none => F
  | some l => if (l.any fun x => decide (x < 0)) = true then F else F ++ [(supOf set, scat set l)]
theorem noRefs_flowC (F : List Flow) : noRefs (flowC F) = true := by
  induction F with
  | nil => rfl
  | cons f F ih =>
    unfold flowC at ih ⊢
    rw [List.flatMap_cons, noRefs_append, ih]
    simp only [noRefs, noRef, noRefs_rowF]; rfl
theorem flowC_len (F : List Flow) : (flowC F).length = F.length * 11 := by
  induction F with
  | nil => rfl
  | cons f F ih =>
    unfold flowC at ih ⊢
    rw [List.flatMap_cons, List.length_append, ih, List.length_cons, rowF_len, List.length_cons]; omega
theorem supOf_take {set : List Nat} {i c : Nat} (h : set[i]? = some c) : supOf (set.take (i + 1)) = supOf (set.take i) ||| 1 <<< c := by
  unfold supOf
  rw [List.take_add_one, List.foldl_append, h]; rfl
theorem supOf_lt {set : List Nat} (h : ∀ c ∈ set, c < 16) : supOf set < 65536 := by
  unfold supOf
  have : ∀ (l : List Nat) (a : Nat), (∀ c ∈ l, c < 16) → a < 65536 → l.foldl (fun a c => a ||| 1 <<< c) a < 65536 := by
    intro l
    induction l with
    | nil => intro a _ ha; exact ha
    | cons c l ih =>
      intro a hl ha
      rw [List.foldl_cons]
      have := shl_lt (hl c (by simp))
      exact ih _ (fun c hc => hl c (by simp [hc])) (Nat.or_lt_two_pow (n := 16) ha this)
  exact this set 0 h (by decide)
theorem neg63 (x : Int) : PSpec Try.prog 63 [.int .i64 x] (.bool (decide (x < 0))) := by
  refine PSpec.of_flat 64 SK.ok63 rfl rfl rfl ?_
  simp (config := { maxSteps := 1000000 }) (disch := first | omega | (simp only [List.length_map, List.length_append, List.length_cons, List.length_nil, ints_len] <;> omega)) only [SK.s63, wordsN, Int.reduceGT, wordsR, ne_eq, words, Nat.reduceAdd, Nat.reduceEqDiff, Nat.reduceBEq, ↓reduceIte, reduceCtorEq, SX.exit.injEq, if_true, if_false, Int.reduceAdd, Int.reduceSub, Int.reduceMul, Int.reduceLT, Int.reduceLE, Int.reduceEq, Int.reduceNe, Int.reduceNeg, Int.reduceToNat, Nat.reduceMul, Nat.reduceLT, Nat.reduceSub, Nat.reduceLeDiff]
  exact ⟨.inr trivial, _, rfl, rfl⟩
theorem index75 (l : List Int) (hl : l.length ≤ 1000) : PSpec Try.prog 75 [sli l, .fn 63 [] []] (.int .i64 (firstAt (fun x => decide (x < 0)) l)) := by
  refine PSpec.of_flat 64 SK.ok75 rfl (by simp [noRefs, noRef, noRefs_ints]) rfl ?_
  simp (config := { maxSteps := 1000000 }) (disch := first | omega | (simp only [List.length_map, List.length_append, List.length_cons, List.length_nil, ints_len] <;> omega)) only [SK.s75, wordsN, Int.reduceGT, wordsR, ne_eq, words, Nat.reduceAdd, Nat.reduceEqDiff, Nat.reduceBEq, ↓reduceIte, reduceCtorEq, SX.exit.injEq, if_true, if_false, Int.reduceAdd, Int.reduceSub, Int.reduceMul, Int.reduceLT, Int.reduceLE, Int.reduceEq, Int.reduceNe, Int.reduceNeg, Int.reduceToNat, Nat.reduceMul, Nat.reduceLT, Nat.reduceSub, Nat.reduceLeDiff]
  refine wS_loopR 100 (fun i : Nat => [(0, sli l), (1, .fn 63 [] []), (7, .int .i64 l.length), (8, .int .i64 i)]) (fun _ => []) (fun i => i ≤ l.length ∧ ∀ j y, j < i → l[j]? = some y → (decide (y < 0)) = false) (fun i => l.length - i) 0 ⟨[], rfl, (by repeat (first | exact RO.zero | exact RO.e | refine RO.set rfl ?_)), (by repeat' (first | exact RB.nil | (refine RnL.same ?_; first | rfl | (simp only [noRef, noRefs, noRefs_append, Bool.and_self, Bool.and_true, Bool.true_and, noRefs_flat10, noRefs_ints, noRefs_lsts, noRefs_pad, noRefs_tnC, noRefs_arcC, noRefs_rowF, noRefs_flowC]; done)) | exact RnM.keyM rfl | exact RnL.nil | refine RnL.cons ?_ ?_ | (refine Rn.same ?_; first | rfl | (simp only [noRef, noRefs, noRefs_append, Bool.and_self, Bool.and_true, Bool.true_and, noRefs_flat10, noRefs_ints, noRefs_lsts, noRefs_pad, noRefs_tnC, noRefs_arcC, noRefs_rowF, noRefs_flowC]; done)) | exact Rn.x1 rfl rfl | exact Rn.x2 rfl rfl | exact Rn.x3 rfl rfl | exact Rn.x4 rfl rfl | exact Rn.x5 rfl | exact Rn.x6 rfl | exact Rn.x7 rfl | refine RB.newnil rfl rfl ?_ | refine RB.cells rfl rfl rfl ?_ ?_ | refine RB.map rfl rfl rfl ?_ ?_ | refine RB.cellsB rfl rfl ?_ ?_ | refine RB.mapB rfl rfl ?_ ?_)), (by repeat (first | exact RT.nil | (refine RT.cons ?_ ?_; · (first | exact Rn.any | exact Rn.x1 rfl rfl | exact Rn.x2 rfl rfl | exact Rn.x3 rfl rfl | exact Rn.x4 rfl rfl | exact Rn.x5 rfl | exact Rn.x6 rfl | exact Rn.x7 rfl | (refine Rn.slot ?_ ?_; (first | rfl | (rw [Int.natCast_add]; rfl)); (first | rfl | (simp only [noRef, noRefs, noRefs_append, Bool.and_self, Bool.and_true, Bool.true_and, noRefs_flat10, noRefs_ints, noRefs_lsts, noRefs_pad, noRefs_tnC, noRefs_arcC, noRefs_rowF, noRefs_flowC]; done))) | (refine Rn.fn ?_ ?_ <;> (repeat' (first | exact RnL.nil | refine RnL.cons ?_ ?_ | exact Rn.same rfl | exact Rn.x6 rfl | exact Rn.x2 rfl rfl | exact Rn.x5 rfl | exact Rn.x1 rfl rfl)))))))⟩ ⟨Nat.zero_le _, fun j y hj => absurd hj (Nat.not_lt_zero _)⟩ ?_
  rintro i ⟨hi, hb⟩
  by_cases hlt : i < l.length
  · obtain ⟨x, hx⟩ := get_ex hlt
    simp (config := { maxSteps := 1000000 }) (disch := first | omega | (simp only [List.length_map, List.length_append, List.length_cons, List.length_nil, ints_len] <;> omega)) only [hlt, head_ints hx, wordsN, Int.reduceGT, wordsR, ne_eq, words, Nat.reduceAdd, Nat.reduceEqDiff, Nat.reduceBEq, ↓reduceIte, reduceCtorEq, SX.exit.injEq, if_true, if_false, Int.reduceAdd, Int.reduceSub, Int.reduceMul, Int.reduceLT, Int.reduceLE, Int.reduceEq, Int.reduceNe, Int.reduceNeg, Int.reduceToNat, Nat.reduceMul, Nat.reduceLT, Nat.reduceSub, Nat.reduceLeDiff]
    refine cp (neg63 x) ?_
    cases hp : decide (x < 0) with
    | true =>
      simp (config := { maxSteps := 1000000 }) (disch := first | omega | (simp only [List.length_map, List.length_append, List.length_cons, List.length_nil, ints_len] <;> omega)) only [wordsN, Int.reduceGT, wordsR, ne_eq, words, Nat.reduceAdd, Nat.reduceEqDiff, Nat.reduceBEq, ↓reduceIte, reduceCtorEq, SX.exit.injEq, if_true, if_false, Int.reduceAdd, Int.reduceSub, Int.reduceMul, Int.reduceLT, Int.reduceLE, Int.reduceEq, Int.reduceNe, Int.reduceNeg, Int.reduceToNat, Nat.reduceMul, Nat.reduceLT, Nat.reduceSub, Nat.reduceLeDiff]
      exact ⟨.inr trivial, _, rfl, by rw [firstAt_found (p := fun x => decide (x < 0)) hx hp hb]; rfl⟩
    | false =>
      simp (config := { maxSteps := 1000000 }) (disch := first | omega | (simp only [List.length_map, List.length_append, List.length_cons, List.length_nil, ints_len] <;> omega)) only [wordsN, Int.reduceGT, wordsR, ne_eq, words, Nat.reduceAdd, Nat.reduceEqDiff, Nat.reduceBEq, ↓reduceIte, reduceCtorEq, SX.exit.injEq, if_true, if_false, Int.reduceAdd, Int.reduceSub, Int.reduceMul, Int.reduceLT, Int.reduceLE, Int.reduceEq, Int.reduceNe, Int.reduceNeg, Int.reduceToNat, Nat.reduceMul, Nat.reduceLT, Nat.reduceSub, Nat.reduceLeDiff]
      refine ⟨i + 1, by omega, ⟨by omega, fun j y hj hy => ?_⟩, ⟨[], rfl, (by repeat (first | exact RO.zero | exact RO.e | refine RO.set rfl ?_)), (by repeat' (first | exact RB.nil | (refine RnL.same ?_; first | rfl | (simp only [noRef, noRefs, noRefs_append, Bool.and_self, Bool.and_true, Bool.true_and, noRefs_flat10, noRefs_ints, noRefs_lsts, noRefs_pad, noRefs_tnC, noRefs_arcC, noRefs_rowF, noRefs_flowC]; done)) | exact RnM.keyM rfl | exact RnL.nil | refine RnL.cons ?_ ?_ | (refine Rn.same ?_; first | rfl | (simp only [noRef, noRefs, noRefs_append, Bool.and_self, Bool.and_true, Bool.true_and, noRefs_flat10, noRefs_ints, noRefs_lsts, noRefs_pad, noRefs_tnC, noRefs_arcC, noRefs_rowF, noRefs_flowC]; done)) | exact Rn.x1 rfl rfl | exact Rn.x2 rfl rfl | exact Rn.x3 rfl rfl | exact Rn.x4 rfl rfl | exact Rn.x5 rfl | exact Rn.x6 rfl | exact Rn.x7 rfl | refine RB.newnil rfl rfl ?_ | refine RB.cells rfl rfl rfl ?_ ?_ | refine RB.map rfl rfl rfl ?_ ?_ | refine RB.cellsB rfl rfl ?_ ?_ | refine RB.mapB rfl rfl ?_ ?_)), (by repeat (first | exact RT.nil | (refine RT.cons ?_ ?_; · (first | exact Rn.any | exact Rn.x1 rfl rfl | exact Rn.x2 rfl rfl | exact Rn.x3 rfl rfl | exact Rn.x4 rfl rfl | exact Rn.x5 rfl | exact Rn.x6 rfl | exact Rn.x7 rfl | (refine Rn.slot ?_ ?_; (first | rfl | (rw [Int.natCast_add]; rfl)); (first | rfl | (simp only [noRef, noRefs, noRefs_append, Bool.and_self, Bool.and_true, Bool.true_and, noRefs_flat10, noRefs_ints, noRefs_lsts, noRefs_pad, noRefs_tnC, noRefs_arcC, noRefs_rowF, noRefs_flowC]; done))) | (refine Rn.fn ?_ ?_ <;> (repeat' (first | exact RnL.nil | refine RnL.cons ?_ ?_ | exact Rn.same rfl | exact Rn.x6 rfl | exact Rn.x2 rfl rfl | exact Rn.x5 rfl | exact Rn.x1 rfl rfl)))))))⟩⟩
      by_cases e : j = i
      · subst e; rw [hx] at hy; cases hy; exact of_decide_eq_false hp
      · exact of_decide_eq_false (hb j y (by omega) hy)
  · simp (config := { maxSteps := 1000000 }) (disch := first | omega | (simp only [List.length_map, List.length_append, List.length_cons, List.length_nil, ints_len] <;> omega)) only [hlt, wordsN, Int.reduceGT, wordsR, ne_eq, words, Nat.reduceAdd, Nat.reduceEqDiff, Nat.reduceBEq, ↓reduceIte, reduceCtorEq, SX.exit.injEq, if_true, if_false, Int.reduceAdd, Int.reduceSub, Int.reduceMul, Int.reduceLT, Int.reduceLE, Int.reduceEq, Int.reduceNe, Int.reduceNeg, Int.reduceToNat, Nat.reduceMul, Nat.reduceLT, Nat.reduceSub, Nat.reduceLeDiff]
    exact ⟨.inr trivial, _, rfl, by rw [firstAt_none fun j y hy => hb j y (by have := (List.getElem?_eq_some_iff.1 hy).1; omega) hy]; rfl⟩
theorem contains62 (l : List Int) (hl : l.length ≤ 1000) : PSpec Try.prog 62 [sli l, .fn 63 [] []] (.bool (l.any fun x => decide (x < 0))) := by
  refine PSpec.of_flat 64 SK.ok62 rfl (by simp [noRefs, noRef, noRefs_ints]) rfl ?_
  simp (config := { maxSteps := 1000000 }) (disch := first | omega | (simp only [List.length_map, List.length_append, List.length_cons, List.length_nil, ints_len] <;> omega)) only [SK.s62, wordsN, Int.reduceGT, wordsR, ne_eq, words, Nat.reduceAdd, Nat.reduceEqDiff, Nat.reduceBEq, ↓reduceIte, reduceCtorEq, SX.exit.injEq, if_true, if_false, Int.reduceAdd, Int.reduceSub, Int.reduceMul, Int.reduceLT, Int.reduceLE, Int.reduceEq, Int.reduceNe, Int.reduceNeg, Int.reduceToNat, Nat.reduceMul, Nat.reduceLT, Nat.reduceSub, Nat.reduceLeDiff]
  refine cp (index75 l hl) ?_
  simp (config := { maxSteps := 1000000 }) (disch := first | omega | (simp only [List.length_map, List.length_append, List.length_cons, List.length_nil, ints_len] <;> omega)) only [firstAt_ge, wordsN, Int.reduceGT, wordsR, ne_eq, words, Nat.reduceAdd, Nat.reduceEqDiff, Nat.reduceBEq, ↓reduceIte, reduceCtorEq, SX.exit.injEq, if_true, if_false, Int.reduceAdd, Int.reduceSub, Int.reduceMul, Int.reduceLT, Int.reduceLE, Int.reduceEq, Int.reduceNe, Int.reduceNeg, Int.reduceToNat, Nat.reduceMul, Nat.reduceLT, Nat.reduceSub, Nat.reduceLeDiff]
  exact ⟨.inr trivial, _, rfl, rfl⟩
theorem ker_len {R : List (List Int)} {cols : List Nat} {l : List Int} (h : kerR R cols = some l) : l.length = cols.length := by
  unfold kerR at h
  cases hs : krun R cols cols.length with
  | none => rw [hs] at h; cases h
  | some s =>
    rw [hs] at h
    have h : kfin cols.length s = some l := h
    unfold kfin at h
    split at h
    · cases h
    · split at h
      · cases h
      · cases h; simp
def vH (K : Nat) (R : List (List Int)) (F : List Flow) (g : Nat) : HL :=
  [(20, .cells 0 [.sl 23 g 0 F.length 11]), (21, .cells 0 [.map 22 0]), (22, .map 0 (keyM .u16 (.bool true) (F.map (·.1)))), (23, .cells g (flowC F)), (24, .cells 0 [.int .i64 K, .fsl (R.flatMap pad) R.length 10])]
def vS (K : Nat) (R : List (List Int)) (F : List Flow) (g : Nat) (set : List Nat) : HL :=
  [(20, .cells 0 [.sl 23 g 0 F.length 11]), (21, .cells 0 [.map 22 0]), (22, .map 0 (keyM .u16 (.bool true) (F.map (·.1)))), (23, .cells g (flowC F)), (24, .cells 0 [.int .i64 K, .fsl (R.flatMap pad) R.length 10]), (150, .cells 0 (ints (colI set)))]
def vW (K : Nat) (R : List (List Int)) (F : List Flow) (g : Nat) (set : List Nat) (f : Nat → Int) : HL :=
  [(20, .cells 0 [.sl 23 g 0 F.length 11]), (21, .cells 0 [.map 22 0]), (22, .map 0 (keyM .u16 (.bool true) (F.map (·.1)))), (23, .cells g (flowC F)), (24, .cells 0 [.int .i64 K, .fsl (R.flatMap pad) R.length 10]), (150, .cells 0 (ints (colI set))), (210, .cells 0 (.int .u16 (supOf set : Nat) :: rowF 10 f))]
theorem scat_take {set : List Nat} {l : List Int} {i c : Nat} {x : Int} (h : set[i]? = some c) (hx : l[i]? = some x) : scat (set.take (i + 1)) (l.take (i + 1)) = fun j => if j = c then x else scat (set.take i) (l.take i) j := by
  unfold scat
  have e : ∀ n, (set.take n).zip (l.take n) = (set.zip l).take n := fun n => by rw [List.zip_eq_zipWith, List.zip_eq_zipWith, List.take_zipWith]
  have hz : (set.zip l)[i]? = some (c, x) := by rw [List.zip_eq_zipWith, List.getElem?_zipWith, h, hx]
  rw [e, e, List.take_add_one, List.foldl_append, hz]
  rfl
set_option maxHeartbeats 8000000 in
theorem visit (K : Nat) (R : List (List Int)) (F : List Flow) (g : Nat) (set : List Nat) (hK : K ≤ 10) (hR : R.length ≤ 100) (hRk : ∀ r ∈ R, r.length = K) (hc : ∀ c ∈ set, c < K) (hn : set.length ≤ 10) (hb : KBd R set)
    (hF : F.length ≤ 1000) (hFs : ∀ f ∈ F, f.1 < 65536) :
    HSpec Try.prog 60 [.sl 150 0 0 set.length 1, .ptr 21 0 0, .ptr 24 0 0, .ptr 20 0 0] (hp (vS K R F g set)) (.tup [])
      (hp (vS K R (visitR R F set) (g + ((visitR R F set).length - F.length)) set)) := by
  refine HSpec.of_rec (m := 200) 300 SM.ok60 rfl rfl rfl ?_
  generalize hL : vS K R (visitR R F set) (g + ((visitR R F set).length - F.length)) set = L1
  have hcil := colI_len set
  have hc16 : ∀ c ∈ set, c < 16 := fun c h => by have := hc c h; omega
  have hs16 : ∀ i, supOf (set.take i) < 65536 := fun i => supOf_lt fun c h => hc16 c (List.mem_of_mem_take h)
  simp (config := { maxSteps := 1000000 }) (disch := first | omega | (simp only [List.length_map, List.length_append, List.length_cons, List.length_nil, ints_len] <;> omega)) only [SM.s60, vS, wordsN, Int.reduceGT, wordsR, ne_eq, words, Nat.reduceAdd, Nat.reduceEqDiff, Nat.reduceBEq, ↓reduceIte, reduceCtorEq, SX.exit.injEq, if_true, if_false, Int.reduceAdd, Int.reduceSub, Int.reduceMul, Int.reduceLT, Int.reduceLE, Int.reduceEq, Int.reduceNe, Int.reduceNeg, Int.reduceToNat, Nat.reduceMul, Nat.reduceLT, Nat.reduceSub, Nat.reduceLeDiff]
  refine wS_loopX 400 (fun i : Nat => [(0, .sl 150 0 0 set.length 1), (1, .ptr 21 0 0), (2, .ptr 24 0 0), (3, .ptr 20 0 0), (5, .int .u16 (supOf (set.take i) : Nat)), (14, .sl 150 0 0 set.length 1), (15, .int .i64 set.length), (16, .int .i64 i)])
    (fun _ => vS K R F g set) (fun i => i ≤ set.length) (fun i => set.length - i) 0 0 500
    (fun _ : Unit => [(0, .sl 150 0 0 set.length 1), (1, .ptr 21 0 0), (2, .ptr 24 0 0), (3, .ptr 20 0 0), (5, .int .u16 (supOf set : Nat))]) (fun _ => vS K R F g set) (fun _ => True) ⟨[(20, .blk 20 0), (21, .blk 21 0), (22, .blk 22 0), (23, .blk 23 0), (24, .blk 24 0), (150, .blk 150 0)], rfl, (by repeat (first | exact RO.zero | exact RO.e | refine RO.set rfl ?_)), (by repeat' (first | exact RB.nil | (refine RnL.same ?_; first | rfl | (simp only [noRef, noRefs, noRefs_append, Bool.and_self, Bool.and_true, Bool.true_and, noRefs_flat10, noRefs_ints, noRefs_lsts, noRefs_pad, noRefs_tnC, noRefs_arcC, noRefs_rowF, noRefs_flowC]; done)) | exact RnM.keyM rfl | exact RnL.nil | refine RnL.cons ?_ ?_ | (refine Rn.same ?_; first | rfl | (simp only [noRef, noRefs, noRefs_append, Bool.and_self, Bool.and_true, Bool.true_and, noRefs_flat10, noRefs_ints, noRefs_lsts, noRefs_pad, noRefs_tnC, noRefs_arcC, noRefs_rowF, noRefs_flowC]; done)) | exact Rn.x1 rfl rfl | exact Rn.x2 rfl rfl | exact Rn.x3 rfl rfl | exact Rn.x4 rfl rfl | exact Rn.x5 rfl | exact Rn.x6 rfl | exact Rn.x7 rfl | refine RB.newnil rfl rfl ?_ | refine RB.cells rfl rfl rfl ?_ ?_ | refine RB.map rfl rfl rfl ?_ ?_ | refine RB.cellsB rfl rfl ?_ ?_ | refine RB.mapB rfl rfl ?_ ?_)), (by repeat (first | exact RT.nil | (refine RT.cons ?_ ?_; · (first | exact Rn.any | exact Rn.x1 rfl rfl | exact Rn.x2 rfl rfl | exact Rn.x3 rfl rfl | exact Rn.x4 rfl rfl | exact Rn.x5 rfl | exact Rn.x6 rfl | exact Rn.x7 rfl | (refine Rn.slot ?_ ?_; (first | rfl | (rw [Int.natCast_add]; rfl)); (first | rfl | (simp only [noRef, noRefs, noRefs_append, Bool.and_self, Bool.and_true, Bool.true_and, noRefs_flat10, noRefs_ints, noRefs_lsts, noRefs_pad, noRefs_tnC, noRefs_arcC, noRefs_rowF, noRefs_flowC]; done))) | (refine Rn.fn ?_ ?_ <;> (repeat' (first | exact RnL.nil | refine RnL.cons ?_ ?_ | exact Rn.same rfl | exact Rn.x6 rfl | exact Rn.x2 rfl rfl | exact Rn.x5 rfl | exact Rn.x1 rfl rfl)))))))⟩ (Nat.zero_le _) ?_ ?_
  · intro i hi
    by_cases hlt : i < set.length
    · obtain ⟨c, hcc⟩ := get_ex hlt
      have hcl := hc16 c (List.mem_of_getElem? hcc)
      have hgi : (ints (colI set))[i]? = some (.int .i64 c) := by simp [ints, colI_get hcc]
      simp (config := { maxSteps := 1000000 }) (disch := first | omega | (simp only [List.length_map, List.length_append, List.length_cons, List.length_nil, ints_len] <;> omega)) only [hlt, hgi, vS, shl16 hcl, or16 (hs16 i) (shl_lt hcl), wordsN, Int.reduceGT, wordsR, ne_eq, words, Nat.reduceAdd, Nat.reduceEqDiff, Nat.reduceBEq, ↓reduceIte, reduceCtorEq, SX.exit.injEq, if_true, if_false, Int.reduceAdd, Int.reduceSub, Int.reduceMul, Int.reduceLT, Int.reduceLE, Int.reduceEq, Int.reduceNe, Int.reduceNeg, Int.reduceToNat, Nat.reduceMul, Nat.reduceLT, Nat.reduceSub, Nat.reduceLeDiff]
      refine ⟨i + 1, by omega, by omega, ?_⟩
      rw [supOf_take hcc]
      exact ⟨[(20, .blk 20 0), (21, .blk 21 0), (22, .blk 22 0), (23, .blk 23 0), (24, .blk 24 0), (150, .blk 150 0)], rfl, (by repeat (first | exact RO.zero | exact RO.e | refine RO.set rfl ?_)), (by repeat' (first | exact RB.nil | (refine RnL.same ?_; first | rfl | (simp only [noRef, noRefs, noRefs_append, Bool.and_self, Bool.and_true, Bool.true_and, noRefs_flat10, noRefs_ints, noRefs_lsts, noRefs_pad, noRefs_tnC, noRefs_arcC, noRefs_rowF, noRefs_flowC]; done)) | exact RnM.keyM rfl | exact RnL.nil | refine RnL.cons ?_ ?_ | (refine Rn.same ?_; first | rfl | (simp only [noRef, noRefs, noRefs_append, Bool.and_self, Bool.and_true, Bool.true_and, noRefs_flat10, noRefs_ints, noRefs_lsts, noRefs_pad, noRefs_tnC, noRefs_arcC, noRefs_rowF, noRefs_flowC]; done)) | exact Rn.x1 rfl rfl | exact Rn.x2 rfl rfl | exact Rn.x3 rfl rfl | exact Rn.x4 rfl rfl | exact Rn.x5 rfl | exact Rn.x6 rfl | exact Rn.x7 rfl | refine RB.newnil rfl rfl ?_ | refine RB.cells rfl rfl rfl ?_ ?_ | refine RB.map rfl rfl rfl ?_ ?_ | refine RB.cellsB rfl rfl ?_ ?_ | refine RB.mapB rfl rfl ?_ ?_)), (by repeat (first | exact RT.nil | (refine RT.cons ?_ ?_; · (first | exact Rn.any | exact Rn.x1 rfl rfl | exact Rn.x2 rfl rfl | exact Rn.x3 rfl rfl | exact Rn.x4 rfl rfl | exact Rn.x5 rfl | exact Rn.x6 rfl | exact Rn.x7 rfl | (refine Rn.slot ?_ ?_; (first | rfl | (rw [Int.natCast_add]; rfl)); (first | rfl | (simp only [noRef, noRefs, noRefs_append, Bool.and_self, Bool.and_true, Bool.true_and, noRefs_flat10, noRefs_ints, noRefs_lsts, noRefs_pad, noRefs_tnC, noRefs_arcC, noRefs_rowF, noRefs_flowC]; done))) | (refine Rn.fn ?_ ?_ <;> (repeat' (first | exact RnL.nil | refine RnL.cons ?_ ?_ | exact Rn.same rfl | exact Rn.x6 rfl | exact Rn.x2 rfl rfl | exact Rn.x5 rfl | exact Rn.x1 rfl rfl)))))))⟩
    · have e : i = set.length := by omega
      subst e
      rw [List.take_length]
      simp (config := { maxSteps := 1000000 }) (disch := first | omega | (simp only [List.length_map, List.length_append, List.length_cons, List.length_nil, ints_len] <;> omega)) only [hlt, vS, wordsN, Int.reduceGT, wordsR, ne_eq, words, Nat.reduceAdd, Nat.reduceEqDiff, Nat.reduceBEq, ↓reduceIte, reduceCtorEq, SX.exit.injEq, if_true, if_false, Int.reduceAdd, Int.reduceSub, Int.reduceMul, Int.reduceLT, Int.reduceLE, Int.reduceEq, Int.reduceNe, Int.reduceNeg, Int.reduceToNat, Nat.reduceMul, Nat.reduceLT, Nat.reduceSub, Nat.reduceLeDiff]
      exact ⟨(), ⟨[(20, .blk 20 0), (21, .blk 21 0), (22, .blk 22 0), (23, .blk 23 0), (24, .blk 24 0), (150, .blk 150 0)], rfl, (by repeat (first | exact RO.zero | exact RO.e | refine RO.set rfl ?_)), (by repeat' (first | exact RB.nil | (refine RnL.same ?_; first | rfl | (simp only [noRef, noRefs, noRefs_append, Bool.and_self, Bool.and_true, Bool.true_and, noRefs_flat10, noRefs_ints, noRefs_lsts, noRefs_pad, noRefs_tnC, noRefs_arcC, noRefs_rowF, noRefs_flowC]; done)) | exact RnM.keyM rfl | exact RnL.nil | refine RnL.cons ?_ ?_ | (refine Rn.same ?_; first | rfl | (simp only [noRef, noRefs, noRefs_append, Bool.and_self, Bool.and_true, Bool.true_and, noRefs_flat10, noRefs_ints, noRefs_lsts, noRefs_pad, noRefs_tnC, noRefs_arcC, noRefs_rowF, noRefs_flowC]; done)) | exact Rn.x1 rfl rfl | exact Rn.x2 rfl rfl | exact Rn.x3 rfl rfl | exact Rn.x4 rfl rfl | exact Rn.x5 rfl | exact Rn.x6 rfl | exact Rn.x7 rfl | refine RB.newnil rfl rfl ?_ | refine RB.cells rfl rfl rfl ?_ ?_ | refine RB.map rfl rfl rfl ?_ ?_ | refine RB.cellsB rfl rfl ?_ ?_ | refine RB.mapB rfl rfl ?_ ?_)), (by repeat (first | exact RT.nil | (refine RT.cons ?_ ?_; · (first | exact Rn.any | exact Rn.x1 rfl rfl | exact Rn.x2 rfl rfl | exact Rn.x3 rfl rfl | exact Rn.x4 rfl rfl | exact Rn.x5 rfl | exact Rn.x6 rfl | exact Rn.x7 rfl | (refine Rn.slot ?_ ?_; (first | rfl | (rw [Int.natCast_add]; rfl)); (first | rfl | (simp only [noRef, noRefs, noRefs_append, Bool.and_self, Bool.and_true, Bool.true_and, noRefs_flat10, noRefs_ints, noRefs_lsts, noRefs_pad, noRefs_tnC, noRefs_arcC, noRefs_rowF, noRefs_flowC]; done))) | (refine Rn.fn ?_ ?_ <;> (repeat' (first | exact RnL.nil | refine RnL.cons ?_ ?_ | exact Rn.same rfl | exact Rn.x6 rfl | exact Rn.x2 rfl rfl | exact Rn.x5 rfl | exact Rn.x1 rfl rfl)))))))⟩⟩
  rintro _ -
  have hS := hs16 set.length
  rw [List.take_length] at hS
  simp (config := { maxSteps := 1000000 }) (disch := first | omega | (simp only [List.length_map, List.length_append, List.length_cons, List.length_nil, ints_len] <;> omega)) only [vS, wordsN, Int.reduceGT, wordsR, ne_eq, words, Nat.reduceAdd, Nat.reduceEqDiff, Nat.reduceBEq, ↓reduceIte, reduceCtorEq, SX.exit.injEq, if_true, if_false, Int.reduceAdd, Int.reduceSub, Int.reduceMul, Int.reduceLT, Int.reduceLE, Int.reduceEq, Int.reduceNe, Int.reduceNeg, Int.reduceToNat, Nat.reduceMul, Nat.reduceLT, Nat.reduceSub, Nat.reduceLeDiff]
  refine wS_msearch (b := 21) (g := 0) (off := 0) (cs := [.map 22 0]) (mb := 22) (mg := 0) (es := keyM .u16 (.bool true) (F.map (·.1))) 610 700 600 [(0, .sl 150 0 0 set.length 1), (1, .ptr 21 0 0), (2, .ptr 24 0 0), (3, .ptr 20 0 0), (5, .int .u16 (supOf set : Nat))]
    [(0, .sl 150 0 0 set.length 1), (1, .ptr 21 0 0), (2, .ptr 24 0 0), (3, .ptr 20 0 0), (5, .int .u16 (supOf set : Nat))] (vS K R F g set) (fun k _ => ∀ x : Nat, k = .int .u16 x → ¬ (x &&& supOf set = x))
    rfl rfl rfl rfl rfl (by decide) (by decide) (by repeat (first | exact Sub.nil | refine Sub.cons (by first | rfl | (rw [Int.natCast_add]; rfl)) ?_)) rfl (by decide) rfl ?_ ?_ ?_
  · intro i k v hi
    obtain ⟨x, hx, rfl, rfl⟩ := keyM_get hi
    have hxm := List.mem_of_getElem? hx
    have hx16 : x < 65536 := by
      obtain ⟨f, hf, rfl⟩ := List.mem_map.1 hxm
      exact hFs f hf
    by_cases he : x &&& supOf set = x
    · have hv : visitR R F set = F := by
        obtain ⟨f, hf, rfl⟩ := List.mem_map.1 hxm
        unfold visitR
        rw [if_pos (List.any_eq_true.2 ⟨f, hf, decide_eq_true he⟩)]
      rw [hv, Nat.sub_self] at hL
      simp (config := { maxSteps := 1000000 }) (disch := first | omega | (simp only [List.length_map, List.length_append, List.length_cons, List.length_nil, ints_len] <;> omega)) only [vS, and16 hx16 hS, msQ_normal, msQ_exit, msQ_ret, he, wordsN, Int.reduceGT, wordsR, ne_eq, words, Nat.reduceAdd, Nat.reduceEqDiff, Nat.reduceBEq, ↓reduceIte, reduceCtorEq, SX.exit.injEq, if_true, if_false, Int.reduceAdd, Int.reduceSub, Int.reduceMul, Int.reduceLT, Int.reduceLE, Int.reduceEq, Int.reduceNe, Int.reduceNeg, Int.reduceToNat, Nat.reduceMul, Nat.reduceLT, Nat.reduceSub, Nat.reduceLeDiff]
      refine ⟨.inr trivial, _, rfl, rfl, ?_⟩
      rw [← hL]
      exact ⟨[(20, .blk 20 0), (21, .blk 21 0), (22, .blk 22 0), (23, .blk 23 0), (24, .blk 24 0), (150, .blk 150 0)], rfl, (by repeat (first | exact RO.zero | exact RO.e | refine RO.set rfl ?_)), (by repeat' (first | exact RB.nil | (refine RnL.same ?_; first | rfl | (simp only [noRef, noRefs, noRefs_append, Bool.and_self, Bool.and_true, Bool.true_and, noRefs_flat10, noRefs_ints, noRefs_lsts, noRefs_pad, noRefs_tnC, noRefs_arcC, noRefs_rowF, noRefs_flowC]; done)) | exact RnM.keyM rfl | exact RnL.nil | refine RnL.cons ?_ ?_ | (refine Rn.same ?_; first | rfl | (simp only [noRef, noRefs, noRefs_append, Bool.and_self, Bool.and_true, Bool.true_and, noRefs_flat10, noRefs_ints, noRefs_lsts, noRefs_pad, noRefs_tnC, noRefs_arcC, noRefs_rowF, noRefs_flowC]; done)) | exact Rn.x1 rfl rfl | exact Rn.x2 rfl rfl | exact Rn.x3 rfl rfl | exact Rn.x4 rfl rfl | exact Rn.x5 rfl | exact Rn.x6 rfl | exact Rn.x7 rfl | refine RB.newnil rfl rfl ?_ | refine RB.cells rfl rfl rfl ?_ ?_ | refine RB.map rfl rfl rfl ?_ ?_ | refine RB.cellsB rfl rfl ?_ ?_ | refine RB.mapB rfl rfl ?_ ?_)), (by repeat (first | exact RT.nil | (refine RT.cons ?_ ?_; · (first | exact Rn.any | exact Rn.x1 rfl rfl | exact Rn.x2 rfl rfl | exact Rn.x3 rfl rfl | exact Rn.x4 rfl rfl | exact Rn.x5 rfl | exact Rn.x6 rfl | exact Rn.x7 rfl | (refine Rn.slot ?_ ?_; (first | rfl | (rw [Int.natCast_add]; rfl)); (first | rfl | (simp only [noRef, noRefs, noRefs_append, Bool.and_self, Bool.and_true, Bool.true_and, noRefs_flat10, noRefs_ints, noRefs_lsts, noRefs_pad, noRefs_tnC, noRefs_arcC, noRefs_rowF, noRefs_flowC]; done))) | (refine Rn.fn ?_ ?_ <;> (repeat' (first | exact RnL.nil | refine RnL.cons ?_ ?_ | exact Rn.same rfl | exact Rn.x6 rfl | exact Rn.x2 rfl rfl | exact Rn.x5 rfl | exact Rn.x1 rfl rfl)))))))⟩
    · simp (config := { maxSteps := 1000000 }) (disch := first | omega | (simp only [List.length_map, List.length_append, List.length_cons, List.length_nil, ints_len] <;> omega)) only [vS, and16 hx16 hS, msQ_normal, msQ_exit, msQ_ret, he, wordsN, Int.reduceGT, wordsR, ne_eq, words, Nat.reduceAdd, Nat.reduceEqDiff, Nat.reduceBEq, ↓reduceIte, reduceCtorEq, SX.exit.injEq, if_true, if_false, Int.reduceAdd, Int.reduceSub, Int.reduceMul, Int.reduceLT, Int.reduceLE, Int.reduceEq, Int.reduceNe, Int.reduceNeg, Int.reduceToNat, Nat.reduceMul, Nat.reduceLT, Nat.reduceSub, Nat.reduceLeDiff]
      refine ⟨fun y hy hy2 => ?_, by repeat (first | exact Sub.nil | refine Sub.cons (by first | rfl | (rw [Int.natCast_add]; rfl)) ?_)⟩
      injection hy with _ hy
      have : x = y := by omega
      subst this
      exact he hy2
  · exact ⟨[(20, .blk 20 0), (21, .blk 21 0), (22, .blk 22 0), (23, .blk 23 0), (24, .blk 24 0), (150, .blk 150 0)], rfl, (by repeat (first | exact RO.zero | exact RO.e | refine RO.set rfl ?_)), (by repeat' (first | exact RB.nil | (refine RnL.same ?_; first | rfl | (simp only [noRef, noRefs, noRefs_append, Bool.and_self, Bool.and_true, Bool.true_and, noRefs_flat10, noRefs_ints, noRefs_lsts, noRefs_pad, noRefs_tnC, noRefs_arcC, noRefs_rowF, noRefs_flowC]; done)) | exact RnM.keyM rfl | exact RnL.nil | refine RnL.cons ?_ ?_ | (refine Rn.same ?_; first | rfl | (simp only [noRef, noRefs, noRefs_append, Bool.and_self, Bool.and_true, Bool.true_and, noRefs_flat10, noRefs_ints, noRefs_lsts, noRefs_pad, noRefs_tnC, noRefs_arcC, noRefs_rowF, noRefs_flowC]; done)) | exact Rn.x1 rfl rfl | exact Rn.x2 rfl rfl | exact Rn.x3 rfl rfl | exact Rn.x4 rfl rfl | exact Rn.x5 rfl | exact Rn.x6 rfl | exact Rn.x7 rfl | refine RB.newnil rfl rfl ?_ | refine RB.cells rfl rfl rfl ?_ ?_ | refine RB.map rfl rfl rfl ?_ ?_ | refine RB.cellsB rfl rfl ?_ ?_ | refine RB.mapB rfl rfl ?_ ?_)), (by repeat (first | exact RT.nil | (refine RT.cons ?_ ?_; · (first | exact Rn.any | exact Rn.x1 rfl rfl | exact Rn.x2 rfl rfl | exact Rn.x3 rfl rfl | exact Rn.x4 rfl rfl | exact Rn.x5 rfl | exact Rn.x6 rfl | exact Rn.x7 rfl | (refine Rn.slot ?_ ?_; (first | rfl | (rw [Int.natCast_add]; rfl)); (first | rfl | (simp only [noRef, noRefs, noRefs_append, Bool.and_self, Bool.and_true, Bool.true_and, noRefs_flat10, noRefs_ints, noRefs_lsts, noRefs_pad, noRefs_tnC, noRefs_arcC, noRefs_rowF, noRefs_flowC]; done))) | (refine Rn.fn ?_ ?_ <;> (repeat' (first | exact RnL.nil | refine RnL.cons ?_ ?_ | exact Rn.same rfl | exact Rn.x6 rfl | exact Rn.x2 rfl rfl | exact Rn.x5 rfl | exact Rn.x1 rfl rfl)))))))⟩
  · intro hnone
    have hany : (F.any fun f => decide (f.1 &&& supOf set = f.1)) = false := by
      rw [List.any_eq_false]
      intro f hf hd
      obtain ⟨j, hj, hjl⟩ := mem_at (List.mem_map.2 ⟨f, hf, rfl⟩ : f.1 ∈ F.map (·.1))
      exact hnone j (.int .u16 (f.1 : Nat)) (.bool true) (by simp only [keyM, List.getElem?_map, hj]; rfl) f.1 rfl (of_decide_eq_true hd)
    simp (config := { maxSteps := 1000000 }) (disch := first | omega | (simp only [List.length_map, List.length_append, List.length_cons, List.length_nil, ints_len] <;> omega)) only [vS, wordsN, Int.reduceGT, wordsR, ne_eq, words, Nat.reduceAdd, Nat.reduceEqDiff, Nat.reduceBEq, ↓reduceIte, reduceCtorEq, SX.exit.injEq, if_true, if_false, Int.reduceAdd, Int.reduceSub, Int.reduceMul, Int.reduceLT, Int.reduceLE, Int.reduceEq, Int.reduceNe, Int.reduceNeg, Int.reduceToNat, Nat.reduceMul, Nat.reduceLT, Nat.reduceSub, Nat.reduceLeDiff]
    have hkf := kernelF R K set hK hR hRk hc hn hb
    rw [show sli (colI set) = .fsl (ints (colI set)) set.length 1 by rw [← hcil]] at hkf
    refine ch (HSpec.of_F (bs := [tabV K R, .fsl (ints (colI set)) set.length 1]) ?_ hkf) ?_
    · refine ⟨FrzTo.same _, FrzTo.sl (cs := ints (colI set)) rfl ?_ ?_, trivial⟩
      · simp [ints, hcil]
      · rw [List.drop_zero, List.take_of_length_le (by simp [ints, hcil])]; exact FrzL.same _
    cases hk : kerR R set with
    | none =>
      have hv : visitR R F set = F := by
        unfold visitR
        rw [hany, hk]; rfl
      rw [hv, Nat.sub_self] at hL
      unfold kerV
      simp (config := { maxSteps := 1000000 }) (disch := first | omega | (simp only [List.length_map, List.length_append, List.length_cons, List.length_nil, ints_len] <;> omega)) only [vS, wordsN, Int.reduceGT, wordsR, ne_eq, words, Nat.reduceAdd, Nat.reduceEqDiff, Nat.reduceBEq, ↓reduceIte, reduceCtorEq, SX.exit.injEq, if_true, if_false, Int.reduceAdd, Int.reduceSub, Int.reduceMul, Int.reduceLT, Int.reduceLE, Int.reduceEq, Int.reduceNe, Int.reduceNeg, Int.reduceToNat, Nat.reduceMul, Nat.reduceLT, Nat.reduceSub, Nat.reduceLeDiff]
      refine ⟨.inr trivial, _, rfl, rfl, ?_⟩
      rw [← hL]
      exact ⟨[(20, .blk 20 0), (21, .blk 21 0), (22, .blk 22 0), (23, .blk 23 0), (24, .blk 24 0), (150, .blk 150 0)], rfl, (by repeat (first | exact RO.zero | exact RO.e | refine RO.set rfl ?_)), (by repeat' (first | exact RB.nil | (refine RnL.same ?_; first | rfl | (simp only [noRef, noRefs, noRefs_append, Bool.and_self, Bool.and_true, Bool.true_and, noRefs_flat10, noRefs_ints, noRefs_lsts, noRefs_pad, noRefs_tnC, noRefs_arcC, noRefs_rowF, noRefs_flowC]; done)) | exact RnM.keyM rfl | exact RnL.nil | refine RnL.cons ?_ ?_ | (refine Rn.same ?_; first | rfl | (simp only [noRef, noRefs, noRefs_append, Bool.and_self, Bool.and_true, Bool.true_and, noRefs_flat10, noRefs_ints, noRefs_lsts, noRefs_pad, noRefs_tnC, noRefs_arcC, noRefs_rowF, noRefs_flowC]; done)) | exact Rn.x1 rfl rfl | exact Rn.x2 rfl rfl | exact Rn.x3 rfl rfl | exact Rn.x4 rfl rfl | exact Rn.x5 rfl | exact Rn.x6 rfl | exact Rn.x7 rfl | refine RB.newnil rfl rfl ?_ | refine RB.cells rfl rfl rfl ?_ ?_ | refine RB.map rfl rfl rfl ?_ ?_ | refine RB.cellsB rfl rfl ?_ ?_ | refine RB.mapB rfl rfl ?_ ?_)), (by repeat (first | exact RT.nil | (refine RT.cons ?_ ?_; · (first | exact Rn.any | exact Rn.x1 rfl rfl | exact Rn.x2 rfl rfl | exact Rn.x3 rfl rfl | exact Rn.x4 rfl rfl | exact Rn.x5 rfl | exact Rn.x6 rfl | exact Rn.x7 rfl | (refine Rn.slot ?_ ?_; (first | rfl | (rw [Int.natCast_add]; rfl)); (first | rfl | (simp only [noRef, noRefs, noRefs_append, Bool.and_self, Bool.and_true, Bool.true_and, noRefs_flat10, noRefs_ints, noRefs_lsts, noRefs_pad, noRefs_tnC, noRefs_arcC, noRefs_rowF, noRefs_flowC]; done))) | (refine Rn.fn ?_ ?_ <;> (repeat' (first | exact RnL.nil | refine RnL.cons ?_ ?_ | exact Rn.same rfl | exact Rn.x6 rfl | exact Rn.x2 rfl rfl | exact Rn.x5 rfl | exact Rn.x1 rfl rfl)))))))⟩
    | some l =>
      have hll := ker_len hk
      unfold kerV
      simp (config := { maxSteps := 1000000 }) (disch := first | omega | (simp only [List.length_map, List.length_append, List.length_cons, List.length_nil, ints_len] <;> omega)) only [vS, wordsN, Int.reduceGT, wordsR, ne_eq, words, Nat.reduceAdd, Nat.reduceEqDiff, Nat.reduceBEq, ↓reduceIte, reduceCtorEq, SX.exit.injEq, if_true, if_false, Int.reduceAdd, Int.reduceSub, Int.reduceMul, Int.reduceLT, Int.reduceLE, Int.reduceEq, Int.reduceNe, Int.reduceNeg, Int.reduceToNat, Nat.reduceMul, Nat.reduceLT, Nat.reduceSub, Nat.reduceLeDiff]
      refine call_borrow rfl (contains62 l (by omega)) rfl ?_
      cases hng : l.any fun x => decide (x < 0) with
      | true =>
        have hv : visitR R F set = F := by
          unfold visitR
          rw [hany, hk]; simp only [Bool.false_eq_true, if_false, hng, if_true]
        rw [hv, Nat.sub_self] at hL
        simp (config := { maxSteps := 1000000 }) (disch := first | omega | (simp only [List.length_map, List.length_append, List.length_cons, List.length_nil, ints_len] <;> omega)) only [vS, wordsN, Int.reduceGT, wordsR, ne_eq, words, Nat.reduceAdd, Nat.reduceEqDiff, Nat.reduceBEq, ↓reduceIte, reduceCtorEq, SX.exit.injEq, if_true, if_false, Int.reduceAdd, Int.reduceSub, Int.reduceMul, Int.reduceLT, Int.reduceLE, Int.reduceEq, Int.reduceNe, Int.reduceNeg, Int.reduceToNat, Nat.reduceMul, Nat.reduceLT, Nat.reduceSub, Nat.reduceLeDiff]
        refine ⟨.inr trivial, _, rfl, rfl, ?_⟩
        rw [← hL]
        exact ⟨[(20, .blk 20 0), (21, .blk 21 0), (22, .blk 22 0), (23, .blk 23 0), (24, .blk 24 0), (150, .blk 150 0)], rfl, (by repeat (first | exact RO.zero | exact RO.e | refine RO.set rfl ?_)), (by repeat' (first | exact RB.nil | (refine RnL.same ?_; first | rfl | (simp only [noRef, noRefs, noRefs_append, Bool.and_self, Bool.and_true, Bool.true_and, noRefs_flat10, noRefs_ints, noRefs_lsts, noRefs_pad, noRefs_tnC, noRefs_arcC, noRefs_rowF, noRefs_flowC]; done)) | exact RnM.keyM rfl | exact RnL.nil | refine RnL.cons ?_ ?_ | (refine Rn.same ?_; first | rfl | (simp only [noRef, noRefs, noRefs_append, Bool.and_self, Bool.and_true, Bool.true_and, noRefs_flat10, noRefs_ints, noRefs_lsts, noRefs_pad, noRefs_tnC, noRefs_arcC, noRefs_rowF, noRefs_flowC]; done)) | exact Rn.x1 rfl rfl | exact Rn.x2 rfl rfl | exact Rn.x3 rfl rfl | exact Rn.x4 rfl rfl | exact Rn.x5 rfl | exact Rn.x6 rfl | exact Rn.x7 rfl | refine RB.newnil rfl rfl ?_ | refine RB.cells rfl rfl rfl ?_ ?_ | refine RB.map rfl rfl rfl ?_ ?_ | refine RB.cellsB rfl rfl ?_ ?_ | refine RB.mapB rfl rfl ?_ ?_)), (by repeat (first | exact RT.nil | (refine RT.cons ?_ ?_; · (first | exact Rn.any | exact Rn.x1 rfl rfl | exact Rn.x2 rfl rfl | exact Rn.x3 rfl rfl | exact Rn.x4 rfl rfl | exact Rn.x5 rfl | exact Rn.x6 rfl | exact Rn.x7 rfl | (refine Rn.slot ?_ ?_; (first | rfl | (rw [Int.natCast_add]; rfl)); (first | rfl | (simp only [noRef, noRefs, noRefs_append, Bool.and_self, Bool.and_true, Bool.true_and, noRefs_flat10, noRefs_ints, noRefs_lsts, noRefs_pad, noRefs_tnC, noRefs_arcC, noRefs_rowF, noRefs_flowC]; done))) | (refine Rn.fn ?_ ?_ <;> (repeat' (first | exact RnL.nil | refine RnL.cons ?_ ?_ | exact Rn.same rfl | exact Rn.x6 rfl | exact Rn.x2 rfl rfl | exact Rn.x5 rfl | exact Rn.x1 rfl rfl)))))))⟩
      | false =>
        have hv : visitR R F set = F ++ [(supOf set, scat set l)] := by
          unfold visitR
          rw [hany, hk]; simp only [Bool.false_eq_true, if_false, hng]
        rw [hv, List.length_append, List.length_singleton, Nat.add_sub_cancel_left] at hL
        simp (config := { maxSteps := 1000000 }) (disch := first | omega | (simp only [List.length_map, List.length_append, List.length_cons, List.length_nil, ints_len] <;> omega)) only [vS, wordsN, Int.reduceGT, wordsR, ne_eq, words, Nat.reduceAdd, Nat.reduceEqDiff, Nat.reduceBEq, ↓reduceIte, reduceCtorEq, SX.exit.injEq, if_true, if_false, Int.reduceAdd, Int.reduceSub, Int.reduceMul, Int.reduceLT, Int.reduceLE, Int.reduceEq, Int.reduceNe, Int.reduceNeg, Int.reduceToNat, Nat.reduceMul, Nat.reduceLT, Nat.reduceSub, Nat.reduceLeDiff]
        refine wS_loopX 800 (fun i : Nat => [(1, .ptr 21 0 0), (3, .ptr 20 0 0), (5, .int .u16 (supOf set : Nat)), (9, sli l), (11, .ptr 210 0 0), (50, .sl 150 0 0 set.length 1), (51, .int .i64 set.length), (52, .int .i64 i)])
          (fun i => vW K R F g set (scat (set.take i) (l.take i))) (fun i => i ≤ set.length) (fun i => set.length - i) 0 4 900
          (fun _ : Unit => [(1, .ptr 21 0 0), (3, .ptr 20 0 0), (5, .int .u16 (supOf set : Nat)), (11, .ptr 210 0 0)]) (fun _ => vW K R F g set (scat set l)) (fun _ => True) ⟨[(20, .blk 20 0), (21, .blk 21 0), (22, .blk 22 0), (23, .blk 23 0), (24, .blk 24 0), (150, .blk 150 0), (210, .blk 716 0)], rfl, (by repeat (first | exact RO.zero | exact RO.e | refine RO.set rfl ?_)), (by repeat' (first | exact RB.nil | (refine RnL.same ?_; first | rfl | (simp only [noRef, noRefs, noRefs_append, Bool.and_self, Bool.and_true, Bool.true_and, noRefs_flat10, noRefs_ints, noRefs_lsts, noRefs_pad, noRefs_tnC, noRefs_arcC, noRefs_rowF, noRefs_flowC]; done)) | exact RnM.keyM rfl | exact RnL.nil | refine RnL.cons ?_ ?_ | (refine Rn.same ?_; first | rfl | (simp only [noRef, noRefs, noRefs_append, Bool.and_self, Bool.and_true, Bool.true_and, noRefs_flat10, noRefs_ints, noRefs_lsts, noRefs_pad, noRefs_tnC, noRefs_arcC, noRefs_rowF, noRefs_flowC]; done)) | exact Rn.x1 rfl rfl | exact Rn.x2 rfl rfl | exact Rn.x3 rfl rfl | exact Rn.x4 rfl rfl | exact Rn.x5 rfl | exact Rn.x6 rfl | exact Rn.x7 rfl | refine RB.newnil rfl rfl ?_ | refine RB.cells rfl rfl rfl ?_ ?_ | refine RB.map rfl rfl rfl ?_ ?_ | refine RB.cellsB rfl rfl ?_ ?_ | refine RB.mapB rfl rfl ?_ ?_)), (by repeat (first | exact RT.nil | (refine RT.cons ?_ ?_; · (first | exact Rn.any | exact Rn.x1 rfl rfl | exact Rn.x2 rfl rfl | exact Rn.x3 rfl rfl | exact Rn.x4 rfl rfl | exact Rn.x5 rfl | exact Rn.x6 rfl | exact Rn.x7 rfl | (refine Rn.slot ?_ ?_; (first | rfl | (rw [Int.natCast_add]; rfl)); (first | rfl | (simp only [noRef, noRefs, noRefs_append, Bool.and_self, Bool.and_true, Bool.true_and, noRefs_flat10, noRefs_ints, noRefs_lsts, noRefs_pad, noRefs_tnC, noRefs_arcC, noRefs_rowF, noRefs_flowC]; done))) | (refine Rn.fn ?_ ?_ <;> (repeat' (first | exact RnL.nil | refine RnL.cons ?_ ?_ | exact Rn.same rfl | exact Rn.x6 rfl | exact Rn.x2 rfl rfl | exact Rn.x5 rfl | exact Rn.x1 rfl rfl)))))))⟩ (Nat.zero_le _) ?_ ?_
        · intro i hi
          by_cases hlt : i < set.length
          · obtain ⟨c, hcc⟩ := get_ex hlt
            obtain ⟨x, hx⟩ := get_ex (show i < l.length by omega)
            have hcl := hc c (List.mem_of_getElem? hcc)
            have hgi : (ints (colI set))[i]? = some (.int .i64 c) := by simp [ints, colI_get hcc]
            have hi2 : i < l.length := by omega
            have hc10 : (c : Int) < 10 := by omega
            have hst := scat_take hcc hx
            generalize scat (set.take i) (l.take i) = f at hst
            have hset : ∀ a v, (a :: rowF 10 f).set (1 + c) (.int .i64 v) = a :: rowF 10 (fun j => if j = c then v else f j) := fun a v => by
              rw [Nat.add_comm 1 c, List.set_cons_succ, rowF_set]
            have hle : 1 + c + 1 ≤ 10 + 1 := by omega
            simp (config := { maxSteps := 1000000 }) (disch := first | omega | (simp only [List.length_map, List.length_append, List.length_cons, List.length_nil, ints_len] <;> omega)) only [hlt, hgi, vW, head_ints hx, hc10, hi2, hset, rowF_len, hle, wordsN, Int.reduceGT, wordsR, ne_eq, words, Nat.reduceAdd, Nat.reduceEqDiff, Nat.reduceBEq, ↓reduceIte, reduceCtorEq, SX.exit.injEq, if_true, if_false, Int.reduceAdd, Int.reduceSub, Int.reduceMul, Int.reduceLT, Int.reduceLE, Int.reduceEq, Int.reduceNe, Int.reduceNeg, Int.reduceToNat, Nat.reduceMul, Nat.reduceLT, Nat.reduceSub, Nat.reduceLeDiff]
            refine ⟨i + 1, by omega, by omega, ?_⟩
            rw [hst]
            exact ⟨[(20, .blk 20 0), (21, .blk 21 0), (22, .blk 22 0), (23, .blk 23 0), (24, .blk 24 0), (150, .blk 150 0), (210, .blk 210 0)], rfl, (by repeat (first | exact RO.zero | exact RO.e | refine RO.set rfl ?_)), (by repeat' (first | exact RB.nil | (refine RnL.same ?_; first | rfl | (simp only [noRef, noRefs, noRefs_append, Bool.and_self, Bool.and_true, Bool.true_and, noRefs_flat10, noRefs_ints, noRefs_lsts, noRefs_pad, noRefs_tnC, noRefs_arcC, noRefs_rowF, noRefs_flowC]; done)) | exact RnM.keyM rfl | exact RnL.nil | refine RnL.cons ?_ ?_ | (refine Rn.same ?_; first | rfl | (simp only [noRef, noRefs, noRefs_append, Bool.and_self, Bool.and_true, Bool.true_and, noRefs_flat10, noRefs_ints, noRefs_lsts, noRefs_pad, noRefs_tnC, noRefs_arcC, noRefs_rowF, noRefs_flowC]; done)) | exact Rn.x1 rfl rfl | exact Rn.x2 rfl rfl | exact Rn.x3 rfl rfl | exact Rn.x4 rfl rfl | exact Rn.x5 rfl | exact Rn.x6 rfl | exact Rn.x7 rfl | refine RB.newnil rfl rfl ?_ | refine RB.cells rfl rfl rfl ?_ ?_ | refine RB.map rfl rfl rfl ?_ ?_ | refine RB.cellsB rfl rfl ?_ ?_ | refine RB.mapB rfl rfl ?_ ?_)), (by repeat (first | exact RT.nil | (refine RT.cons ?_ ?_; · (first | exact Rn.any | exact Rn.x1 rfl rfl | exact Rn.x2 rfl rfl | exact Rn.x3 rfl rfl | exact Rn.x4 rfl rfl | exact Rn.x5 rfl | exact Rn.x6 rfl | exact Rn.x7 rfl | (refine Rn.slot ?_ ?_; (first | rfl | (rw [Int.natCast_add]; rfl)); (first | rfl | (simp only [noRef, noRefs, noRefs_append, Bool.and_self, Bool.and_true, Bool.true_and, noRefs_flat10, noRefs_ints, noRefs_lsts, noRefs_pad, noRefs_tnC, noRefs_arcC, noRefs_rowF, noRefs_flowC]; done))) | (refine Rn.fn ?_ ?_ <;> (repeat' (first | exact RnL.nil | refine RnL.cons ?_ ?_ | exact Rn.same rfl | exact Rn.x6 rfl | exact Rn.x2 rfl rfl | exact Rn.x5 rfl | exact Rn.x1 rfl rfl)))))))⟩
          · have e : i = set.length := by omega
            subst e
            rw [List.take_length, ← hll, List.take_length]
            simp (config := { maxSteps := 1000000 }) (disch := first | omega | (simp only [List.length_map, List.length_append, List.length_cons, List.length_nil, ints_len] <;> omega)) only [hlt, vW, hll, wordsN, Int.reduceGT, wordsR, ne_eq, words, Nat.reduceAdd, Nat.reduceEqDiff, Nat.reduceBEq, ↓reduceIte, reduceCtorEq, SX.exit.injEq, if_true, if_false, Int.reduceAdd, Int.reduceSub, Int.reduceMul, Int.reduceLT, Int.reduceLE, Int.reduceEq, Int.reduceNe, Int.reduceNeg, Int.reduceToNat, Nat.reduceMul, Nat.reduceLT, Nat.reduceSub, Nat.reduceLeDiff]
            exact ⟨(), ⟨[(20, .blk 20 0), (21, .blk 21 0), (22, .blk 22 0), (23, .blk 23 0), (24, .blk 24 0), (150, .blk 150 0), (210, .blk 210 0)], rfl, (by repeat (first | exact RO.zero | exact RO.e | refine RO.set rfl ?_)), (by repeat' (first | exact RB.nil | (refine RnL.same ?_; first | rfl | (simp only [noRef, noRefs, noRefs_append, Bool.and_self, Bool.and_true, Bool.true_and, noRefs_flat10, noRefs_ints, noRefs_lsts, noRefs_pad, noRefs_tnC, noRefs_arcC, noRefs_rowF, noRefs_flowC]; done)) | exact RnM.keyM rfl | exact RnL.nil | refine RnL.cons ?_ ?_ | (refine Rn.same ?_; first | rfl | (simp only [noRef, noRefs, noRefs_append, Bool.and_self, Bool.and_true, Bool.true_and, noRefs_flat10, noRefs_ints, noRefs_lsts, noRefs_pad, noRefs_tnC, noRefs_arcC, noRefs_rowF, noRefs_flowC]; done)) | exact Rn.x1 rfl rfl | exact Rn.x2 rfl rfl | exact Rn.x3 rfl rfl | exact Rn.x4 rfl rfl | exact Rn.x5 rfl | exact Rn.x6 rfl | exact Rn.x7 rfl | refine RB.newnil rfl rfl ?_ | refine RB.cells rfl rfl rfl ?_ ?_ | refine RB.map rfl rfl rfl ?_ ?_ | refine RB.cellsB rfl rfl ?_ ?_ | refine RB.mapB rfl rfl ?_ ?_)), (by repeat (first | exact RT.nil | (refine RT.cons ?_ ?_; · (first | exact Rn.any | exact Rn.x1 rfl rfl | exact Rn.x2 rfl rfl | exact Rn.x3 rfl rfl | exact Rn.x4 rfl rfl | exact Rn.x5 rfl | exact Rn.x6 rfl | exact Rn.x7 rfl | (refine Rn.slot ?_ ?_; (first | rfl | (rw [Int.natCast_add]; rfl)); (first | rfl | (simp only [noRef, noRefs, noRefs_append, Bool.and_self, Bool.and_true, Bool.true_and, noRefs_flat10, noRefs_ints, noRefs_lsts, noRefs_pad, noRefs_tnC, noRefs_arcC, noRefs_rowF, noRefs_flowC]; done))) | (refine Rn.fn ?_ ?_ <;> (repeat' (first | exact RnL.nil | refine RnL.cons ?_ ?_ | exact Rn.same rfl | exact Rn.x6 rfl | exact Rn.x2 rfl rfl | exact Rn.x5 rfl | exact Rn.x1 rfl rfl)))))))⟩⟩
        rintro _ -
        simp (config := { maxSteps := 1000000 }) (disch := first | omega | (simp only [List.length_map, List.length_append, List.length_cons, List.length_nil, ints_len] <;> omega)) only [vW, wordsN, Int.reduceGT, wordsR, ne_eq, words, Nat.reduceAdd, Nat.reduceEqDiff, Nat.reduceBEq, ↓reduceIte, reduceCtorEq, SX.exit.injEq, if_true, if_false, Int.reduceAdd, Int.reduceSub, Int.reduceMul, Int.reduceLT, Int.reduceLE, Int.reduceEq, Int.reduceNe, Int.reduceNeg, Int.reduceToNat, Nat.reduceMul, Nat.reduceLT, Nat.reduceSub, Nat.reduceLeDiff]
        have hx : supOf set ∉ F.map (·.1) := by
          intro hm
          obtain ⟨f, hf, he⟩ := List.mem_map.1 hm
          have := List.any_eq_false.1 hany f hf
          rw [he] at this
          simp at this
        refine aMapUpd_new (wU_ins (l := F.map (·.1)) hx (by decide) ?_)
        have ht : (AV.int .u16 (supOf set : Nat) :: rowF 10 (scat set l)).take 11 = AV.int .u16 (supOf set : Nat) :: rowF 10 (scat set l) := List.take_of_length_le (by rw [List.length_cons, rowF_len]; exact Nat.le_refl _)
        have hone : (AV.int .u16 (supOf set : Nat) :: rowF 10 (scat set l)).all AV.one = true := by rw [List.all_cons, one_rowF]; rfl
        have hput : putR [.int .u16 0, .int .i64 0, .int .i64 0, .int .i64 0, .int .i64 0, .int .i64 0, .int .i64 0, .int .i64 0, .int .i64 0, .int .i64 0, .int .i64 0] 0 (AV.int .u16 (supOf set : Nat) :: rowF 10 (scat set l)) = AV.int .u16 (supOf set : Nat) :: rowF 10 (scat set l) := rfl
        have hsrc : srcB (some (.cells g (flowC F))) g 0 F.length 11 = some (flowC F) := srcB_all (flowC_len F)
        have hfl : flowC F ++ (AV.int .u16 (supOf set : Nat) :: rowF 10 (scat set l)) = flowC (F ++ [(supOf set, scat set l)]) := by
          unfold flowC; rw [List.flatMap_append, List.flatMap_singleton]
        have hrl := rowF_len 10 (scat set l)
        simp (config := { maxSteps := 1000000 }) (disch := first | omega | (simp only [List.length_map, List.length_append, List.length_cons, List.length_nil, ints_len] <;> omega)) only [ht, hone, hrl, hput, hsrc, hfl, wordsN, Int.reduceGT, wordsR, ne_eq, words, Nat.reduceAdd, Nat.reduceEqDiff, Nat.reduceBEq, ↓reduceIte, reduceCtorEq, SX.exit.injEq, if_true, if_false, Int.reduceAdd, Int.reduceSub, Int.reduceMul, Int.reduceLT, Int.reduceLE, Int.reduceEq, Int.reduceNe, Int.reduceNeg, Int.reduceToNat, Nat.reduceMul, Nat.reduceLT, Nat.reduceSub, Nat.reduceLeDiff]
        refine ⟨.inl trivial, _, rfl, rfl, ?_⟩
        rw [← hL]
        simp only [vS, List.length_append, List.length_cons, List.length_nil, List.map_append, List.map_cons, List.map_nil, Nat.zero_add]
        exact ⟨[(20, .blk 20 0), (21, .blk 21 0), (22, .blk 22 0), (23, .blk 23 0), (24, .blk 24 0), (150, .blk 150 0)], rfl, (by repeat (first | exact RO.zero | exact RO.e | refine RO.set rfl ?_)), (by repeat' (first | exact RB.nil | (refine RnL.same ?_; first | rfl | (simp only [noRef, noRefs, noRefs_append, Bool.and_self, Bool.and_true, Bool.true_and, noRefs_flat10, noRefs_ints, noRefs_lsts, noRefs_pad, noRefs_tnC, noRefs_arcC, noRefs_rowF, noRefs_flowC]; done)) | exact RnM.keyM rfl | exact RnL.nil | refine RnL.cons ?_ ?_ | (refine Rn.same ?_; first | rfl | (simp only [noRef, noRefs, noRefs_append, Bool.and_self, Bool.and_true, Bool.true_and, noRefs_flat10, noRefs_ints, noRefs_lsts, noRefs_pad, noRefs_tnC, noRefs_arcC, noRefs_rowF, noRefs_flowC]; done)) | exact Rn.x1 rfl rfl | exact Rn.x2 rfl rfl | exact Rn.x3 rfl rfl | exact Rn.x4 rfl rfl | exact Rn.x5 rfl | exact Rn.x6 rfl | exact Rn.x7 rfl | refine RB.newnil rfl rfl ?_ | refine RB.cells rfl rfl rfl ?_ ?_ | refine RB.map rfl rfl rfl ?_ ?_ | refine RB.cellsB rfl rfl ?_ ?_ | refine RB.mapB rfl rfl ?_ ?_)), (by repeat (first | exact RT.nil | (refine RT.cons ?_ ?_; · (first | exact Rn.any | exact Rn.x1 rfl rfl | exact Rn.x2 rfl rfl | exact Rn.x3 rfl rfl | exact Rn.x4 rfl rfl | exact Rn.x5 rfl | exact Rn.x6 rfl | exact Rn.x7 rfl | (refine Rn.slot ?_ ?_; (first | rfl | (rw [Int.natCast_add]; rfl)); (first | rfl | (simp only [noRef, noRefs, noRefs_append, Bool.and_self, Bool.and_true, Bool.true_and, noRefs_flat10, noRefs_ints, noRefs_lsts, noRefs_pad, noRefs_tnC, noRefs_arcC, noRefs_rowF, noRefs_flowC]; done))) | (refine Rn.fn ?_ ?_ <;> (repeat' (first | exact RnL.nil | refine RnL.cons ?_ ?_ | exact Rn.same rfl | exact Rn.x6 rfl | exact Rn.x2 rfl rfl | exact Rn.x5 rfl | exact Rn.x1 rfl rfl)))))))⟩
end Go.AM.SN
namespace Go.AM.SN
open Go.Proofs Go.AM.SK
set_option maxRecDepth 100000
set_option linter.unusedSimpArgs false
set_option linter.unusedVariables false
def setsF : Nat → Nat → Nat → List (List Nat)
  | 0, _, _ => [[]]
  | _ + 1, 0, _ => []
  | s + 1, c + 1, a => (setsF s c (a + 1)).map (a :: ·) ++ setsF (s + 1) c (a + 1)
def nxt (s : List Nat) (i : Nat) : List Nat := (List.range s.length).map fun p => if p < i then s.getD p 0 else s.getD i 0 + 1 + (p - i)
theorem sets_props : ∀ n, n < 6 → ∀ k, k < 6 → ∀ s ∈ setsF k n 0, s.length = k ∧ (∀ c ∈ s, c < n) ∧ s.Pairwise (· < ·) := by decide +kernel
theorem sets_first : ∀ n, n < 6 → ∀ k, k < 6 → k ≤ n → (setsF k n 0)[0]? = some (List.range k) := by decide +kernel
theorem sets_small : ∀ n, n < 6 → ∀ k, k < 6 → (setsF k n 0).length ≤ 10 := by decide +kernel
def chkNext : Bool := (List.range 6).all fun n => (List.range 6).all fun k => (List.range (setsF k n 0).length).all fun j => (List.range k).all fun i =>
  (((setsF k n 0).getD j []).getD i 0 == n - k + i) || !((List.range k).all fun p => !(decide (i < p)) || ((setsF k n 0).getD j []).getD p 0 == n - k + p) || decide ((setsF k n 0)[j + 1]? = some (nxt ((setsF k n 0).getD j []) i))
theorem chkNext_ok : chkNext = true := by decide +kernel
theorem sets_next (n : Nat) (hn : n < 6) (k : Nat) (hk : k < 6) (j : Nat) (hj : j < (setsF k n 0).length) (i : Nat) (hi : i < k) (h1 : ((setsF k n 0).getD j []).getD i 0 ≠ n - k + i) (h2 : ∀ p, p < k → i < p → ((setsF k n 0).getD j []).getD p 0 = n - k + p) :
    (setsF k n 0)[j + 1]? = some (nxt ((setsF k n 0).getD j []) i) := by
  have h := chkNext_ok
  unfold chkNext at h
  simp only [List.all_eq_true, List.mem_range] at h
  have h := h n hn k hk j hj i hi
  simp only [Bool.or_eq_true, Bool.not_eq_true', decide_eq_true_eq, beq_iff_eq] at h
  rcases h with (h | h) | h
  · exact absurd h h1
  · exfalso
    rw [Bool.eq_false_iff] at h
    apply h
    rw [List.all_eq_true]
    intro p hp
    simp only [Bool.or_eq_true, Bool.not_eq_true', decide_eq_false_iff_not, beq_iff_eq]
    by_cases hip : i < p
    · exact .inr (h2 p (by simpa using hp) hip)
    · exact .inl hip
  · exact h
theorem sets_last : ∀ n, n < 6 → ∀ k, k < 6 → ∀ j, j < (setsF k n 0).length → (∀ p, p < k → ((setsF k n 0).getD j []).getD p 0 = n - k + p) → j + 1 = (setsF k n 0).length := by decide +kernel
theorem visit_len (R : List (List Int)) (F : List Flow) (s : List Nat) : F.length ≤ (visitR R F s).length ∧ (visitR R F s).length ≤ F.length + 1 := by
  unfold visitR
  split
  · omega
  · split
    · omega
    · split
      · omega
      · simp
theorem visit_sup {R : List (List Int)} {F : List Flow} {s : List Nat} (hs : ∀ c ∈ s, c < 16) (hF : ∀ f ∈ F, f.1 < 65536) : ∀ f ∈ visitR R F s, f.1 < 65536 := by
  unfold visitR
  split
  · exact hF
  · split
    · exact hF
    · split
      · exact hF
      · intro f hf
        rcases List.mem_append.1 hf with h | h
        · exact hF f h
        · simp only [List.mem_singleton] at h
          subst h; exact supOf_lt hs
def foldV (R : List (List Int)) (F : List Flow) (S : List (List Nat)) : List Flow := S.foldl (visitR R) F
theorem foldV_len (R : List (List Int)) : ∀ (S : List (List Nat)) (F : List Flow), F.length ≤ (foldV R F S).length ∧ (foldV R F S).length ≤ F.length + S.length
  | [], F => by simp [foldV]
  | s :: S, F => by
    have h1 := visit_len R F s
    have h2 := foldV_len R S (visitR R F s)
    simp only [foldV, List.foldl_cons, List.length_cons] at h2 ⊢
    omega
theorem foldV_sup {R : List (List Int)} : ∀ (S : List (List Nat)) (F : List Flow), (∀ s ∈ S, ∀ c ∈ s, c < 16) → (∀ f ∈ F, f.1 < 65536) → ∀ f ∈ foldV R F S, f.1 < 65536
  | [], F, _, hF => hF
  | s :: S, F, hS, hF => foldV_sup S _ (fun t ht => hS t (by simp [ht])) (visit_sup (hS s (by simp)) hF)
theorem foldV_take (R : List (List Int)) (F : List Flow) (S : List (List Nat)) {j : Nat} {s : List Nat} (h : S[j]? = some s) : foldV R F (S.take (j + 1)) = visitR R (foldV R F (S.take j)) s := by
  unfold foldV
  rw [List.take_add_one, List.foldl_append, h]; rfl
def vC (K : Nat) (R : List (List Int)) (F : List Flow) (g : Nat) (cs : List AV) : HL :=
  [(20, .cells 0 [.sl 23 g 0 F.length 11]), (21, .cells 0 [.map 22 0]), (22, .map 0 (keyM .u16 (.bool true) (F.map (·.1)))), (23, .cells g (flowC F)), (24, .cells 0 [.int .i64 K, .fsl (R.flatMap pad) R.length 10]), (150, .cells 0 cs)]
def vJ (K : Nat) (R : List (List Int)) (F : List Flow) (g : Nat) (S : List (List Nat)) (j : Nat) : HL :=
  vC K R (foldV R F (S.take j)) (g + ((foldV R F (S.take j)).length - F.length)) (ints (colI (S.getD j [])))
theorem ints_rowF {s : List Nat} : ints (colI s) = rowF s.length (fun p => (s.getD p 0 : Nat)) := by
  unfold rowF colI
  congr 1
  refine List.ext_getElem? fun p => ?_
  by_cases hp : p < s.length
  · simp [List.getElem?_range hp, List.getElem?_eq_getElem hp, List.getD_eq_getElem?_getD]
  · simp [List.getElem?_eq_none (show s.length ≤ p by omega), List.getElem?_eq_none (show (List.range s.length).length ≤ p by simp; omega)]
set_option maxHeartbeats 8000000 in
theorem choose (K : Nat) (R : List (List Int)) (F : List Flow) (g k : Nat) (hK : K ≤ 5) (hR : R.length ≤ 100) (hRk : ∀ r ∈ R, r.length = K) (hRb : ∀ r ∈ R, ∀ x ∈ r, -8 ≤ x ∧ x ≤ 8) (hk0 : 0 < k) (hkK : k ≤ K)
    (hF : F.length ≤ 900) (hFs : ∀ f ∈ F, f.1 < 65536) :
    HSpec Try.prog 59 [.int .i64 K, .int .i64 k, .fn 60 [] [.ptr 21 0 0, .ptr 24 0 0, .ptr 20 0 0]] (hp (vH K R F g)) (.tup [])
      (hp (vH K R (foldV R F (setsF k K 0)) (g + ((foldV R F (setsF k K 0)).length - F.length)))) := by
  refine HSpec.of_rec (m := 100) 300 SM.ok59 rfl rfl rfl ?_
  generalize hL : vH K R (foldV R F (setsF k K 0)) (g + ((foldV R F (setsF k K 0)).length - F.length)) = L1
  have hp1 := sets_props K (by omega) k (by omega)
  have hp2 := sets_first K (by omega) k (by omega) hkK
  have hp3 := sets_small K (by omega) k (by omega)
  have hp4 := sets_next K (by omega) k (by omega)
  have hp5 := sets_last K (by omega) k (by omega)
  generalize setsF k K 0 = S at *
  have hk8 : (8 : Int) * (k : Int) ≤ 1099511627776 := by omega
  have hk1 : (k : Int) ≤ 1099511627776 := by omega
  have hkK' : (k : Int) ≤ K := by omega
  simp (config := { maxSteps := 1000000 }) (disch := first | omega | (simp only [List.length_map, List.length_append, List.length_cons, List.length_nil, ints_len] <;> omega)) only [SM.s59, vH, hk8, hk1, rowF_zero, wordsN, Int.reduceGT, wordsR, ne_eq, words, Nat.reduceAdd, Nat.reduceEqDiff, Nat.reduceBEq, ↓reduceIte, reduceCtorEq, SX.exit.injEq, if_true, if_false, Int.reduceAdd, Int.reduceSub, Int.reduceMul, Int.reduceLT, Int.reduceLE, Int.reduceEq, Int.reduceNe, Int.reduceNeg, Int.reduceToNat, Nat.reduceMul, Nat.reduceLT, Nat.reduceSub, Nat.reduceLeDiff]
  refine wS_loopX 400 (fun i : Nat => [(0, .int .i64 K), (1, .int .i64 k), (2, .fn 60 [] [.ptr 21 0 0, .ptr 24 0 0, .ptr 20 0 0]), (6, .sl 150 0 0 k 1), (13, .int .i64 k), (14, .int .i64 i)])
    (fun i => vC K R F g (rowF k fun p => if p < i then p else 0)) (fun i => i ≤ k) (fun i => k - i) 0 0 500
    (fun _ : Unit => [(0, .int .i64 K), (1, .int .i64 k), (2, .fn 60 [] [.ptr 21 0 0, .ptr 24 0 0, .ptr 20 0 0]), (6, .sl 150 0 0 k 1)]) (fun _ => vC K R F g (ints (colI (List.range k)))) (fun _ => True) ?_ (Nat.zero_le _) ?_ ?_
  · refine ⟨[(20, .blk 20 0), (21, .blk 21 0), (22, .blk 22 0), (23, .blk 23 0), (24, .blk 24 0), (150, .blk 301 0)], rfl, (by repeat (first | exact RO.zero | exact RO.e | refine RO.set rfl ?_)), ?_, (by repeat (first | exact RT.nil | (refine RT.cons ?_ ?_; · (first | exact Rn.any | exact Rn.sl (Nat.le_of_ble_eq_true rfl) rfl | exact Rn.ptr (Nat.le_of_ble_eq_true rfl) rfl | exact Rn.map (Nat.le_of_ble_eq_true rfl) rfl | exact Rn.slnil (Nat.le_of_ble_eq_true rfl) rfl | exact Rn.slB (Nat.le_of_ble_eq_true rfl) | exact Rn.ptrB (Nat.le_of_ble_eq_true rfl) | exact Rn.mapB (Nat.le_of_ble_eq_true rfl) | (refine Rn.slot ?_ ?_; (first | rfl | (rw [Int.natCast_add]; rfl)); (first | rfl | (simp only [noRef, noRefs, noRefs_append, Bool.and_self, Bool.and_true, Bool.true_and, noRefs_flat10, noRefs_ints, noRefs_lsts, noRefs_pad, noRefs_tnC, noRefs_arcC, noRefs_rowF, noRefs_flowC]; done))) | (refine Rn.fn ?_ ?_ <;> (repeat' (first | exact RnL.nil | refine RnL.cons ?_ ?_ | exact Rn.same rfl | exact Rn.ptrB (Nat.le_of_ble_eq_true rfl) | exact Rn.ptr (Nat.le_of_ble_eq_true rfl) rfl | exact Rn.slB (Nat.le_of_ble_eq_true rfl) | exact Rn.sl (Nat.le_of_ble_eq_true rfl) rfl)))))))⟩
    refine RB.cellsB rfl rfl ?_ (RB.cellsB rfl rfl ?_ (RB.mapB rfl rfl ?_ (RB.cellsB rfl rfl ?_ (RB.cellsB rfl rfl ?_ (RB.cells rfl rfl rfl (RnL.eq (rowF_congr fun p _ => ?_) (noRefs_rowF _ _)) RB.nil)))))
    all_goals first | (simp only [Nat.not_lt_zero, if_false]; done) | repeat' (first | exact RB.nil | (refine RnL.same ?_; first | rfl | (simp only [noRef, noRefs, noRefs_append, Bool.and_self, Bool.and_true, Bool.true_and, noRefs_flat10, noRefs_ints, noRefs_lsts, noRefs_pad, noRefs_tnC, noRefs_arcC, noRefs_rowF, noRefs_flowC]; done)) | exact RnM.keyM rfl | exact RnL.nil | refine RnL.cons ?_ ?_ | (refine Rn.same ?_; first | rfl | (simp only [noRef, noRefs, noRefs_append, Bool.and_self, Bool.and_true, Bool.true_and, noRefs_flat10, noRefs_ints, noRefs_lsts, noRefs_pad, noRefs_tnC, noRefs_arcC, noRefs_rowF, noRefs_flowC]; done)) | exact Rn.sl (Nat.le_of_ble_eq_true rfl) rfl | exact Rn.ptr (Nat.le_of_ble_eq_true rfl) rfl | exact Rn.map (Nat.le_of_ble_eq_true rfl) rfl | exact Rn.slnil (Nat.le_of_ble_eq_true rfl) rfl | exact Rn.slB (Nat.le_of_ble_eq_true rfl) | exact Rn.ptrB (Nat.le_of_ble_eq_true rfl) | exact Rn.mapB (Nat.le_of_ble_eq_true rfl) | refine RB.newnil rfl rfl ?_ | refine RB.cells rfl rfl rfl ?_ ?_ | refine RB.map rfl rfl rfl ?_ ?_ | refine RB.cellsB rfl rfl ?_ ?_ | refine RB.mapB rfl rfl ?_ ?_)
  · intro i hi
    by_cases hlt : i < k
    · have hset : ∀ v, (rowF k fun p => if p < i then (p : Int) else 0).set i (.int .i64 v) = rowF k (fun p => if p = i then v else if p < i then (p : Int) else 0) := fun v => rowF_set _ v
      have hle : i + 1 ≤ k := by omega
      simp (config := { maxSteps := 1000000 }) (disch := first | omega | (simp only [List.length_map, List.length_append, List.length_cons, List.length_nil, ints_len] <;> omega)) only [hlt, vC, hset, rowF_len, hle, wordsN, Int.reduceGT, wordsR, ne_eq, words, Nat.reduceAdd, Nat.reduceEqDiff, Nat.reduceBEq, ↓reduceIte, reduceCtorEq, SX.exit.injEq, if_true, if_false, Int.reduceAdd, Int.reduceSub, Int.reduceMul, Int.reduceLT, Int.reduceLE, Int.reduceEq, Int.reduceNe, Int.reduceNeg, Int.reduceToNat, Nat.reduceMul, Nat.reduceLT, Nat.reduceSub, Nat.reduceLeDiff]
      refine ⟨i + 1, by omega, by omega, ?_⟩
      have hf : (fun p => if p = i then (i : Int) else if p < i then (p : Int) else 0) = fun p : Nat => if p < i + 1 then (p : Int) else 0 := by
        funext p
        by_cases e : p = i
        · subst e; simp
        · have : (p < i + 1) ↔ (p < i) := by omega
          simp only [e, if_false, this]
      rw [hf]
      exact ⟨[(20, .blk 20 0), (21, .blk 21 0), (22, .blk 22 0), (23, .blk 23 0), (24, .blk 24 0), (150, .blk 150 0)], rfl, (by repeat (first | exact RO.zero | exact RO.e | refine RO.set rfl ?_)), (by repeat' (first | exact RB.nil | (refine RnL.same ?_; first | rfl | (simp only [noRef, noRefs, noRefs_append, Bool.and_self, Bool.and_true, Bool.true_and, noRefs_flat10, noRefs_ints, noRefs_lsts, noRefs_pad, noRefs_tnC, noRefs_arcC, noRefs_rowF, noRefs_flowC]; done)) | exact RnM.keyM rfl | exact RnL.nil | refine RnL.cons ?_ ?_ | (refine Rn.same ?_; first | rfl | (simp only [noRef, noRefs, noRefs_append, Bool.and_self, Bool.and_true, Bool.true_and, noRefs_flat10, noRefs_ints, noRefs_lsts, noRefs_pad, noRefs_tnC, noRefs_arcC, noRefs_rowF, noRefs_flowC]; done)) | exact Rn.sl (Nat.le_of_ble_eq_true rfl) rfl | exact Rn.ptr (Nat.le_of_ble_eq_true rfl) rfl | exact Rn.map (Nat.le_of_ble_eq_true rfl) rfl | exact Rn.slnil (Nat.le_of_ble_eq_true rfl) rfl | exact Rn.slB (Nat.le_of_ble_eq_true rfl) | exact Rn.ptrB (Nat.le_of_ble_eq_true rfl) | exact Rn.mapB (Nat.le_of_ble_eq_true rfl) | refine RB.newnil rfl rfl ?_ | refine RB.cells rfl rfl rfl ?_ ?_ | refine RB.map rfl rfl rfl ?_ ?_ | refine RB.cellsB rfl rfl ?_ ?_ | refine RB.mapB rfl rfl ?_ ?_)), (by repeat (first | exact RT.nil | (refine RT.cons ?_ ?_; · (first | exact Rn.any | exact Rn.sl (Nat.le_of_ble_eq_true rfl) rfl | exact Rn.ptr (Nat.le_of_ble_eq_true rfl) rfl | exact Rn.map (Nat.le_of_ble_eq_true rfl) rfl | exact Rn.slnil (Nat.le_of_ble_eq_true rfl) rfl | exact Rn.slB (Nat.le_of_ble_eq_true rfl) | exact Rn.ptrB (Nat.le_of_ble_eq_true rfl) | exact Rn.mapB (Nat.le_of_ble_eq_true rfl) | (refine Rn.slot ?_ ?_; (first | rfl | (rw [Int.natCast_add]; rfl)); (first | rfl | (simp only [noRef, noRefs, noRefs_append, Bool.and_self, Bool.and_true, Bool.true_and, noRefs_flat10, noRefs_ints, noRefs_lsts, noRefs_pad, noRefs_tnC, noRefs_arcC, noRefs_rowF, noRefs_flowC]; done))) | (refine Rn.fn ?_ ?_ <;> (repeat' (first | exact RnL.nil | refine RnL.cons ?_ ?_ | exact Rn.same rfl | exact Rn.ptrB (Nat.le_of_ble_eq_true rfl) | exact Rn.ptr (Nat.le_of_ble_eq_true rfl) rfl | exact Rn.slB (Nat.le_of_ble_eq_true rfl) | exact Rn.sl (Nat.le_of_ble_eq_true rfl) rfl)))))))⟩
    · have e : i = k := by omega
      subst e
      simp (config := { maxSteps := 1000000 }) (disch := first | omega | (simp only [List.length_map, List.length_append, List.length_cons, List.length_nil, ints_len] <;> omega)) only [hlt, vC, wordsN, Int.reduceGT, wordsR, ne_eq, words, Nat.reduceAdd, Nat.reduceEqDiff, Nat.reduceBEq, ↓reduceIte, reduceCtorEq, SX.exit.injEq, if_true, if_false, Int.reduceAdd, Int.reduceSub, Int.reduceMul, Int.reduceLT, Int.reduceLE, Int.reduceEq, Int.reduceNe, Int.reduceNeg, Int.reduceToNat, Nat.reduceMul, Nat.reduceLT, Nat.reduceSub, Nat.reduceLeDiff]
      refine ⟨(), ?_⟩
      rw [ints_rowF, List.length_range, rowF_congr (g := fun p => if p < i then (p : Int) else 0) fun p hp => by simp [hp, List.getD_eq_getElem?_getD, List.getElem?_range hp]]
      exact ⟨[(20, .blk 20 0), (21, .blk 21 0), (22, .blk 22 0), (23, .blk 23 0), (24, .blk 24 0), (150, .blk 150 0)], rfl, (by repeat (first | exact RO.zero | exact RO.e | refine RO.set rfl ?_)), (by repeat' (first | exact RB.nil | (refine RnL.same ?_; first | rfl | (simp only [noRef, noRefs, noRefs_append, Bool.and_self, Bool.and_true, Bool.true_and, noRefs_flat10, noRefs_ints, noRefs_lsts, noRefs_pad, noRefs_tnC, noRefs_arcC, noRefs_rowF, noRefs_flowC]; done)) | exact RnM.keyM rfl | exact RnL.nil | refine RnL.cons ?_ ?_ | (refine Rn.same ?_; first | rfl | (simp only [noRef, noRefs, noRefs_append, Bool.and_self, Bool.and_true, Bool.true_and, noRefs_flat10, noRefs_ints, noRefs_lsts, noRefs_pad, noRefs_tnC, noRefs_arcC, noRefs_rowF, noRefs_flowC]; done)) | exact Rn.sl (Nat.le_of_ble_eq_true rfl) rfl | exact Rn.ptr (Nat.le_of_ble_eq_true rfl) rfl | exact Rn.map (Nat.le_of_ble_eq_true rfl) rfl | exact Rn.slnil (Nat.le_of_ble_eq_true rfl) rfl | exact Rn.slB (Nat.le_of_ble_eq_true rfl) | exact Rn.ptrB (Nat.le_of_ble_eq_true rfl) | exact Rn.mapB (Nat.le_of_ble_eq_true rfl) | refine RB.newnil rfl rfl ?_ | refine RB.cells rfl rfl rfl ?_ ?_ | refine RB.map rfl rfl rfl ?_ ?_ | refine RB.cellsB rfl rfl ?_ ?_ | refine RB.mapB rfl rfl ?_ ?_)), (by repeat (first | exact RT.nil | (refine RT.cons ?_ ?_; · (first | exact Rn.any | exact Rn.sl (Nat.le_of_ble_eq_true rfl) rfl | exact Rn.ptr (Nat.le_of_ble_eq_true rfl) rfl | exact Rn.map (Nat.le_of_ble_eq_true rfl) rfl | exact Rn.slnil (Nat.le_of_ble_eq_true rfl) rfl | exact Rn.slB (Nat.le_of_ble_eq_true rfl) | exact Rn.ptrB (Nat.le_of_ble_eq_true rfl) | exact Rn.mapB (Nat.le_of_ble_eq_true rfl) | (refine Rn.slot ?_ ?_; (first | rfl | (rw [Int.natCast_add]; rfl)); (first | rfl | (simp only [noRef, noRefs, noRefs_append, Bool.and_self, Bool.and_true, Bool.true_and, noRefs_flat10, noRefs_ints, noRefs_lsts, noRefs_pad, noRefs_tnC, noRefs_arcC, noRefs_rowF, noRefs_flowC]; done))) | (refine Rn.fn ?_ ?_ <;> (repeat' (first | exact RnL.nil | refine RnL.cons ?_ ?_ | exact Rn.same rfl | exact Rn.ptrB (Nat.le_of_ble_eq_true rfl) | exact Rn.ptr (Nat.le_of_ble_eq_true rfl) rfl | exact Rn.slB (Nat.le_of_ble_eq_true rfl) | exact Rn.sl (Nat.le_of_ble_eq_true rfl) rfl)))))))⟩
  rintro _ -
  have hKB : ∀ s : List Nat, s.length = k → KBd R s := fun s hs => KBd_of R s (by omega) fun r hr x hx => by have := hRb r hr x hx; omega
  have hS0 : 0 < S.length := (List.getElem?_eq_some_iff.1 hp2).1
  have hg0 : S.getD 0 [] = List.range k := by rw [List.getD_eq_getElem?_getD, hp2]; rfl
  simp (config := { maxSteps := 1000000 }) (disch := first | omega | (simp only [List.length_map, List.length_append, List.length_cons, List.length_nil, ints_len] <;> omega)) only [vC, wordsN, Int.reduceGT, wordsR, ne_eq, words, Nat.reduceAdd, Nat.reduceEqDiff, Nat.reduceBEq, ↓reduceIte, reduceCtorEq, SX.exit.injEq, if_true, if_false, Int.reduceAdd, Int.reduceSub, Int.reduceMul, Int.reduceLT, Int.reduceLE, Int.reduceEq, Int.reduceNe, Int.reduceNeg, Int.reduceToNat, Nat.reduceMul, Nat.reduceLT, Nat.reduceSub, Nat.reduceLeDiff]
  refine wS_loopR 600 (fun j : Nat => [(0, .int .i64 K), (1, .int .i64 k), (2, .fn 60 [] [.ptr 21 0 0, .ptr 24 0 0, .ptr 20 0 0]), (6, .sl 150 0 0 k 1)])
    (fun j => vJ K R F g S j) (fun j => j < S.length) (fun j => S.length - j) 0 ?_ hS0 ?_
  · unfold vJ
    rw [hg0, List.take_zero, show foldV R F [] = F from rfl, Nat.sub_self, Nat.add_zero]
    exact ⟨[(20, .blk 20 0), (21, .blk 21 0), (22, .blk 22 0), (23, .blk 23 0), (24, .blk 24 0), (150, .blk 150 0)], rfl, (by repeat (first | exact RO.zero | exact RO.e | refine RO.set rfl ?_)), (by repeat' (first | exact RB.nil | (refine RnL.same ?_; first | rfl | (simp only [noRef, noRefs, noRefs_append, Bool.and_self, Bool.and_true, Bool.true_and, noRefs_flat10, noRefs_ints, noRefs_lsts, noRefs_pad, noRefs_tnC, noRefs_arcC, noRefs_rowF, noRefs_flowC]; done)) | exact RnM.keyM rfl | exact RnL.nil | refine RnL.cons ?_ ?_ | (refine Rn.same ?_; first | rfl | (simp only [noRef, noRefs, noRefs_append, Bool.and_self, Bool.and_true, Bool.true_and, noRefs_flat10, noRefs_ints, noRefs_lsts, noRefs_pad, noRefs_tnC, noRefs_arcC, noRefs_rowF, noRefs_flowC]; done)) | exact Rn.sl (Nat.le_of_ble_eq_true rfl) rfl | exact Rn.ptr (Nat.le_of_ble_eq_true rfl) rfl | exact Rn.map (Nat.le_of_ble_eq_true rfl) rfl | exact Rn.slnil (Nat.le_of_ble_eq_true rfl) rfl | exact Rn.slB (Nat.le_of_ble_eq_true rfl) | exact Rn.ptrB (Nat.le_of_ble_eq_true rfl) | exact Rn.mapB (Nat.le_of_ble_eq_true rfl) | refine RB.newnil rfl rfl ?_ | refine RB.cells rfl rfl rfl ?_ ?_ | refine RB.map rfl rfl rfl ?_ ?_ | refine RB.cellsB rfl rfl ?_ ?_ | refine RB.mapB rfl rfl ?_ ?_)), (by repeat (first | exact RT.nil | (refine RT.cons ?_ ?_; · (first | exact Rn.any | exact Rn.sl (Nat.le_of_ble_eq_true rfl) rfl | exact Rn.ptr (Nat.le_of_ble_eq_true rfl) rfl | exact Rn.map (Nat.le_of_ble_eq_true rfl) rfl | exact Rn.slnil (Nat.le_of_ble_eq_true rfl) rfl | exact Rn.slB (Nat.le_of_ble_eq_true rfl) | exact Rn.ptrB (Nat.le_of_ble_eq_true rfl) | exact Rn.mapB (Nat.le_of_ble_eq_true rfl) | (refine Rn.slot ?_ ?_; (first | rfl | (rw [Int.natCast_add]; rfl)); (first | rfl | (simp only [noRef, noRefs, noRefs_append, Bool.and_self, Bool.and_true, Bool.true_and, noRefs_flat10, noRefs_ints, noRefs_lsts, noRefs_pad, noRefs_tnC, noRefs_arcC, noRefs_rowF, noRefs_flowC]; done))) | (refine Rn.fn ?_ ?_ <;> (repeat' (first | exact RnL.nil | refine RnL.cons ?_ ?_ | exact Rn.same rfl | exact Rn.ptrB (Nat.le_of_ble_eq_true rfl) | exact Rn.ptr (Nat.le_of_ble_eq_true rfl) rfl | exact Rn.slB (Nat.le_of_ble_eq_true rfl) | exact Rn.sl (Nat.le_of_ble_eq_true rfl) rfl)))))))⟩
  intro j hj
  have hJ : vJ K R F g S (j + 1) = vC K R (foldV R F (S.take (j + 1))) (g + ((foldV R F (S.take (j + 1))).length - F.length)) (ints (colI (S.getD (j + 1) []))) := rfl
  rw [show vJ K R F g S j = vC K R (foldV R F (S.take j)) (g + ((foldV R F (S.take j)).length - F.length)) (ints (colI (S.getD j []))) from rfl]
  have hsj : S[j]? = some (S.getD j []) := by rw [List.getD_eq_getElem?_getD, List.getElem?_eq_getElem hj]; rfl
  have hnx := hp4 j hj
  have hls := hp5 j hj
  obtain ⟨hl1, hl2⟩ := foldV_len R (S.take j) F
  have hft := foldV_take R F S hsj
  generalize S.getD j [] = s at *
  obtain ⟨hsl, hsc, hsp⟩ := hp1 s (List.mem_of_getElem? hsj)
  have hS16 : ∀ s ∈ S.take j, ∀ c ∈ s, c < 16 := fun t ht c hc => by have := (hp1 t (List.mem_of_mem_take ht)).2.1 c hc; omega
  have hsup := foldV_sup (R := R) (S.take j) F hS16 hFs
  have hlj : (S.take j).length ≤ 10 := by rw [List.length_take]; omega
  obtain ⟨v1, v2⟩ := visit_len R (foldV R F (S.take j)) s
  rw [← hft] at v1 v2
  generalize hFj : foldV R F (S.take j) = Fj at *
  have hvis := visit K R Fj (g + (Fj.length - F.length)) s (by omega) hR hRk hsc (by omega) (hKB s hsl) (by omega) hsup
  rw [hsl, ← hft] at hvis
  rw [show g + (Fj.length - F.length) + ((foldV R F (S.take (j + 1))).length - Fj.length) = g + ((foldV R F (S.take (j + 1))).length - F.length) by omega] at hvis
  simp (config := { maxSteps := 1000000 }) (disch := first | omega | (simp only [List.length_map, List.length_append, List.length_cons, List.length_nil, ints_len] <;> omega)) only [vC, hkK', wordsN, Int.reduceGT, wordsR, ne_eq, words, Nat.reduceAdd, Nat.reduceEqDiff, Nat.reduceBEq, ↓reduceIte, reduceCtorEq, SX.exit.injEq, if_true, if_false, Int.reduceAdd, Int.reduceSub, Int.reduceMul, Int.reduceLT, Int.reduceLE, Int.reduceEq, Int.reduceNe, Int.reduceNeg, Int.reduceToNat, Nat.reduceMul, Nat.reduceLT, Nat.reduceSub, Nat.reduceLeDiff]
  refine call_heap hvis ?_
  generalize hgG : g + ((foldV R F (S.take (j + 1))).length - F.length) = g' at *
  generalize hFG : foldV R F (S.take (j + 1)) = F' at *
  have hci : ints (colI s) = rowF k (fun p => (s.getD p 0 : Nat)) := by rw [ints_rowF, hsl]
  simp (config := { maxSteps := 1000000 }) (disch := first | omega | (simp only [List.length_map, List.length_append, List.length_cons, List.length_nil, ints_len] <;> omega)) only [vS, hci, wordsN, Int.reduceGT, wordsR, ne_eq, words, Nat.reduceAdd, Nat.reduceEqDiff, Nat.reduceBEq, ↓reduceIte, reduceCtorEq, SX.exit.injEq, if_true, if_false, Int.reduceAdd, Int.reduceSub, Int.reduceMul, Int.reduceLT, Int.reduceLE, Int.reduceEq, Int.reduceNe, Int.reduceNeg, Int.reduceToNat, Nat.reduceMul, Nat.reduceLT, Nat.reduceSub, Nat.reduceLeDiff]
  refine wS_loopX 700 (fun a : Nat => [(0, .int .i64 K), (1, .int .i64 k), (2, .fn 60 [] [.ptr 21 0 0, .ptr 24 0 0, .ptr 20 0 0]), (6, .sl 150 0 0 k 1), (8, .int .i64 ((a : Int) - 1))])
    (fun _ => vC K R F' g' (rowF k fun p => (s.getD p 0 : Nat))) (fun a => a ≤ k ∧ ∀ p, p < k → a ≤ p → s.getD p 0 = K - k + p) (fun a => a) k 4 800
    (fun i : Int => [(0, .int .i64 K), (1, .int .i64 k), (2, .fn 60 [] [.ptr 21 0 0, .ptr 24 0 0, .ptr 20 0 0]), (6, .sl 150 0 0 k 1), (8, .int .i64 i)])
    (fun _ => vC K R F' g' (rowF k fun p => (s.getD p 0 : Nat))) (fun i => (i = -1 ∧ ∀ p, p < k → s.getD p 0 = K - k + p) ∨ ∃ b : Nat, i = b ∧ b < k ∧ s.getD b 0 ≠ K - k + b ∧ ∀ p, p < k → b < p → s.getD p 0 = K - k + p)
    ⟨[(20, .blk 20 0), (21, .blk 21 0), (22, .blk 22 0), (23, .blk 23 0), (24, .blk 24 0), (150, .blk 150 0)], rfl, (by repeat (first | exact RO.zero | exact RO.e | refine RO.set rfl ?_)), (by repeat' (first | exact RB.nil | (refine RnL.same ?_; first | rfl | (simp only [noRef, noRefs, noRefs_append, Bool.and_self, Bool.and_true, Bool.true_and, noRefs_flat10, noRefs_ints, noRefs_lsts, noRefs_pad, noRefs_tnC, noRefs_arcC, noRefs_rowF, noRefs_flowC]; done)) | exact RnM.keyM rfl | exact RnL.nil | refine RnL.cons ?_ ?_ | (refine Rn.same ?_; first | rfl | (simp only [noRef, noRefs, noRefs_append, Bool.and_self, Bool.and_true, Bool.true_and, noRefs_flat10, noRefs_ints, noRefs_lsts, noRefs_pad, noRefs_tnC, noRefs_arcC, noRefs_rowF, noRefs_flowC]; done)) | exact Rn.sl (Nat.le_of_ble_eq_true rfl) rfl | exact Rn.ptr (Nat.le_of_ble_eq_true rfl) rfl | exact Rn.map (Nat.le_of_ble_eq_true rfl) rfl | exact Rn.slnil (Nat.le_of_ble_eq_true rfl) rfl | exact Rn.slB (Nat.le_of_ble_eq_true rfl) | exact Rn.ptrB (Nat.le_of_ble_eq_true rfl) | exact Rn.mapB (Nat.le_of_ble_eq_true rfl) | refine RB.newnil rfl rfl ?_ | refine RB.cells rfl rfl rfl ?_ ?_ | refine RB.map rfl rfl rfl ?_ ?_ | refine RB.cellsB rfl rfl ?_ ?_ | refine RB.mapB rfl rfl ?_ ?_)), (by repeat (first | exact RT.nil | (refine RT.cons ?_ ?_; · (first | exact Rn.any | exact Rn.sl (Nat.le_of_ble_eq_true rfl) rfl | exact Rn.ptr (Nat.le_of_ble_eq_true rfl) rfl | exact Rn.map (Nat.le_of_ble_eq_true rfl) rfl | exact Rn.slnil (Nat.le_of_ble_eq_true rfl) rfl | exact Rn.slB (Nat.le_of_ble_eq_true rfl) | exact Rn.ptrB (Nat.le_of_ble_eq_true rfl) | exact Rn.mapB (Nat.le_of_ble_eq_true rfl) | (refine Rn.slot ?_ ?_; (first | rfl | (rw [Int.natCast_add]; rfl)); (first | rfl | (simp only [noRef, noRefs, noRefs_append, Bool.and_self, Bool.and_true, Bool.true_and, noRefs_flat10, noRefs_ints, noRefs_lsts, noRefs_pad, noRefs_tnC, noRefs_arcC, noRefs_rowF, noRefs_flowC]; done))) | (refine Rn.fn ?_ ?_ <;> (repeat' (first | exact RnL.nil | refine RnL.cons ?_ ?_ | exact Rn.same rfl | exact Rn.ptrB (Nat.le_of_ble_eq_true rfl) | exact Rn.ptr (Nat.le_of_ble_eq_true rfl) rfl | exact Rn.slB (Nat.le_of_ble_eq_true rfl) | exact Rn.sl (Nat.le_of_ble_eq_true rfl) rfl)))))))⟩ ⟨Nat.le_refl _, fun p h1 h2 => absurd h1 (by omega)⟩ ?_ ?_
  · rintro a ⟨ha, hall⟩
    cases a with
    | zero =>
      simp (config := { maxSteps := 1000000 }) (disch := first | omega | (simp only [List.length_map, List.length_append, List.length_cons, List.length_nil, ints_len] <;> omega)) only [vC, wordsN, Int.reduceGT, wordsR, ne_eq, words, Nat.reduceAdd, Nat.reduceEqDiff, Nat.reduceBEq, ↓reduceIte, reduceCtorEq, SX.exit.injEq, if_true, if_false, Int.reduceAdd, Int.reduceSub, Int.reduceMul, Int.reduceLT, Int.reduceLE, Int.reduceEq, Int.reduceNe, Int.reduceNeg, Int.reduceToNat, Nat.reduceMul, Nat.reduceLT, Nat.reduceSub, Nat.reduceLeDiff]
      refine ⟨-1, .inl ⟨rfl, fun p hp => hall p hp (Nat.zero_le _)⟩, ?_⟩
      exact ⟨[(20, .blk 20 0), (21, .blk 21 0), (22, .blk 22 0), (23, .blk 23 0), (24, .blk 24 0), (150, .blk 150 0)], rfl, (by repeat (first | exact RO.zero | exact RO.e | refine RO.set rfl ?_)), (by repeat' (first | exact RB.nil | (refine RnL.same ?_; first | rfl | (simp only [noRef, noRefs, noRefs_append, Bool.and_self, Bool.and_true, Bool.true_and, noRefs_flat10, noRefs_ints, noRefs_lsts, noRefs_pad, noRefs_tnC, noRefs_arcC, noRefs_rowF, noRefs_flowC]; done)) | exact RnM.keyM rfl | exact RnL.nil | refine RnL.cons ?_ ?_ | (refine Rn.same ?_; first | rfl | (simp only [noRef, noRefs, noRefs_append, Bool.and_self, Bool.and_true, Bool.true_and, noRefs_flat10, noRefs_ints, noRefs_lsts, noRefs_pad, noRefs_tnC, noRefs_arcC, noRefs_rowF, noRefs_flowC]; done)) | exact Rn.sl (Nat.le_of_ble_eq_true rfl) rfl | exact Rn.ptr (Nat.le_of_ble_eq_true rfl) rfl | exact Rn.map (Nat.le_of_ble_eq_true rfl) rfl | exact Rn.slnil (Nat.le_of_ble_eq_true rfl) rfl | exact Rn.slB (Nat.le_of_ble_eq_true rfl) | exact Rn.ptrB (Nat.le_of_ble_eq_true rfl) | exact Rn.mapB (Nat.le_of_ble_eq_true rfl) | refine RB.newnil rfl rfl ?_ | refine RB.cells rfl rfl rfl ?_ ?_ | refine RB.map rfl rfl rfl ?_ ?_ | refine RB.cellsB rfl rfl ?_ ?_ | refine RB.mapB rfl rfl ?_ ?_)), (by repeat (first | exact RT.nil | (refine RT.cons ?_ ?_; · (first | exact Rn.any | exact Rn.sl (Nat.le_of_ble_eq_true rfl) rfl | exact Rn.ptr (Nat.le_of_ble_eq_true rfl) rfl | exact Rn.map (Nat.le_of_ble_eq_true rfl) rfl | exact Rn.slnil (Nat.le_of_ble_eq_true rfl) rfl | exact Rn.slB (Nat.le_of_ble_eq_true rfl) | exact Rn.ptrB (Nat.le_of_ble_eq_true rfl) | exact Rn.mapB (Nat.le_of_ble_eq_true rfl) | (refine Rn.slot ?_ ?_; (first | rfl | (rw [Int.natCast_add]; rfl)); (first | rfl | (simp only [noRef, noRefs, noRefs_append, Bool.and_self, Bool.and_true, Bool.true_and, noRefs_flat10, noRefs_ints, noRefs_lsts, noRefs_pad, noRefs_tnC, noRefs_arcC, noRefs_rowF, noRefs_flowC]; done))) | (refine Rn.fn ?_ ?_ <;> (repeat' (first | exact RnL.nil | refine RnL.cons ?_ ?_ | exact Rn.same rfl | exact Rn.ptrB (Nat.le_of_ble_eq_true rfl) | exact Rn.ptr (Nat.le_of_ble_eq_true rfl) rfl | exact Rn.slB (Nat.le_of_ble_eq_true rfl) | exact Rn.sl (Nat.le_of_ble_eq_true rfl) rfl)))))))⟩
    | succ b =>
      have hbk : b < k := by omega
      have hgb := rowF_get (n := k) (fun p => ((s.getD p 0 : Nat) : Int)) hbk
      by_cases hq : s.getD b 0 = K - k + b
      · have hq' : (((s.getD b 0 : Nat) : Int) = (K : Int) - k + b) = True := eq_true (by omega)
        simp (config := { maxSteps := 1000000 }) (disch := first | omega | (simp only [List.length_map, List.length_append, List.length_cons, List.length_nil, ints_len] <;> omega)) only [vC, Int.add_sub_cancel, hbk, hgb, hq', wordsN, Int.reduceGT, wordsR, ne_eq, words, Nat.reduceAdd, Nat.reduceEqDiff, Nat.reduceBEq, ↓reduceIte, reduceCtorEq, SX.exit.injEq, if_true, if_false, Int.reduceAdd, Int.reduceSub, Int.reduceMul, Int.reduceLT, Int.reduceLE, Int.reduceEq, Int.reduceNe, Int.reduceNeg, Int.reduceToNat, Nat.reduceMul, Nat.reduceLT, Nat.reduceSub, Nat.reduceLeDiff]
        refine ⟨b, by omega, ⟨by omega, fun p hp hbp => ?_⟩, ?_⟩
        · by_cases e : p = b
          · subst e; exact hq
          · exact hall p hp (by omega)
        · exact ⟨[(20, .blk 20 0), (21, .blk 21 0), (22, .blk 22 0), (23, .blk 23 0), (24, .blk 24 0), (150, .blk 150 0)], rfl, (by repeat (first | exact RO.zero | exact RO.e | refine RO.set rfl ?_)), (by repeat' (first | exact RB.nil | (refine RnL.same ?_; first | rfl | (simp only [noRef, noRefs, noRefs_append, Bool.and_self, Bool.and_true, Bool.true_and, noRefs_flat10, noRefs_ints, noRefs_lsts, noRefs_pad, noRefs_tnC, noRefs_arcC, noRefs_rowF, noRefs_flowC]; done)) | exact RnM.keyM rfl | exact RnL.nil | refine RnL.cons ?_ ?_ | (refine Rn.same ?_; first | rfl | (simp only [noRef, noRefs, noRefs_append, Bool.and_self, Bool.and_true, Bool.true_and, noRefs_flat10, noRefs_ints, noRefs_lsts, noRefs_pad, noRefs_tnC, noRefs_arcC, noRefs_rowF, noRefs_flowC]; done)) | exact Rn.sl (Nat.le_of_ble_eq_true rfl) rfl | exact Rn.ptr (Nat.le_of_ble_eq_true rfl) rfl | exact Rn.map (Nat.le_of_ble_eq_true rfl) rfl | exact Rn.slnil (Nat.le_of_ble_eq_true rfl) rfl | exact Rn.slB (Nat.le_of_ble_eq_true rfl) | exact Rn.ptrB (Nat.le_of_ble_eq_true rfl) | exact Rn.mapB (Nat.le_of_ble_eq_true rfl) | refine RB.newnil rfl rfl ?_ | refine RB.cells rfl rfl rfl ?_ ?_ | refine RB.map rfl rfl rfl ?_ ?_ | refine RB.cellsB rfl rfl ?_ ?_ | refine RB.mapB rfl rfl ?_ ?_)), (by repeat (first | exact RT.nil | (refine RT.cons ?_ ?_; · (first | exact Rn.any | exact Rn.sl (Nat.le_of_ble_eq_true rfl) rfl | exact Rn.ptr (Nat.le_of_ble_eq_true rfl) rfl | exact Rn.map (Nat.le_of_ble_eq_true rfl) rfl | exact Rn.slnil (Nat.le_of_ble_eq_true rfl) rfl | exact Rn.slB (Nat.le_of_ble_eq_true rfl) | exact Rn.ptrB (Nat.le_of_ble_eq_true rfl) | exact Rn.mapB (Nat.le_of_ble_eq_true rfl) | (refine Rn.slot ?_ ?_; (first | rfl | (rw [Int.natCast_add]; rfl)); (first | rfl | (simp only [noRef, noRefs, noRefs_append, Bool.and_self, Bool.and_true, Bool.true_and, noRefs_flat10, noRefs_ints, noRefs_lsts, noRefs_pad, noRefs_tnC, noRefs_arcC, noRefs_rowF, noRefs_flowC]; done))) | (refine Rn.fn ?_ ?_ <;> (repeat' (first | exact RnL.nil | refine RnL.cons ?_ ?_ | exact Rn.same rfl | exact Rn.ptrB (Nat.le_of_ble_eq_true rfl) | exact Rn.ptr (Nat.le_of_ble_eq_true rfl) rfl | exact Rn.slB (Nat.le_of_ble_eq_true rfl) | exact Rn.sl (Nat.le_of_ble_eq_true rfl) rfl)))))))⟩
      · have hq' : (((s.getD b 0 : Nat) : Int) = (K : Int) - k + b) = False := eq_false (by omega)
        simp (config := { maxSteps := 1000000 }) (disch := first | omega | (simp only [List.length_map, List.length_append, List.length_cons, List.length_nil, ints_len] <;> omega)) only [vC, Int.add_sub_cancel, hbk, hgb, hq', wordsN, Int.reduceGT, wordsR, ne_eq, words, Nat.reduceAdd, Nat.reduceEqDiff, Nat.reduceBEq, ↓reduceIte, reduceCtorEq, SX.exit.injEq, if_true, if_false, Int.reduceAdd, Int.reduceSub, Int.reduceMul, Int.reduceLT, Int.reduceLE, Int.reduceEq, Int.reduceNe, Int.reduceNeg, Int.reduceToNat, Nat.reduceMul, Nat.reduceLT, Nat.reduceSub, Nat.reduceLeDiff]
        refine ⟨b, .inr ⟨b, rfl, hbk, hq, fun p hp hbp => hall p hp (by omega)⟩, ?_⟩
        exact ⟨[(20, .blk 20 0), (21, .blk 21 0), (22, .blk 22 0), (23, .blk 23 0), (24, .blk 24 0), (150, .blk 150 0)], rfl, (by repeat (first | exact RO.zero | exact RO.e | refine RO.set rfl ?_)), (by repeat' (first | exact RB.nil | (refine RnL.same ?_; first | rfl | (simp only [noRef, noRefs, noRefs_append, Bool.and_self, Bool.and_true, Bool.true_and, noRefs_flat10, noRefs_ints, noRefs_lsts, noRefs_pad, noRefs_tnC, noRefs_arcC, noRefs_rowF, noRefs_flowC]; done)) | exact RnM.keyM rfl | exact RnL.nil | refine RnL.cons ?_ ?_ | (refine Rn.same ?_; first | rfl | (simp only [noRef, noRefs, noRefs_append, Bool.and_self, Bool.and_true, Bool.true_and, noRefs_flat10, noRefs_ints, noRefs_lsts, noRefs_pad, noRefs_tnC, noRefs_arcC, noRefs_rowF, noRefs_flowC]; done)) | exact Rn.sl (Nat.le_of_ble_eq_true rfl) rfl | exact Rn.ptr (Nat.le_of_ble_eq_true rfl) rfl | exact Rn.map (Nat.le_of_ble_eq_true rfl) rfl | exact Rn.slnil (Nat.le_of_ble_eq_true rfl) rfl | exact Rn.slB (Nat.le_of_ble_eq_true rfl) | exact Rn.ptrB (Nat.le_of_ble_eq_true rfl) | exact Rn.mapB (Nat.le_of_ble_eq_true rfl) | refine RB.newnil rfl rfl ?_ | refine RB.cells rfl rfl rfl ?_ ?_ | refine RB.map rfl rfl rfl ?_ ?_ | refine RB.cellsB rfl rfl ?_ ?_ | refine RB.mapB rfl rfl ?_ ?_)), (by repeat (first | exact RT.nil | (refine RT.cons ?_ ?_; · (first | exact Rn.any | exact Rn.sl (Nat.le_of_ble_eq_true rfl) rfl | exact Rn.ptr (Nat.le_of_ble_eq_true rfl) rfl | exact Rn.map (Nat.le_of_ble_eq_true rfl) rfl | exact Rn.slnil (Nat.le_of_ble_eq_true rfl) rfl | exact Rn.slB (Nat.le_of_ble_eq_true rfl) | exact Rn.ptrB (Nat.le_of_ble_eq_true rfl) | exact Rn.mapB (Nat.le_of_ble_eq_true rfl) | (refine Rn.slot ?_ ?_; (first | rfl | (rw [Int.natCast_add]; rfl)); (first | rfl | (simp only [noRef, noRefs, noRefs_append, Bool.and_self, Bool.and_true, Bool.true_and, noRefs_flat10, noRefs_ints, noRefs_lsts, noRefs_pad, noRefs_tnC, noRefs_arcC, noRefs_rowF, noRefs_flowC]; done))) | (refine Rn.fn ?_ ?_ <;> (repeat' (first | exact RnL.nil | refine RnL.cons ?_ ?_ | exact Rn.same rfl | exact Rn.ptrB (Nat.le_of_ble_eq_true rfl) | exact Rn.ptr (Nat.le_of_ble_eq_true rfl) rfl | exact Rn.slB (Nat.le_of_ble_eq_true rfl) | exact Rn.sl (Nat.le_of_ble_eq_true rfl) rfl)))))))⟩
  rintro i (⟨rfl, hall⟩ | ⟨b, rfl, hbk, hq, hall⟩)
  · have hje := hls hall
    have hfS : F' = foldV R F S := by rw [← hFG, hje, List.take_length]
    simp (config := { maxSteps := 1000000 }) (disch := first | omega | (simp only [List.length_map, List.length_append, List.length_cons, List.length_nil, ints_len] <;> omega)) only [vC, wordsN, Int.reduceGT, wordsR, ne_eq, words, Nat.reduceAdd, Nat.reduceEqDiff, Nat.reduceBEq, ↓reduceIte, reduceCtorEq, SX.exit.injEq, if_true, if_false, Int.reduceAdd, Int.reduceSub, Int.reduceMul, Int.reduceLT, Int.reduceLE, Int.reduceEq, Int.reduceNe, Int.reduceNeg, Int.reduceToNat, Nat.reduceMul, Nat.reduceLT, Nat.reduceSub, Nat.reduceLeDiff]
    refine ⟨.inr trivial, _, rfl, rfl, ?_⟩
    rw [← hL, ← hfS, show g + (F'.length - F.length) = g' by rw [← hgG]]
    unfold vH
    exact ⟨[(20, .blk 20 0), (21, .blk 21 0), (22, .blk 22 0), (23, .blk 23 0), (24, .blk 24 0)], rfl, (by repeat (first | exact RO.zero | exact RO.e | refine RO.set rfl ?_)), (by repeat' (first | exact RB.nil | (refine RnL.same ?_; first | rfl | (simp only [noRef, noRefs, noRefs_append, Bool.and_self, Bool.and_true, Bool.true_and, noRefs_flat10, noRefs_ints, noRefs_lsts, noRefs_pad, noRefs_tnC, noRefs_arcC, noRefs_rowF, noRefs_flowC]; done)) | exact RnM.keyM rfl | exact RnL.nil | refine RnL.cons ?_ ?_ | (refine Rn.same ?_; first | rfl | (simp only [noRef, noRefs, noRefs_append, Bool.and_self, Bool.and_true, Bool.true_and, noRefs_flat10, noRefs_ints, noRefs_lsts, noRefs_pad, noRefs_tnC, noRefs_arcC, noRefs_rowF, noRefs_flowC]; done)) | exact Rn.sl (Nat.le_of_ble_eq_true rfl) rfl | exact Rn.ptr (Nat.le_of_ble_eq_true rfl) rfl | exact Rn.map (Nat.le_of_ble_eq_true rfl) rfl | exact Rn.slnil (Nat.le_of_ble_eq_true rfl) rfl | exact Rn.slB (Nat.le_of_ble_eq_true rfl) | exact Rn.ptrB (Nat.le_of_ble_eq_true rfl) | exact Rn.mapB (Nat.le_of_ble_eq_true rfl) | refine RB.newnil rfl rfl ?_ | refine RB.cells rfl rfl rfl ?_ ?_ | refine RB.map rfl rfl rfl ?_ ?_ | refine RB.cellsB rfl rfl ?_ ?_ | refine RB.mapB rfl rfl ?_ ?_)), (by repeat (first | exact RT.nil | (refine RT.cons ?_ ?_; · (first | exact Rn.any | exact Rn.sl (Nat.le_of_ble_eq_true rfl) rfl | exact Rn.ptr (Nat.le_of_ble_eq_true rfl) rfl | exact Rn.map (Nat.le_of_ble_eq_true rfl) rfl | exact Rn.slnil (Nat.le_of_ble_eq_true rfl) rfl | exact Rn.slB (Nat.le_of_ble_eq_true rfl) | exact Rn.ptrB (Nat.le_of_ble_eq_true rfl) | exact Rn.mapB (Nat.le_of_ble_eq_true rfl) | (refine Rn.slot ?_ ?_; (first | rfl | (rw [Int.natCast_add]; rfl)); (first | rfl | (simp only [noRef, noRefs, noRefs_append, Bool.and_self, Bool.and_true, Bool.true_and, noRefs_flat10, noRefs_ints, noRefs_lsts, noRefs_pad, noRefs_tnC, noRefs_arcC, noRefs_rowF, noRefs_flowC]; done))) | (refine Rn.fn ?_ ?_ <;> (repeat' (first | exact RnL.nil | refine RnL.cons ?_ ?_ | exact Rn.same rfl | exact Rn.ptrB (Nat.le_of_ble_eq_true rfl) | exact Rn.ptr (Nat.le_of_ble_eq_true rfl) rfl | exact Rn.slB (Nat.le_of_ble_eq_true rfl) | exact Rn.sl (Nat.le_of_ble_eq_true rfl) rfl)))))))⟩
  have hb0 : ¬ ((b : Nat) : Int) < 0 := by omega
  have hgb := rowF_get (n := k) (fun p => ((s.getD p 0 : Nat) : Int)) hbk
  have hset : ∀ v, (rowF k fun p => ((s.getD p 0 : Nat) : Int)).set b (.int .i64 v) = rowF k (fun p => if p = b then v else ((s.getD p 0 : Nat) : Int)) := fun v => rowF_set _ v
  have hle : b + 1 ≤ k := by omega
  have hsb : s.getD b 0 < 6 := by
    rw [List.getD_eq_getElem?_getD]
    cases hx : s[b]? with
    | none => simp
    | some x => have := hsc x (List.mem_of_getElem? hx); simp; omega
  simp (config := { maxSteps := 1000000 }) (disch := first | omega | (simp only [List.length_map, List.length_append, List.length_cons, List.length_nil, ints_len] <;> omega)) only [vC, hb0, hgb, hbk, hset, rowF_len, hle, wordsN, Int.reduceGT, wordsR, ne_eq, words, Nat.reduceAdd, Nat.reduceEqDiff, Nat.reduceBEq, ↓reduceIte, reduceCtorEq, SX.exit.injEq, if_true, if_false, Int.reduceAdd, Int.reduceSub, Int.reduceMul, Int.reduceLT, Int.reduceLE, Int.reduceEq, Int.reduceNe, Int.reduceNeg, Int.reduceToNat, Nat.reduceMul, Nat.reduceLT, Nat.reduceSub, Nat.reduceLeDiff]
  have hnb := hnx b hbk hq fun p hp hb => hall p hp hb
  generalize hs0 : s.getD b 0 = s0 at *
  refine wS_loopR 900 (fun d : Nat => [(0, .int .i64 K), (1, .int .i64 k), (2, .fn 60 [] [.ptr 21 0 0, .ptr 24 0 0, .ptr 20 0 0]), (6, .sl 150 0 0 k 1), (9, .int .i64 ((d : Int) + 1))])
    (fun d => vC K R F' g' (rowF k fun p => if p < b then ((s.getD p 0 : Nat) : Int) else if p < d + 1 then (s0 : Int) + 1 + ((p : Int) - b) else ((s.getD p 0 : Nat) : Int))) (fun d => b ≤ d ∧ d + 1 ≤ k) (fun d => k - d) b ?_ ⟨Nat.le_refl _, by omega⟩ ?_
  · refine ⟨[(20, .blk 20 0), (21, .blk 21 0), (22, .blk 22 0), (23, .blk 23 0), (24, .blk 24 0), (150, .blk 150 0)], rfl, (by repeat (first | exact RO.zero | exact RO.e | refine RO.set rfl ?_)), ?_, (by repeat (first | exact RT.nil | (refine RT.cons ?_ ?_; · (first | exact Rn.any | exact Rn.sl (Nat.le_of_ble_eq_true rfl) rfl | exact Rn.ptr (Nat.le_of_ble_eq_true rfl) rfl | exact Rn.map (Nat.le_of_ble_eq_true rfl) rfl | exact Rn.slnil (Nat.le_of_ble_eq_true rfl) rfl | exact Rn.slB (Nat.le_of_ble_eq_true rfl) | exact Rn.ptrB (Nat.le_of_ble_eq_true rfl) | exact Rn.mapB (Nat.le_of_ble_eq_true rfl) | (refine Rn.slot ?_ ?_; (first | rfl | (rw [Int.natCast_add]; rfl)); (first | rfl | (simp only [noRef, noRefs, noRefs_append, Bool.and_self, Bool.and_true, Bool.true_and, noRefs_flat10, noRefs_ints, noRefs_lsts, noRefs_pad, noRefs_tnC, noRefs_arcC, noRefs_rowF, noRefs_flowC]; done))) | (refine Rn.fn ?_ ?_ <;> (repeat' (first | exact RnL.nil | refine RnL.cons ?_ ?_ | exact Rn.same rfl | exact Rn.ptrB (Nat.le_of_ble_eq_true rfl) | exact Rn.ptr (Nat.le_of_ble_eq_true rfl) rfl | exact Rn.slB (Nat.le_of_ble_eq_true rfl) | exact Rn.sl (Nat.le_of_ble_eq_true rfl) rfl)))))))⟩
    refine RB.cellsB rfl rfl ?_ (RB.cellsB rfl rfl ?_ (RB.mapB rfl rfl ?_ (RB.cellsB rfl rfl ?_ (RB.cellsB rfl rfl ?_ (RB.cells rfl rfl rfl (RnL.eq (rowF_congr fun p _ => ?_) (noRefs_rowF _ _)) RB.nil)))))
    rotate_right 1
    · by_cases e : p = b
      · subst e; simp
      · have : (p < b + 1) ↔ (p < b) := by omega
        simp only [this, e, if_false]
        split <;> rfl
    all_goals repeat' (first | exact RB.nil | (refine RnL.same ?_; first | rfl | (simp only [noRef, noRefs, noRefs_append, Bool.and_self, Bool.and_true, Bool.true_and, noRefs_flat10, noRefs_ints, noRefs_lsts, noRefs_pad, noRefs_tnC, noRefs_arcC, noRefs_rowF, noRefs_flowC]; done)) | exact RnM.keyM rfl | exact RnL.nil | refine RnL.cons ?_ ?_ | (refine Rn.same ?_; first | rfl | (simp only [noRef, noRefs, noRefs_append, Bool.and_self, Bool.and_true, Bool.true_and, noRefs_flat10, noRefs_ints, noRefs_lsts, noRefs_pad, noRefs_tnC, noRefs_arcC, noRefs_rowF, noRefs_flowC]; done)) | exact Rn.sl (Nat.le_of_ble_eq_true rfl) rfl | exact Rn.ptr (Nat.le_of_ble_eq_true rfl) rfl | exact Rn.map (Nat.le_of_ble_eq_true rfl) rfl | exact Rn.slnil (Nat.le_of_ble_eq_true rfl) rfl | exact Rn.slB (Nat.le_of_ble_eq_true rfl) | exact Rn.ptrB (Nat.le_of_ble_eq_true rfl) | exact Rn.mapB (Nat.le_of_ble_eq_true rfl) | refine RB.newnil rfl rfl ?_ | refine RB.cells rfl rfl rfl ?_ ?_ | refine RB.map rfl rfl rfl ?_ ?_ | refine RB.cellsB rfl rfl ?_ ?_ | refine RB.mapB rfl rfl ?_ ?_)
  rintro d ⟨hbd, hdk⟩
  by_cases hlt : d + 1 < k
  · have hlt' : (d : Int) + 1 < k := by omega
    have hdk2 : d < k := by omega
    have hle2 : d + 1 + 1 ≤ k := by omega
    have hd0 : ¬ d < b := by omega
    have hgd := rowF_get (n := k) (fun p => if p < b then ((s.getD p 0 : Nat) : Int) else if p < d + 1 then (s0 : Int) + 1 + ((p : Int) - b) else ((s.getD p 0 : Nat) : Int)) hdk2
    rw [if_neg hd0, if_pos (Nat.lt_succ_self d)] at hgd
    have hset2 : ∀ v, (rowF k fun p => if p < b then ((s.getD p 0 : Nat) : Int) else if p < d + 1 then (s0 : Int) + 1 + ((p : Int) - b) else ((s.getD p 0 : Nat) : Int)).set (d + 1) (.int .i64 v) =
      rowF k (fun p => if p = d + 1 then v else if p < b then ((s.getD p 0 : Nat) : Int) else if p < d + 1 then (s0 : Int) + 1 + ((p : Int) - b) else ((s.getD p 0 : Nat) : Int)) := fun v => rowF_set _ v
    have htn : ((d : Int) + 1).toNat = d + 1 := by omega
    simp (config := { maxSteps := 1000000 }) (disch := first | omega | (simp only [List.length_map, List.length_append, List.length_cons, List.length_nil, ints_len] <;> omega)) only [vC, hlt', Int.add_sub_cancel, hdk2, hgd, htn, hset2, rowF_len, hle2, wordsN, Int.reduceGT, wordsR, ne_eq, words, Nat.reduceAdd, Nat.reduceEqDiff, Nat.reduceBEq, ↓reduceIte, reduceCtorEq, SX.exit.injEq, if_true, if_false, Int.reduceAdd, Int.reduceSub, Int.reduceMul, Int.reduceLT, Int.reduceLE, Int.reduceEq, Int.reduceNe, Int.reduceNeg, Int.reduceToNat, Nat.reduceMul, Nat.reduceLT, Nat.reduceSub, Nat.reduceLeDiff]
    refine ⟨d + 1, by omega, ⟨by omega, by omega⟩, ?_⟩
    refine ⟨[(20, .blk 20 0), (21, .blk 21 0), (22, .blk 22 0), (23, .blk 23 0), (24, .blk 24 0), (150, .blk 150 0)], rfl, (by repeat (first | exact RO.zero | exact RO.e | refine RO.set rfl ?_)), ?_, (by repeat (first | exact RT.nil | (refine RT.cons ?_ ?_; · (first | exact Rn.any | exact Rn.sl (Nat.le_of_ble_eq_true rfl) rfl | exact Rn.ptr (Nat.le_of_ble_eq_true rfl) rfl | exact Rn.map (Nat.le_of_ble_eq_true rfl) rfl | exact Rn.slnil (Nat.le_of_ble_eq_true rfl) rfl | exact Rn.slB (Nat.le_of_ble_eq_true rfl) | exact Rn.ptrB (Nat.le_of_ble_eq_true rfl) | exact Rn.mapB (Nat.le_of_ble_eq_true rfl) | (refine Rn.slot ?_ ?_; (first | rfl | (rw [Int.natCast_add]; rfl)); (first | rfl | (simp only [noRef, noRefs, noRefs_append, Bool.and_self, Bool.and_true, Bool.true_and, noRefs_flat10, noRefs_ints, noRefs_lsts, noRefs_pad, noRefs_tnC, noRefs_arcC, noRefs_rowF, noRefs_flowC]; done))) | (refine Rn.fn ?_ ?_ <;> (repeat' (first | exact RnL.nil | refine RnL.cons ?_ ?_ | exact Rn.same rfl | exact Rn.ptrB (Nat.le_of_ble_eq_true rfl) | exact Rn.ptr (Nat.le_of_ble_eq_true rfl) rfl | exact Rn.slB (Nat.le_of_ble_eq_true rfl) | exact Rn.sl (Nat.le_of_ble_eq_true rfl) rfl)))))))⟩
    refine RB.cellsB rfl rfl ?_ (RB.cellsB rfl rfl ?_ (RB.mapB rfl rfl ?_ (RB.cellsB rfl rfl ?_ (RB.cellsB rfl rfl ?_ (RB.cells rfl rfl rfl (RnL.eq (rowF_congr fun p hp => ?_) (noRefs_rowF _ _)) RB.nil)))))
    rotate_right 1
    · by_cases e : p = d + 1
      · subst e
        rw [if_neg (by omega), if_pos (by omega), if_pos rfl]; omega
      · have : (p < d + 1 + 1) ↔ (p < d + 1) := by omega
        simp only [this, e, if_false]
    all_goals repeat' (first | exact RB.nil | (refine RnL.same ?_; first | rfl | (simp only [noRef, noRefs, noRefs_append, Bool.and_self, Bool.and_true, Bool.true_and, noRefs_flat10, noRefs_ints, noRefs_lsts, noRefs_pad, noRefs_tnC, noRefs_arcC, noRefs_rowF, noRefs_flowC]; done)) | exact RnM.keyM rfl | exact RnL.nil | refine RnL.cons ?_ ?_ | (refine Rn.same ?_; first | rfl | (simp only [noRef, noRefs, noRefs_append, Bool.and_self, Bool.and_true, Bool.true_and, noRefs_flat10, noRefs_ints, noRefs_lsts, noRefs_pad, noRefs_tnC, noRefs_arcC, noRefs_rowF, noRefs_flowC]; done)) | exact Rn.sl (Nat.le_of_ble_eq_true rfl) rfl | exact Rn.ptr (Nat.le_of_ble_eq_true rfl) rfl | exact Rn.map (Nat.le_of_ble_eq_true rfl) rfl | exact Rn.slnil (Nat.le_of_ble_eq_true rfl) rfl | exact Rn.slB (Nat.le_of_ble_eq_true rfl) | exact Rn.ptrB (Nat.le_of_ble_eq_true rfl) | exact Rn.mapB (Nat.le_of_ble_eq_true rfl) | refine RB.newnil rfl rfl ?_ | refine RB.cells rfl rfl rfl ?_ ?_ | refine RB.map rfl rfl rfl ?_ ?_ | refine RB.cellsB rfl rfl ?_ ?_ | refine RB.mapB rfl rfl ?_ ?_)
  · have e : d + 1 = k := by omega
    have hlt' : ¬ (d : Int) + 1 < k := by omega
    simp (config := { maxSteps := 1000000 }) (disch := first | omega | (simp only [List.length_map, List.length_append, List.length_cons, List.length_nil, ints_len] <;> omega)) only [vC, hlt', wordsN, Int.reduceGT, wordsR, ne_eq, words, Nat.reduceAdd, Nat.reduceEqDiff, Nat.reduceBEq, ↓reduceIte, reduceCtorEq, SX.exit.injEq, if_true, if_false, Int.reduceAdd, Int.reduceSub, Int.reduceMul, Int.reduceLT, Int.reduceLE, Int.reduceEq, Int.reduceNe, Int.reduceNeg, Int.reduceToNat, Nat.reduceMul, Nat.reduceLT, Nat.reduceSub, Nat.reduceLeDiff]
    have hj1 : j + 1 < S.length := (List.getElem?_eq_some_iff.1 hnb).1
    refine ⟨j + 1, by omega, hj1, ?_⟩
    rw [hJ, show S.getD (j + 1) [] = nxt s b by rw [List.getD_eq_getElem?_getD, hnb]; rfl, ints_rowF, show (nxt s b).length = k by simp [nxt, hsl]]
    unfold vC
    refine ⟨[(20, .blk 20 0), (21, .blk 21 0), (22, .blk 22 0), (23, .blk 23 0), (24, .blk 24 0), (150, .blk 150 0)], rfl, (by repeat (first | exact RO.zero | exact RO.e | refine RO.set rfl ?_)), ?_, (by repeat (first | exact RT.nil | (refine RT.cons ?_ ?_; · (first | exact Rn.any | exact Rn.sl (Nat.le_of_ble_eq_true rfl) rfl | exact Rn.ptr (Nat.le_of_ble_eq_true rfl) rfl | exact Rn.map (Nat.le_of_ble_eq_true rfl) rfl | exact Rn.slnil (Nat.le_of_ble_eq_true rfl) rfl | exact Rn.slB (Nat.le_of_ble_eq_true rfl) | exact Rn.ptrB (Nat.le_of_ble_eq_true rfl) | exact Rn.mapB (Nat.le_of_ble_eq_true rfl) | (refine Rn.slot ?_ ?_; (first | rfl | (rw [Int.natCast_add]; rfl)); (first | rfl | (simp only [noRef, noRefs, noRefs_append, Bool.and_self, Bool.and_true, Bool.true_and, noRefs_flat10, noRefs_ints, noRefs_lsts, noRefs_pad, noRefs_tnC, noRefs_arcC, noRefs_rowF, noRefs_flowC]; done))) | (refine Rn.fn ?_ ?_ <;> (repeat' (first | exact RnL.nil | refine RnL.cons ?_ ?_ | exact Rn.same rfl | exact Rn.ptrB (Nat.le_of_ble_eq_true rfl) | exact Rn.ptr (Nat.le_of_ble_eq_true rfl) rfl | exact Rn.slB (Nat.le_of_ble_eq_true rfl) | exact Rn.sl (Nat.le_of_ble_eq_true rfl) rfl)))))))⟩
    refine RB.cellsB rfl rfl ?_ (RB.cellsB rfl rfl ?_ (RB.mapB rfl rfl ?_ (RB.cellsB rfl rfl ?_ (RB.cellsB rfl rfl ?_ (RB.cells rfl rfl rfl (RnL.eq (rowF_congr fun p hp => ?_) (noRefs_rowF _ _)) RB.nil)))))
    rotate_right 1
    · have hpr : (List.range s.length)[p]? = some p := List.getElem?_range (by omega)
      have hv : (nxt s b).getD p 0 = if p < b then s.getD p 0 else s.getD b 0 + 1 + (p - b) := by
        unfold nxt
        rw [List.getD_eq_getElem?_getD, List.getElem?_map, hpr]; rfl
      rw [hv, hs0]
      by_cases h1 : p < b
      · rw [if_pos h1, if_pos h1]
      · rw [if_neg h1, if_neg h1, if_pos (by omega)]; omega
    all_goals repeat' (first | exact RB.nil | (refine RnL.same ?_; first | rfl | (simp only [noRef, noRefs, noRefs_append, Bool.and_self, Bool.and_true, Bool.true_and, noRefs_flat10, noRefs_ints, noRefs_lsts, noRefs_pad, noRefs_tnC, noRefs_arcC, noRefs_rowF, noRefs_flowC]; done)) | exact RnM.keyM rfl | exact RnL.nil | refine RnL.cons ?_ ?_ | (refine Rn.same ?_; first | rfl | (simp only [noRef, noRefs, noRefs_append, Bool.and_self, Bool.and_true, Bool.true_and, noRefs_flat10, noRefs_ints, noRefs_lsts, noRefs_pad, noRefs_tnC, noRefs_arcC, noRefs_rowF, noRefs_flowC]; done)) | exact Rn.sl (Nat.le_of_ble_eq_true rfl) rfl | exact Rn.ptr (Nat.le_of_ble_eq_true rfl) rfl | exact Rn.map (Nat.le_of_ble_eq_true rfl) rfl | exact Rn.slnil (Nat.le_of_ble_eq_true rfl) rfl | exact Rn.slB (Nat.le_of_ble_eq_true rfl) | exact Rn.ptrB (Nat.le_of_ble_eq_true rfl) | exact Rn.mapB (Nat.le_of_ble_eq_true rfl) | refine RB.newnil rfl rfl ?_ | refine RB.cells rfl rfl rfl ?_ ?_ | refine RB.map rfl rfl rfl ?_ ?_ | refine RB.cellsB rfl rfl ?_ ?_ | refine RB.mapB rfl rfl ?_ ?_)
end Go.AM.SN
namespace Go.AM.SN
open Go.Proofs Go.AM.SK
set_option maxRecDepth 100000
set_option linter.unusedSimpArgs false
set_option linter.unusedVariables false
def minF (R : List (List Int)) (K : Nat) : Nat → List Flow
  | 0 => []
  | m + 1 => foldV R (minF R K m) (setsF (m + 1) K 0)
theorem minF_len (R : List (List Int)) {K : Nat} (hK : K < 6) : ∀ m, m < 6 → (minF R K m).length ≤ 10 * m
  | 0, _ => by simp [minF]
  | m + 1, hm => by
    have h1 := minF_len R hK m (by omega)
    have h2 := (foldV_len R (setsF (m + 1) K 0) (minF R K m)).2
    have h3 := sets_small K hK (m + 1) hm
    unfold minF; omega
theorem minF_sup (R : List (List Int)) {K : Nat} (hK : K < 6) : ∀ m, m < 6 → ∀ f ∈ minF R K m, f.1 < 65536
  | 0, _ => by simp [minF]
  | m + 1, hm => foldV_sup _ _ (fun s hs c hc => by have := (sets_props K hK (m + 1) hm s hs).2.1 c hc; omega) (minF_sup R hK m (by omega))
abbrev flowsV (F : List Flow) : AV := .fsl (flowC F) F.length 11
theorem noRef_flows (F : List Flow) : noRef (flowsV F) = true := by simp only [noRef]; exact noRefs_flowC F
set_option maxHeartbeats 8000000 in
theorem minimalP (K : Nat) (R : List (List Int)) (hK : K ≤ 5) (hR : R.length ≤ 100) (hRk : ∀ r ∈ R, r.length = K) (hRb : ∀ r ∈ R, ∀ x ∈ r, -8 ≤ x ∧ x ≤ 8) :
    PSpec Try.prog 41 [tabV K R] (flowsV (minF R K K)) := by
  refine PSpec.of_rn 64 SM.ok41 rfl (by (try simp only [noRefs, noRef_net, noRef_sli, noRef_lsts, noRef_arcs, noRef_tns, noRef_tab]) <;> rfl) (noRef_flows _) ?_
  simp (config := { maxSteps := 1000000 }) (disch := first | omega | (simp only [List.length_map, List.length_append, List.length_cons, List.length_nil, ints_len] <;> omega)) only [SM.s41, aMakeMap_new, wordsM, wordsN, Int.reduceGT, wordsR, ne_eq, words, Nat.reduceAdd, Nat.reduceEqDiff, Nat.reduceBEq, ↓reduceIte, reduceCtorEq, SX.exit.injEq, if_true, if_false, Int.reduceAdd, Int.reduceSub, Int.reduceMul, Int.reduceLT, Int.reduceLE, Int.reduceEq, Int.reduceNe, Int.reduceNeg, Int.reduceToNat, Nat.reduceMul, Nat.reduceLT, Nat.reduceSub, Nat.reduceLeDiff]
  refine wS_loopR 100 (fun a : Nat => [(1, .ptr 24 0 0), (3, .ptr 20 0 0), (4, .ptr 21 0 0), (5, .int .i64 ((a : Int) + 1))])
    (fun a => vH K R (minF R K a) 0) (fun a => a ≤ K) (fun a => K - a) 0 ?_ (Nat.zero_le _) ?_
  · exact ⟨[(20, .blk 66 0), (21, .blk 68 0), (22, .blk 67 0), (23, .nil), (24, .blk 64 0)], rfl, (by repeat (first | exact RO.zero | exact RO.e | refine RO.set rfl ?_)), (by repeat' (first | exact RB.nil | (refine RnL.same ?_; first | rfl | (simp only [noRef, noRefs, noRefs_append, Bool.and_self, Bool.and_true, Bool.true_and, noRefs_flat10, noRefs_ints, noRefs_lsts, noRefs_pad, noRefs_tnC, noRefs_arcC, noRefs_rowF, noRefs_flowC]; done)) | exact RnM.keyM rfl | exact RnL.nil | refine RnL.cons ?_ ?_ | (refine Rn.same ?_; first | rfl | (simp only [noRef, noRefs, noRefs_append, Bool.and_self, Bool.and_true, Bool.true_and, noRefs_flat10, noRefs_ints, noRefs_lsts, noRefs_pad, noRefs_tnC, noRefs_arcC, noRefs_rowF, noRefs_flowC]; done)) | exact Rn.sl (Nat.le_of_ble_eq_true rfl) rfl | exact Rn.ptr (Nat.le_of_ble_eq_true rfl) rfl | exact Rn.map (Nat.le_of_ble_eq_true rfl) rfl | exact Rn.slnil (Nat.le_of_ble_eq_true rfl) rfl | exact Rn.slB (Nat.le_of_ble_eq_true rfl) | exact Rn.ptrB (Nat.le_of_ble_eq_true rfl) | exact Rn.mapB (Nat.le_of_ble_eq_true rfl) | refine RB.newnil rfl rfl ?_ | refine RB.cells rfl rfl rfl ?_ ?_ | refine RB.map rfl rfl rfl ?_ ?_ | refine RB.cellsB rfl rfl ?_ ?_ | refine RB.mapB rfl rfl ?_ ?_)), (by repeat (first | exact RT.nil | (refine RT.cons ?_ ?_; · (first | exact Rn.any | exact Rn.sl (Nat.le_of_ble_eq_true rfl) rfl | exact Rn.ptr (Nat.le_of_ble_eq_true rfl) rfl | exact Rn.map (Nat.le_of_ble_eq_true rfl) rfl | exact Rn.slnil (Nat.le_of_ble_eq_true rfl) rfl | exact Rn.slB (Nat.le_of_ble_eq_true rfl) | exact Rn.ptrB (Nat.le_of_ble_eq_true rfl) | exact Rn.mapB (Nat.le_of_ble_eq_true rfl) | (refine Rn.slot ?_ ?_; (first | rfl | (rw [Int.natCast_add]; rfl)); (first | rfl | (simp only [noRef, noRefs, noRefs_append, Bool.and_self, Bool.and_true, Bool.true_and, noRefs_flat10, noRefs_ints, noRefs_lsts, noRefs_pad, noRefs_tnC, noRefs_arcC, noRefs_rowF, noRefs_flowC]; done))) | (refine Rn.fn ?_ ?_ <;> (repeat' (first | exact RnL.nil | refine RnL.cons ?_ ?_ | exact Rn.same rfl | exact Rn.ptrB (Nat.le_of_ble_eq_true rfl) | exact Rn.ptr (Nat.le_of_ble_eq_true rfl) rfl | exact Rn.slB (Nat.le_of_ble_eq_true rfl) | exact Rn.sl (Nat.le_of_ble_eq_true rfl) rfl)))))))⟩
  intro a ha
  have hl := minF_len R (K := K) (by omega) a (by omega)
  have hs := minF_sup R (K := K) (by omega) a (by omega)
  by_cases hlt : a + 1 ≤ K
  · have hlt' : (a : Int) + 1 ≤ K := by omega
    have hch := choose K R (minF R K a) 0 (a + 1) hK hR hRk hRb (by omega) hlt (by omega) hs
    generalize hg : 0 + ((foldV R (minF R K a) (setsF (a + 1) K 0)).length - (minF R K a).length) = gg at hch
    have hF : minF R K (a + 1) = foldV R (minF R K a) (setsF (a + 1) K 0) := rfl
    rw [← hF] at hch
    simp (config := { maxSteps := 1000000 }) (disch := first | omega | (simp only [List.length_map, List.length_append, List.length_cons, List.length_nil, ints_len] <;> omega)) only [vH, hlt', wordsN, Int.reduceGT, wordsR, ne_eq, words, Nat.reduceAdd, Nat.reduceEqDiff, Nat.reduceBEq, ↓reduceIte, reduceCtorEq, SX.exit.injEq, if_true, if_false, Int.reduceAdd, Int.reduceSub, Int.reduceMul, Int.reduceLT, Int.reduceLE, Int.reduceEq, Int.reduceNe, Int.reduceNeg, Int.reduceToNat, Nat.reduceMul, Nat.reduceLT, Nat.reduceSub, Nat.reduceLeDiff]
    refine ch hch ?_
    generalize hF' : minF R K (a + 1) = F' at *
    simp (config := { maxSteps := 1000000 }) (disch := first | omega | (simp only [List.length_map, List.length_append, List.length_cons, List.length_nil, ints_len] <;> omega)) only [vH, wordsN, Int.reduceGT, wordsR, ne_eq, words, Nat.reduceAdd, Nat.reduceEqDiff, Nat.reduceBEq, ↓reduceIte, reduceCtorEq, SX.exit.injEq, if_true, if_false, Int.reduceAdd, Int.reduceSub, Int.reduceMul, Int.reduceLT, Int.reduceLE, Int.reduceEq, Int.reduceNe, Int.reduceNeg, Int.reduceToNat, Nat.reduceMul, Nat.reduceLT, Nat.reduceSub, Nat.reduceLeDiff]
    refine ⟨a + 1, by omega, hlt, ?_⟩
    rw [hF']
    exact ⟨[(20, .blk 20 0), (21, .blk 21 0), (22, .blk 22 0), (23, .blk 23 gg), (24, .blk 24 0)], rfl, (by repeat (first | exact RO.zero | exact RO.e | refine RO.set rfl ?_)), (by repeat' (first | exact RB.nil | (refine RnL.same ?_; first | rfl | (simp only [noRef, noRefs, noRefs_append, Bool.and_self, Bool.and_true, Bool.true_and, noRefs_flat10, noRefs_ints, noRefs_lsts, noRefs_pad, noRefs_tnC, noRefs_arcC, noRefs_rowF, noRefs_flowC]; done)) | exact RnM.keyM rfl | exact RnL.nil | refine RnL.cons ?_ ?_ | (refine Rn.same ?_; first | rfl | (simp only [noRef, noRefs, noRefs_append, Bool.and_self, Bool.and_true, Bool.true_and, noRefs_flat10, noRefs_ints, noRefs_lsts, noRefs_pad, noRefs_tnC, noRefs_arcC, noRefs_rowF, noRefs_flowC]; done)) | exact Rn.sl (Nat.le_of_ble_eq_true rfl) rfl | exact Rn.ptr (Nat.le_of_ble_eq_true rfl) rfl | exact Rn.map (Nat.le_of_ble_eq_true rfl) rfl | exact Rn.slnil (Nat.le_of_ble_eq_true rfl) rfl | exact Rn.slB (Nat.le_of_ble_eq_true rfl) | exact Rn.ptrB (Nat.le_of_ble_eq_true rfl) | exact Rn.mapB (Nat.le_of_ble_eq_true rfl) | refine RB.newnil rfl rfl ?_ | refine RB.cells rfl rfl rfl ?_ ?_ | refine RB.map rfl rfl rfl ?_ ?_ | refine RB.cellsB rfl rfl ?_ ?_ | refine RB.mapB rfl rfl ?_ ?_)), (by repeat (first | exact RT.nil | (refine RT.cons ?_ ?_; · (first | exact Rn.any | exact Rn.sl (Nat.le_of_ble_eq_true rfl) rfl | exact Rn.ptr (Nat.le_of_ble_eq_true rfl) rfl | exact Rn.map (Nat.le_of_ble_eq_true rfl) rfl | exact Rn.slnil (Nat.le_of_ble_eq_true rfl) rfl | exact Rn.slB (Nat.le_of_ble_eq_true rfl) | exact Rn.ptrB (Nat.le_of_ble_eq_true rfl) | exact Rn.mapB (Nat.le_of_ble_eq_true rfl) | (refine Rn.slot ?_ ?_; (first | rfl | (rw [Int.natCast_add]; rfl)); (first | rfl | (simp only [noRef, noRefs, noRefs_append, Bool.and_self, Bool.and_true, Bool.true_and, noRefs_flat10, noRefs_ints, noRefs_lsts, noRefs_pad, noRefs_tnC, noRefs_arcC, noRefs_rowF, noRefs_flowC]; done))) | (refine Rn.fn ?_ ?_ <;> (repeat' (first | exact RnL.nil | refine RnL.cons ?_ ?_ | exact Rn.same rfl | exact Rn.ptrB (Nat.le_of_ble_eq_true rfl) | exact Rn.ptr (Nat.le_of_ble_eq_true rfl) rfl | exact Rn.slB (Nat.le_of_ble_eq_true rfl) | exact Rn.sl (Nat.le_of_ble_eq_true rfl) rfl)))))))⟩
  · have e : a = K := by omega
    have hlt' : ¬ (a : Int) + 1 ≤ K := by omega
    subst e
    simp (config := { maxSteps := 1000000 }) (disch := first | omega | (simp only [List.length_map, List.length_append, List.length_cons, List.length_nil, ints_len] <;> omega)) only [vH, hlt', wordsN, Int.reduceGT, wordsR, ne_eq, words, Nat.reduceAdd, Nat.reduceEqDiff, Nat.reduceBEq, ↓reduceIte, reduceCtorEq, SX.exit.injEq, if_true, if_false, Int.reduceAdd, Int.reduceSub, Int.reduceMul, Int.reduceLT, Int.reduceLE, Int.reduceEq, Int.reduceNe, Int.reduceNeg, Int.reduceToNat, Nat.reduceMul, Nat.reduceLT, Nat.reduceSub, Nat.reduceLeDiff]
    exact ⟨.inr trivial, _, rfl, Rn.fz0 rfl (flowC_len _) (RnL.same (noRefs_flowC _))⟩
end Go.AM.SN
namespace Go.AM.SN
open Go.Proofs Go.AM.SK
set_option maxRecDepth 100000
set_option linter.unusedSimpArgs false
set_option linter.unusedVariables false
def listR (K : Nat) (F : List Flow) : List (List Int) := F.map fun f => (List.range K).map f.2
theorem flow_len (f : Flow) : (AV.int .u16 (f.1 : Nat) :: rowF 10 f.2).length = 11 := by rw [List.length_cons, rowF_len]
theorem flowC_at {F : List Flow} {a : Nat} {f : Flow} (h : F[a]? = some f) : (flowC F).drop (a * 11) = (AV.int .u16 (f.1 : Nat) :: rowF 10 f.2) ++ flowC (F.drop (a + 1)) :=
  drop_flat' (f := fun f : Flow => AV.int .u16 (f.1 : Nat) :: rowF 10 f.2) (k := 11) (fun y _ => flow_len y) h
theorem put11 {f : Flow} : putR [.int .u16 0, .int .i64 0, .int .i64 0, .int .i64 0, .int .i64 0, .int .i64 0, .int .i64 0, .int .i64 0, .int .i64 0, .int .i64 0, .int .i64 0] 0 (AV.int .u16 (f.1 : Nat) :: rowF 10 f.2) = AV.int .u16 (f.1 : Nat) :: rowF 10 f.2 := rfl
set_option maxHeartbeats 8000000 in
theorem listedP (K : Nat) (R : List (List Int)) (hK : K ≤ 5) (hR : R.length ≤ 100) (hRk : ∀ r ∈ R, r.length = K) (hRb : ∀ r ∈ R, ∀ x ∈ r, -8 ≤ x ∧ x ≤ 8) (hW : ∀ f ∈ minF R K K, ∀ i, i < K → f.2 i ≤ 65536) :
    PSpec Try.prog 40 [tabV K R] (.tup [lsts (listR K (minF R K K)), .int .i64 0]) := by
  refine PSpec.of_rn 64 SM.ok40 rfl (by (try simp only [noRefs, noRef_net, noRef_sli, noRef_lsts, noRef_arcs, noRef_tns, noRef_tab]) <;> rfl) (by simp only [noRef, noRefs, noRefs_lsts]; rfl) ?_
  have hm := minimalP K R hK hR hRk hRb
  have hl := minF_len R (K := K) (by omega) K (by omega)
  generalize minF R K K = F at *
  have hF1 : ¬ (128 : Int) < F.length := by omega
  simp (config := { maxSteps := 1000000 }) (disch := first | omega | (simp only [List.length_map, List.length_append, List.length_cons, List.length_nil, ints_len] <;> omega)) only [SM.s40, wordsN, Int.reduceGT, wordsR, ne_eq, words, Nat.reduceAdd, Nat.reduceEqDiff, Nat.reduceBEq, ↓reduceIte, reduceCtorEq, SX.exit.injEq, if_true, if_false, Int.reduceAdd, Int.reduceSub, Int.reduceMul, Int.reduceLT, Int.reduceLE, Int.reduceEq, Int.reduceNe, Int.reduceNeg, Int.reduceToNat, Nat.reduceMul, Nat.reduceLT, Nat.reduceSub, Nat.reduceLeDiff]
  refine cp hm ?_
  simp (config := { maxSteps := 1000000 }) (disch := first | omega | (simp only [List.length_map, List.length_append, List.length_cons, List.length_nil, ints_len] <;> omega)) only [hF1, wordsN, Int.reduceGT, wordsR, ne_eq, words, Nat.reduceAdd, Nat.reduceEqDiff, Nat.reduceBEq, ↓reduceIte, reduceCtorEq, SX.exit.injEq, if_true, if_false, Int.reduceAdd, Int.reduceSub, Int.reduceMul, Int.reduceLT, Int.reduceLE, Int.reduceEq, Int.reduceNe, Int.reduceNeg, Int.reduceToNat, Nat.reduceMul, Nat.reduceLT, Nat.reduceSub, Nat.reduceLeDiff]
  refine wS_loopR 100 (fun a : Nat => [(1, .ptr 51 0 0), (5, .sl 50 0 0 a 1), (15, flowsV F), (16, .int .i64 F.length), (17, .int .i64 a)])
    (fun a => [(50, .cells 0 ((listR K (F.take a)).map sli)), (51, .cells 0 [.int .i64 K, .fsl (R.flatMap pad) R.length 10])]) (fun a => a ≤ F.length) (fun a => F.length - a) 0 ?_ (Nat.zero_le _) ?_
  · simp only [List.take_zero, listR, List.map_nil]
    exact ⟨[(50, .nil), (51, .blk 64 0)], rfl, (by repeat (first | exact RO.zero | exact RO.e | refine RO.set rfl ?_)), (by repeat' (first | exact RB.nil | (refine RnL.same ?_; first | rfl | (simp only [noRef, noRefs, noRefs_append, Bool.and_self, Bool.and_true, Bool.true_and, noRefs_flat10, noRefs_ints, noRefs_lsts, noRefs_pad, noRefs_tnC, noRefs_arcC, noRefs_rowF, noRefs_flowC]; done)) | exact RnM.keyM rfl | exact RnL.nil | refine RnL.cons ?_ ?_ | (refine Rn.same ?_; first | rfl | (simp only [noRef, noRefs, noRefs_append, Bool.and_self, Bool.and_true, Bool.true_and, noRefs_flat10, noRefs_ints, noRefs_lsts, noRefs_pad, noRefs_tnC, noRefs_arcC, noRefs_rowF, noRefs_flowC]; done)) | exact Rn.sl (Nat.le_of_ble_eq_true rfl) rfl | exact Rn.ptr (Nat.le_of_ble_eq_true rfl) rfl | exact Rn.map (Nat.le_of_ble_eq_true rfl) rfl | exact Rn.slnil (Nat.le_of_ble_eq_true rfl) rfl | exact Rn.slB (Nat.le_of_ble_eq_true rfl) | exact Rn.ptrB (Nat.le_of_ble_eq_true rfl) | exact Rn.mapB (Nat.le_of_ble_eq_true rfl) | refine RB.newnil rfl rfl ?_ | refine RB.cells rfl rfl rfl ?_ ?_ | refine RB.map rfl rfl rfl ?_ ?_ | refine RB.cellsB rfl rfl ?_ ?_ | refine RB.mapB rfl rfl ?_ ?_)), (by repeat (first | exact RT.nil | (refine RT.cons ?_ ?_; · (first | exact Rn.any | exact Rn.sl (Nat.le_of_ble_eq_true rfl) rfl | exact Rn.ptr (Nat.le_of_ble_eq_true rfl) rfl | exact Rn.map (Nat.le_of_ble_eq_true rfl) rfl | exact Rn.slnil (Nat.le_of_ble_eq_true rfl) rfl | exact Rn.slB (Nat.le_of_ble_eq_true rfl) | exact Rn.ptrB (Nat.le_of_ble_eq_true rfl) | exact Rn.mapB (Nat.le_of_ble_eq_true rfl) | (refine Rn.slot ?_ ?_; (first | rfl | (rw [Int.natCast_add]; rfl)); (first | rfl | (simp only [noRef, noRefs, noRefs_append, Bool.and_self, Bool.and_true, Bool.true_and, noRefs_flat10, noRefs_ints, noRefs_lsts, noRefs_pad, noRefs_tnC, noRefs_arcC, noRefs_rowF, noRefs_flowC]; done))) | (refine Rn.fn ?_ ?_ <;> (repeat' (first | exact RnL.nil | refine RnL.cons ?_ ?_ | exact Rn.same rfl | exact Rn.ptrB (Nat.le_of_ble_eq_true rfl) | exact Rn.ptr (Nat.le_of_ble_eq_true rfl) rfl | exact Rn.slB (Nat.le_of_ble_eq_true rfl) | exact Rn.sl (Nat.le_of_ble_eq_true rfl) rfl)))))))⟩
  intro a ha
  by_cases hlt : a < F.length
  · obtain ⟨f, hf⟩ := get_ex hlt
    have hfm := List.mem_of_getElem? hf
    have hd := flowC_at hf
    have ht11 : ((AV.int .u16 (f.1 : Nat) :: rowF 10 f.2) ++ flowC (F.drop (a + 1))).take 11 = AV.int .u16 (f.1 : Nat) :: rowF 10 f.2 := by rw [← flow_len f, List.take_left']; rfl
    have hl11 : (11 ≤ ((AV.int .u16 (f.1 : Nat) :: rowF 10 f.2) ++ flowC (F.drop (a + 1))).length) = True := by simp only [List.length_append, flow_len]; exact eq_true (by omega)
    have hone : (AV.int .u16 (f.1 : Nat) :: rowF 10 f.2).all AV.one = true := by rw [List.all_cons, one_rowF]; rfl
    have hfl := flow_len f
    have hp := put11 (f := f)
    have hk8 : (8 : Int) * (K : Int) ≤ 1099511627776 := by omega
    have hk1 : (K : Int) ≤ 1099511627776 := by omega
    generalize hfc : (AV.int .u16 (f.1 : Nat) :: rowF 10 f.2) = fc at *
    have hfr : noRefs fc = true := by rw [← hfc]; simp only [noRefs, noRef, noRefs_rowF]; rfl
    have hget : ∀ i, i < K → fc[1 + i]? = some (.int .i64 (f.2 i)) := fun i hi => by rw [← hfc, Nat.add_comm 1 i, List.getElem?_cons_succ]; exact rowF_get _ (by omega)
    have hw := hW f hfm
    have hla : (listR K (F.take a)).length = a := by simp [listR]; omega
    have hls : (listR K (F.take (a + 1))).map sli = (listR K (F.take a)).map sli ++ [sli ((List.range K).map f.2)] := by
      unfold listR
      rw [List.take_add_one, hf, List.map_append, List.map_append]; rfl
    simp (config := { maxSteps := 1000000 }) (disch := first | omega | (simp only [List.length_map, List.length_append, List.length_cons, List.length_nil, ints_len] <;> omega)) only [hlt, hd, ht11, hl11, hfl, hone, hp, hk8, hk1, rowF_zero, wordsN, Int.reduceGT, wordsR, ne_eq, words, Nat.reduceAdd, Nat.reduceEqDiff, Nat.reduceBEq, ↓reduceIte, reduceCtorEq, SX.exit.injEq, if_true, if_false, Int.reduceAdd, Int.reduceSub, Int.reduceMul, Int.reduceLT, Int.reduceLE, Int.reduceEq, Int.reduceNe, Int.reduceNeg, Int.reduceToNat, Nat.reduceMul, Nat.reduceLT, Nat.reduceSub, Nat.reduceLeDiff]
    refine wS_loopR 200 (fun i : Nat => [(1, .ptr 51 0 0), (5, .sl 50 0 0 a 1), (15, flowsV F), (16, .int .i64 F.length), (17, .int .i64 a), (7, .ptr 52 0 0), (8, .sl 53 0 0 K 1), (25, .int .i64 K), (26, .int .i64 i)])
      (fun i => [(50, .cells 0 ((listR K (F.take a)).map sli)), (51, .cells 0 [.int .i64 K, .fsl (R.flatMap pad) R.length 10]), (52, .cells 0 fc), (53, .cells 0 (rowF K fun p => if p < i then f.2 p else 0))]) (fun i => i ≤ K) (fun i => K - i) 0 ?_ (Nat.zero_le _) ?_
    · refine ⟨[(50, .blk 50 0), (51, .blk 51 0), (52, .blk 103 0), (53, .blk 107 0)], rfl, (by repeat (first | exact RO.zero | exact RO.e | refine RO.set rfl ?_)), ?_, (by repeat (first | exact RT.nil | (refine RT.cons ?_ ?_; · (first | exact Rn.any | exact Rn.sl (Nat.le_of_ble_eq_true rfl) rfl | exact Rn.ptr (Nat.le_of_ble_eq_true rfl) rfl | exact Rn.map (Nat.le_of_ble_eq_true rfl) rfl | exact Rn.slnil (Nat.le_of_ble_eq_true rfl) rfl | exact Rn.slB (Nat.le_of_ble_eq_true rfl) | exact Rn.ptrB (Nat.le_of_ble_eq_true rfl) | exact Rn.mapB (Nat.le_of_ble_eq_true rfl) | (refine Rn.slot ?_ ?_; (first | rfl | (rw [Int.natCast_add]; rfl)); (first | rfl | (simp only [noRef, noRefs, noRefs_append, Bool.and_self, Bool.and_true, Bool.true_and, noRefs_flat10, noRefs_ints, noRefs_lsts, noRefs_pad, noRefs_tnC, noRefs_arcC, noRefs_rowF, noRefs_flowC]; done))) | (refine Rn.fn ?_ ?_ <;> (repeat' (first | exact RnL.nil | refine RnL.cons ?_ ?_ | exact Rn.same rfl | exact Rn.ptrB (Nat.le_of_ble_eq_true rfl) | exact Rn.ptr (Nat.le_of_ble_eq_true rfl) rfl | exact Rn.slB (Nat.le_of_ble_eq_true rfl) | exact Rn.sl (Nat.le_of_ble_eq_true rfl) rfl)))))))⟩
      refine RB.cells rfl rfl rfl (RnL.same (noRefs_lsts _)) (RB.cells rfl rfl rfl ?_ (RB.cells rfl rfl rfl (RnL.same hfr) (RB.cells rfl rfl rfl (RnL.eq (rowF_congr fun p _ => if_neg (Nat.not_lt_zero _)) (noRefs_rowF _ _)) RB.nil)))
      repeat' (first | exact RB.nil | (refine RnL.same ?_; first | rfl | (simp only [noRef, noRefs, noRefs_append, Bool.and_self, Bool.and_true, Bool.true_and, noRefs_flat10, noRefs_ints, noRefs_lsts, noRefs_pad, noRefs_tnC, noRefs_arcC, noRefs_rowF, noRefs_flowC]; done)) | exact RnM.keyM rfl | exact RnL.nil | refine RnL.cons ?_ ?_ | (refine Rn.same ?_; first | rfl | (simp only [noRef, noRefs, noRefs_append, Bool.and_self, Bool.and_true, Bool.true_and, noRefs_flat10, noRefs_ints, noRefs_lsts, noRefs_pad, noRefs_tnC, noRefs_arcC, noRefs_rowF, noRefs_flowC]; done)) | exact Rn.sl (Nat.le_of_ble_eq_true rfl) rfl | exact Rn.ptr (Nat.le_of_ble_eq_true rfl) rfl | exact Rn.map (Nat.le_of_ble_eq_true rfl) rfl | exact Rn.slnil (Nat.le_of_ble_eq_true rfl) rfl | exact Rn.slB (Nat.le_of_ble_eq_true rfl) | exact Rn.ptrB (Nat.le_of_ble_eq_true rfl) | exact Rn.mapB (Nat.le_of_ble_eq_true rfl) | refine RB.newnil rfl rfl ?_ | refine RB.cells rfl rfl rfl ?_ ?_ | refine RB.map rfl rfl rfl ?_ ?_ | refine RB.cellsB rfl rfl ?_ ?_ | refine RB.mapB rfl rfl ?_ ?_)
    intro i hi
    by_cases hil : i < K
    · have hi10 : (i : Int) < 10 := by omega
      have hgi := hget i hil
      have hwi : ¬ (65536 : Int) < f.2 i := by have := hw i hil; omega
      have hset : ∀ v, (rowF K fun p => if p < i then f.2 p else 0).set i (.int .i64 v) = rowF K (fun p => if p = i then v else if p < i then f.2 p else 0) := fun v => rowF_set _ v
      have hle : i + 1 ≤ K := by omega
      simp (config := { maxSteps := 1000000 }) (disch := first | omega | (simp only [List.length_map, List.length_append, List.length_cons, List.length_nil, ints_len] <;> omega)) only [hil, hi10, hgi, hwi, hset, hle, rowF_len, wordsN, Int.reduceGT, wordsR, ne_eq, words, Nat.reduceAdd, Nat.reduceEqDiff, Nat.reduceBEq, ↓reduceIte, reduceCtorEq, SX.exit.injEq, if_true, if_false, Int.reduceAdd, Int.reduceSub, Int.reduceMul, Int.reduceLT, Int.reduceLE, Int.reduceEq, Int.reduceNe, Int.reduceNeg, Int.reduceToNat, Nat.reduceMul, Nat.reduceLT, Nat.reduceSub, Nat.reduceLeDiff]
      refine ⟨i + 1, by omega, by omega, ?_⟩
      refine ⟨[(50, .blk 50 0), (51, .blk 51 0), (52, .blk 52 0), (53, .blk 53 0)], rfl, (by repeat (first | exact RO.zero | exact RO.e | refine RO.set rfl ?_)), ?_, (by repeat (first | exact RT.nil | (refine RT.cons ?_ ?_; · (first | exact Rn.any | exact Rn.sl (Nat.le_of_ble_eq_true rfl) rfl | exact Rn.ptr (Nat.le_of_ble_eq_true rfl) rfl | exact Rn.map (Nat.le_of_ble_eq_true rfl) rfl | exact Rn.slnil (Nat.le_of_ble_eq_true rfl) rfl | exact Rn.slB (Nat.le_of_ble_eq_true rfl) | exact Rn.ptrB (Nat.le_of_ble_eq_true rfl) | exact Rn.mapB (Nat.le_of_ble_eq_true rfl) | (refine Rn.slot ?_ ?_; (first | rfl | (rw [Int.natCast_add]; rfl)); (first | rfl | (simp only [noRef, noRefs, noRefs_append, Bool.and_self, Bool.and_true, Bool.true_and, noRefs_flat10, noRefs_ints, noRefs_lsts, noRefs_pad, noRefs_tnC, noRefs_arcC, noRefs_rowF, noRefs_flowC]; done))) | (refine Rn.fn ?_ ?_ <;> (repeat' (first | exact RnL.nil | refine RnL.cons ?_ ?_ | exact Rn.same rfl | exact Rn.ptrB (Nat.le_of_ble_eq_true rfl) | exact Rn.ptr (Nat.le_of_ble_eq_true rfl) rfl | exact Rn.slB (Nat.le_of_ble_eq_true rfl) | exact Rn.sl (Nat.le_of_ble_eq_true rfl) rfl)))))))⟩
      refine RB.cells rfl rfl rfl (RnL.same (noRefs_lsts _)) (RB.cells rfl rfl rfl ?_ (RB.cells rfl rfl rfl (RnL.same hfr) (RB.cells rfl rfl rfl (RnL.eq (rowF_congr fun p _ => ?_) (noRefs_rowF _ _)) RB.nil)))
      rotate_right 1
      · by_cases e : p = i
        · subst e; simp
        · have : (p < i + 1) ↔ (p < i) := by omega
          simp only [this, e, if_false]
      repeat' (first | exact RB.nil | (refine RnL.same ?_; first | rfl | (simp only [noRef, noRefs, noRefs_append, Bool.and_self, Bool.and_true, Bool.true_and, noRefs_flat10, noRefs_ints, noRefs_lsts, noRefs_pad, noRefs_tnC, noRefs_arcC, noRefs_rowF, noRefs_flowC]; done)) | exact RnM.keyM rfl | exact RnL.nil | refine RnL.cons ?_ ?_ | (refine Rn.same ?_; first | rfl | (simp only [noRef, noRefs, noRefs_append, Bool.and_self, Bool.and_true, Bool.true_and, noRefs_flat10, noRefs_ints, noRefs_lsts, noRefs_pad, noRefs_tnC, noRefs_arcC, noRefs_rowF, noRefs_flowC]; done)) | exact Rn.sl (Nat.le_of_ble_eq_true rfl) rfl | exact Rn.ptr (Nat.le_of_ble_eq_true rfl) rfl | exact Rn.map (Nat.le_of_ble_eq_true rfl) rfl | exact Rn.slnil (Nat.le_of_ble_eq_true rfl) rfl | exact Rn.slB (Nat.le_of_ble_eq_true rfl) | exact Rn.ptrB (Nat.le_of_ble_eq_true rfl) | exact Rn.mapB (Nat.le_of_ble_eq_true rfl) | refine RB.newnil rfl rfl ?_ | refine RB.cells rfl rfl rfl ?_ ?_ | refine RB.map rfl rfl rfl ?_ ?_ | refine RB.cellsB rfl rfl ?_ ?_ | refine RB.mapB rfl rfl ?_ ?_)
    · have e : i = K := by omega
      simp (config := { maxSteps := 1000000 }) (disch := first | omega | (simp only [List.length_map, List.length_append, List.length_cons, List.length_nil, ints_len] <;> omega)) only [hil, hlt, wordsN, Int.reduceGT, wordsR, ne_eq, words, Nat.reduceAdd, Nat.reduceEqDiff, Nat.reduceBEq, ↓reduceIte, reduceCtorEq, SX.exit.injEq, if_true, if_false, Int.reduceAdd, Int.reduceSub, Int.reduceMul, Int.reduceLT, Int.reduceLE, Int.reduceEq, Int.reduceNe, Int.reduceNeg, Int.reduceToNat, Nat.reduceMul, Nat.reduceLT, Nat.reduceSub, Nat.reduceLeDiff]
      refine ⟨a + 1, by omega, by omega, ?_⟩
      refine ⟨[(50, .blk 50 1), (51, .blk 51 0)], rfl, (by repeat (first | exact RO.zero | exact RO.e | refine RO.set rfl ?_)), ?_, (by repeat (first | exact RT.nil | (refine RT.cons ?_ ?_; · (first | exact Rn.any | exact Rn.sl (Nat.le_of_ble_eq_true rfl) rfl | exact Rn.ptr (Nat.le_of_ble_eq_true rfl) rfl | exact Rn.map (Nat.le_of_ble_eq_true rfl) rfl | exact Rn.slnil (Nat.le_of_ble_eq_true rfl) rfl | exact Rn.slB (Nat.le_of_ble_eq_true rfl) | exact Rn.ptrB (Nat.le_of_ble_eq_true rfl) | exact Rn.mapB (Nat.le_of_ble_eq_true rfl) | (refine Rn.slot ?_ ?_; (first | rfl | (rw [Int.natCast_add]; rfl)); (first | rfl | (simp only [noRef, noRefs, noRefs_append, Bool.and_self, Bool.and_true, Bool.true_and, noRefs_flat10, noRefs_ints, noRefs_lsts, noRefs_pad, noRefs_tnC, noRefs_arcC, noRefs_rowF, noRefs_flowC]; done))) | (refine Rn.fn ?_ ?_ <;> (repeat' (first | exact RnL.nil | refine RnL.cons ?_ ?_ | exact Rn.same rfl | exact Rn.ptrB (Nat.le_of_ble_eq_true rfl) | exact Rn.ptr (Nat.le_of_ble_eq_true rfl) rfl | exact Rn.slB (Nat.le_of_ble_eq_true rfl) | exact Rn.sl (Nat.le_of_ble_eq_true rfl) rfl)))))))⟩
      rw [hls]
      refine RB.cells rfl rfl rfl (RnL.append (RnL.same (noRefs_lsts _)) (RnL.cons (Rn.fzm rfl rfl rfl (by simp) (by rw [rowF_len, Nat.mul_one]) (RnL.eq ?_ (noRefs_ints _))) RnL.nil)) (RB.cells rfl rfl rfl ?_ RB.nil)
      · show rowF K f.2 = _
        exact rowF_congr fun p hp => (if_pos (by omega)).symm
      · repeat' (first | exact RB.nil | (refine RnL.same ?_; first | rfl | (simp only [noRef, noRefs, noRefs_append, Bool.and_self, Bool.and_true, Bool.true_and, noRefs_flat10, noRefs_ints, noRefs_lsts, noRefs_pad, noRefs_tnC, noRefs_arcC, noRefs_rowF, noRefs_flowC]; done)) | exact RnM.keyM rfl | exact RnL.nil | refine RnL.cons ?_ ?_ | (refine Rn.same ?_; first | rfl | (simp only [noRef, noRefs, noRefs_append, Bool.and_self, Bool.and_true, Bool.true_and, noRefs_flat10, noRefs_ints, noRefs_lsts, noRefs_pad, noRefs_tnC, noRefs_arcC, noRefs_rowF, noRefs_flowC]; done)) | exact Rn.sl (Nat.le_of_ble_eq_true rfl) rfl | exact Rn.ptr (Nat.le_of_ble_eq_true rfl) rfl | exact Rn.map (Nat.le_of_ble_eq_true rfl) rfl | exact Rn.slnil (Nat.le_of_ble_eq_true rfl) rfl | exact Rn.slB (Nat.le_of_ble_eq_true rfl) | exact Rn.ptrB (Nat.le_of_ble_eq_true rfl) | exact Rn.mapB (Nat.le_of_ble_eq_true rfl) | refine RB.newnil rfl rfl ?_ | refine RB.cells rfl rfl rfl ?_ ?_ | refine RB.map rfl rfl rfl ?_ ?_ | refine RB.cellsB rfl rfl ?_ ?_ | refine RB.mapB rfl rfl ?_ ?_)
  · have e : a = F.length := by omega
    subst e
    simp (config := { maxSteps := 1000000 }) (disch := first | omega | (simp only [List.length_map, List.length_append, List.length_cons, List.length_nil, ints_len] <;> omega)) only [hlt, wordsN, Int.reduceGT, wordsR, ne_eq, words, Nat.reduceAdd, Nat.reduceEqDiff, Nat.reduceBEq, ↓reduceIte, reduceCtorEq, SX.exit.injEq, if_true, if_false, Int.reduceAdd, Int.reduceSub, Int.reduceMul, Int.reduceLT, Int.reduceLE, Int.reduceEq, Int.reduceNe, Int.reduceNeg, Int.reduceToNat, Nat.reduceMul, Nat.reduceLT, Nat.reduceSub, Nat.reduceLeDiff]
    refine ⟨.inr trivial, _, rfl, ?_⟩
    refine Rn.tup (RnL.cons ?_ (RnL.same rfl))
    have hlen : (listR K F).length = F.length := by simp [listR]
    show Rn 0 π0 _ (.fsl ((listR K F).map sli) (listR K F).length 1) _
    rw [hlen]
    exact Rn.fz0 rfl (by simp [hlen]) (RnL.same (noRefs_lsts _))
end Go.AM.SN
namespace Go.AM.SN
open Go.Proofs Go.AM.SK
set_option maxRecDepth 100000
set_option linter.unusedSimpArgs false
set_option linter.unusedVariables false
theorem MinimalT (x : Nt) (kind : Int) (K : Nat) (R : List (List Int)) (hT : PSpec Try.prog 39 [netV x, .int .i64 kind] (.tup [tabV K R, .int .i64 0]))
    (hK : K ≤ 5) (hR : R.length ≤ 100) (hRk : ∀ r ∈ R, r.length = K) (hRb : ∀ r ∈ R, ∀ x ∈ r, -8 ≤ x ∧ x ≤ 8) (hW : ∀ f ∈ minF R K K, ∀ i, i < K → f.2 i ≤ 65536) :
    PSpec Try.prog 14 [netV x, .int .i64 kind] (.tup [lsts (listR K (minF R K K)), .int .i64 0]) := by
  refine PSpec.of_rn 64 SM.ok14 rfl (by rw [noRefs, noRef_net]; rfl) (by simp only [noRef, noRefs, noRefs_lsts]; rfl) ?_
  have hl := listedP K R hK hR hRk hRb hW
  simp (config := { maxSteps := 1000000 }) (disch := first | omega | (simp only [List.length_map, List.length_append, List.length_cons, List.length_nil, ints_len] <;> omega)) only [SM.s14, wordsN, Int.reduceGT, wordsR, ne_eq, words, Nat.reduceAdd, Nat.reduceEqDiff, Nat.reduceBEq, ↓reduceIte, reduceCtorEq, SX.exit.injEq, if_true, if_false, Int.reduceAdd, Int.reduceSub, Int.reduceMul, Int.reduceLT, Int.reduceLE, Int.reduceEq, Int.reduceNe, Int.reduceNeg, Int.reduceToNat, Nat.reduceMul, Nat.reduceLT, Nat.reduceSub, Nat.reduceLeDiff]
  refine cp hT ?_
  simp (config := { maxSteps := 1000000 }) (disch := first | omega | (simp only [List.length_map, List.length_append, List.length_cons, List.length_nil, ints_len] <;> omega)) only [wordsN, Int.reduceGT, wordsR, ne_eq, words, Nat.reduceAdd, Nat.reduceEqDiff, Nat.reduceBEq, ↓reduceIte, reduceCtorEq, SX.exit.injEq, if_true, if_false, Int.reduceAdd, Int.reduceSub, Int.reduceMul, Int.reduceLT, Int.reduceLE, Int.reduceEq, Int.reduceNe, Int.reduceNeg, Int.reduceToNat, Nat.reduceMul, Nat.reduceLT, Nat.reduceSub, Nat.reduceLeDiff]
  refine cp hl ?_
  simp (config := { maxSteps := 1000000 }) (disch := first | omega | (simp only [List.length_map, List.length_append, List.length_cons, List.length_nil, ints_len] <;> omega)) only [wordsN, Int.reduceGT, wordsR, ne_eq, words, Nat.reduceAdd, Nat.reduceEqDiff, Nat.reduceBEq, ↓reduceIte, reduceCtorEq, SX.exit.injEq, if_true, if_false, Int.reduceAdd, Int.reduceSub, Int.reduceMul, Int.reduceLT, Int.reduceLE, Int.reduceEq, Int.reduceNe, Int.reduceNeg, Int.reduceToNat, Nat.reduceMul, Nat.reduceLT, Nat.reduceSub, Nat.reduceLeDiff]
  exact ⟨.inr trivial, _, rfl, Rn.same (by simp only [resOf, noRef, noRefs, noRefs_lsts]; rfl)⟩
def covR (F : List Flow) : Nat := F.foldl (fun a f => a ||| f.1) 0
theorem covR_take {F : List Flow} {a : Nat} {f : Flow} (h : F[a]? = some f) : covR (F.take (a + 1)) = covR (F.take a) ||| f.1 := by
  unfold covR
  rw [List.take_add_one, List.foldl_append, h]; rfl
theorem covR_lt {F : List Flow} (h : ∀ f ∈ F, f.1 < 65536) : covR F < 65536 := by
  unfold covR
  have : ∀ (l : List Flow) (a : Nat), (∀ c ∈ l, c.1 < 65536) → a < 65536 → l.foldl (fun a c => a ||| c.1) a < 65536 := by
    intro l
    induction l with
    | nil => intro a _ ha; exact ha
    | cons c l ih =>
      intro a hl ha
      rw [List.foldl_cons]
      exact ih _ (fun c hc => hl c (by simp [hc])) (Nat.or_lt_two_pow (n := 16) ha (hl c (by simp)))
  exact this F 0 h (by decide)
set_option maxHeartbeats 8000000 in
theorem CoveredT (x : Nt) (kind : Int) (K : Nat) (R : List (List Int)) (hT : PSpec Try.prog 39 [netV x, .int .i64 kind] (.tup [tabV K R, .int .i64 0]))
    (hK : K ≤ 5) (hR : R.length ≤ 100) (hRk : ∀ r ∈ R, r.length = K) (hRb : ∀ r ∈ R, ∀ x ∈ r, -8 ≤ x ∧ x ≤ 8) :
    PSpec Try.prog 15 [netV x, .int .i64 kind] (.tup [.bool (decide (covR (minF R K K) = 2 ^ K - 1)), .int .i64 0]) := by
  refine PSpec.of_rn 64 SM.ok15 rfl (by rw [noRefs, noRef_net]; rfl) rfl ?_
  have hm := minimalP K R hK hR hRk hRb
  have hl := minF_len R (K := K) (by omega) K (by omega)
  have hs := minF_sup R (K := K) (by omega) K (by omega)
  generalize minF R K K = F at *
  have hsh := shl16 (c := K) (k := .i64) (by omega)
  have h1 := shl_lt (c := K) (by omega)
  have e2 : 1 <<< K = 2 ^ K := by rw [Nat.shiftLeft_eq, Nat.one_mul]
  have h2 : 0 < 2 ^ K := Nat.two_pow_pos K
  rw [e2] at hsh h1
  generalize 2 ^ K = p at *
  simp (config := { maxSteps := 1000000 }) (disch := first | omega | (simp only [List.length_map, List.length_append, List.length_cons, List.length_nil, ints_len] <;> omega)) only [SM.s15, wordsN, Int.reduceGT, wordsR, ne_eq, words, Nat.reduceAdd, Nat.reduceEqDiff, Nat.reduceBEq, ↓reduceIte, reduceCtorEq, SX.exit.injEq, if_true, if_false, Int.reduceAdd, Int.reduceSub, Int.reduceMul, Int.reduceLT, Int.reduceLE, Int.reduceEq, Int.reduceNe, Int.reduceNeg, Int.reduceToNat, Nat.reduceMul, Nat.reduceLT, Nat.reduceSub, Nat.reduceLeDiff]
  refine cp hT ?_
  simp (config := { maxSteps := 1000000 }) (disch := first | omega | (simp only [List.length_map, List.length_append, List.length_cons, List.length_nil, ints_len] <;> omega)) only [wordsN, Int.reduceGT, wordsR, ne_eq, words, Nat.reduceAdd, Nat.reduceEqDiff, Nat.reduceBEq, ↓reduceIte, reduceCtorEq, SX.exit.injEq, if_true, if_false, Int.reduceAdd, Int.reduceSub, Int.reduceMul, Int.reduceLT, Int.reduceLE, Int.reduceEq, Int.reduceNe, Int.reduceNeg, Int.reduceToNat, Nat.reduceMul, Nat.reduceLT, Nat.reduceSub, Nat.reduceLeDiff]
  refine cp hm ?_
  simp (config := { maxSteps := 1000000 }) (disch := first | omega | (simp only [List.length_map, List.length_append, List.length_cons, List.length_nil, ints_len] <;> omega)) only [wordsN, Int.reduceGT, wordsR, ne_eq, words, Nat.reduceAdd, Nat.reduceEqDiff, Nat.reduceBEq, ↓reduceIte, reduceCtorEq, SX.exit.injEq, if_true, if_false, Int.reduceAdd, Int.reduceSub, Int.reduceMul, Int.reduceLT, Int.reduceLE, Int.reduceEq, Int.reduceNe, Int.reduceNeg, Int.reduceToNat, Nat.reduceMul, Nat.reduceLT, Nat.reduceSub, Nat.reduceLeDiff]
  refine wS_loopR 100 (fun a : Nat => [(6, .ptr 51 0 0), (8, .int .u16 (covR (F.take a) : Nat)), (21, flowsV F), (22, .int .i64 F.length), (23, .int .i64 a)])
    (fun a => [(51, .cells 0 [.int .i64 K, .fsl (R.flatMap pad) R.length 10])]) (fun a => a ≤ F.length) (fun a => F.length - a) 0 ?_ (Nat.zero_le _) ?_
  · exact ⟨[(51, .blk 73 0)], rfl, (by repeat (first | exact RO.zero | exact RO.e | refine RO.set rfl ?_)), (by repeat' (first | exact RB.nil | (refine RnL.same ?_; first | rfl | (simp only [noRef, noRefs, noRefs_append, Bool.and_self, Bool.and_true, Bool.true_and, noRefs_flat10, noRefs_ints, noRefs_lsts, noRefs_pad, noRefs_tnC, noRefs_arcC, noRefs_rowF, noRefs_flowC, noRef_tab]; done)) | exact RnM.keyM rfl | exact RnL.nil | refine RnL.cons ?_ ?_ | (refine Rn.same ?_; first | rfl | (simp only [noRef, noRefs, noRefs_append, Bool.and_self, Bool.and_true, Bool.true_and, noRefs_flat10, noRefs_ints, noRefs_lsts, noRefs_pad, noRefs_tnC, noRefs_arcC, noRefs_rowF, noRefs_flowC, noRef_tab]; done)) | exact Rn.sl (Nat.le_of_ble_eq_true rfl) rfl | exact Rn.ptr (Nat.le_of_ble_eq_true rfl) rfl | exact Rn.map (Nat.le_of_ble_eq_true rfl) rfl | exact Rn.slnil (Nat.le_of_ble_eq_true rfl) rfl | exact Rn.slB (Nat.le_of_ble_eq_true rfl) | exact Rn.ptrB (Nat.le_of_ble_eq_true rfl) | exact Rn.mapB (Nat.le_of_ble_eq_true rfl) | refine RB.newnil rfl rfl ?_ | refine RB.cells rfl rfl rfl ?_ ?_ | refine RB.map rfl rfl rfl ?_ ?_ | refine RB.cellsB rfl rfl ?_ ?_ | refine RB.mapB rfl rfl ?_ ?_)), (by repeat (first | exact RT.nil | (refine RT.cons ?_ ?_; · (first | exact Rn.any | exact Rn.sl (Nat.le_of_ble_eq_true rfl) rfl | exact Rn.ptr (Nat.le_of_ble_eq_true rfl) rfl | exact Rn.map (Nat.le_of_ble_eq_true rfl) rfl | exact Rn.slnil (Nat.le_of_ble_eq_true rfl) rfl | exact Rn.slB (Nat.le_of_ble_eq_true rfl) | exact Rn.ptrB (Nat.le_of_ble_eq_true rfl) | exact Rn.mapB (Nat.le_of_ble_eq_true rfl) | (refine Rn.slot ?_ ?_; (first | rfl | (rw [Int.natCast_add]; rfl)); (first | rfl | (simp only [noRef, noRefs, noRefs_append, Bool.and_self, Bool.and_true, Bool.true_and, noRefs_flat10, noRefs_ints, noRefs_lsts, noRefs_pad, noRefs_tnC, noRefs_arcC, noRefs_rowF, noRefs_flowC, noRef_tab]; done))) | (refine Rn.fn ?_ ?_ <;> (repeat' (first | exact RnL.nil | refine RnL.cons ?_ ?_ | exact Rn.same rfl | exact Rn.ptrB (Nat.le_of_ble_eq_true rfl) | exact Rn.ptr (Nat.le_of_ble_eq_true rfl) rfl | exact Rn.slB (Nat.le_of_ble_eq_true rfl) | exact Rn.sl (Nat.le_of_ble_eq_true rfl) rfl)))))))⟩
  intro a ha
  by_cases hlt : a < F.length
  · obtain ⟨f, hf⟩ := get_ex hlt
    have hfm := List.mem_of_getElem? hf
    have hd := flowC_at hf
    have hor := or16 (covR_lt fun f hf => hs f (List.mem_of_mem_take hf) : covR (F.take a) < 65536) (hs f hfm)
    have ht11 : ((AV.int .u16 (f.1 : Nat) :: rowF 10 f.2) ++ flowC (F.drop (a + 1))).take 11 = AV.int .u16 (f.1 : Nat) :: rowF 10 f.2 := by rw [← flow_len f, List.take_left']; rfl
    have hl11 : (11 ≤ ((AV.int .u16 (f.1 : Nat) :: rowF 10 f.2) ++ flowC (F.drop (a + 1))).length) = True := by simp only [List.length_append, flow_len]; exact eq_true (by omega)
    have hone : (AV.int .u16 (f.1 : Nat) :: rowF 10 f.2).all AV.one = true := by rw [List.all_cons, one_rowF]; rfl
    have hfl := flow_len f
    have hp := put11 (f := f)
    have h0 : (AV.int .u16 (f.1 : Nat) :: rowF 10 f.2)[0]? = some (.int .u16 (f.1 : Nat)) := rfl
    generalize hfc : (AV.int .u16 (f.1 : Nat) :: rowF 10 f.2) = fc at *
    simp (config := { maxSteps := 1000000 }) (disch := first | omega | (simp only [List.length_map, List.length_append, List.length_cons, List.length_nil, ints_len] <;> omega)) only [hlt, hd, ht11, hl11, hfl, hone, hp, h0, hor, wordsN, Int.reduceGT, wordsR, ne_eq, words, Nat.reduceAdd, Nat.reduceEqDiff, Nat.reduceBEq, ↓reduceIte, reduceCtorEq, SX.exit.injEq, if_true, if_false, Int.reduceAdd, Int.reduceSub, Int.reduceMul, Int.reduceLT, Int.reduceLE, Int.reduceEq, Int.reduceNe, Int.reduceNeg, Int.reduceToNat, Nat.reduceMul, Nat.reduceLT, Nat.reduceSub, Nat.reduceLeDiff]
    refine ⟨a + 1, by omega, by omega, ?_⟩
    rw [covR_take hf]
    exact ⟨[(51, .blk 51 0)], rfl, (by repeat (first | exact RO.zero | exact RO.e | refine RO.set rfl ?_)), (by repeat' (first | exact RB.nil | (refine RnL.same ?_; first | rfl | (simp only [noRef, noRefs, noRefs_append, Bool.and_self, Bool.and_true, Bool.true_and, noRefs_flat10, noRefs_ints, noRefs_lsts, noRefs_pad, noRefs_tnC, noRefs_arcC, noRefs_rowF, noRefs_flowC, noRef_tab]; done)) | exact RnM.keyM rfl | exact RnL.nil | refine RnL.cons ?_ ?_ | (refine Rn.same ?_; first | rfl | (simp only [noRef, noRefs, noRefs_append, Bool.and_self, Bool.and_true, Bool.true_and, noRefs_flat10, noRefs_ints, noRefs_lsts, noRefs_pad, noRefs_tnC, noRefs_arcC, noRefs_rowF, noRefs_flowC, noRef_tab]; done)) | exact Rn.sl (Nat.le_of_ble_eq_true rfl) rfl | exact Rn.ptr (Nat.le_of_ble_eq_true rfl) rfl | exact Rn.map (Nat.le_of_ble_eq_true rfl) rfl | exact Rn.slnil (Nat.le_of_ble_eq_true rfl) rfl | exact Rn.slB (Nat.le_of_ble_eq_true rfl) | exact Rn.ptrB (Nat.le_of_ble_eq_true rfl) | exact Rn.mapB (Nat.le_of_ble_eq_true rfl) | refine RB.newnil rfl rfl ?_ | refine RB.cells rfl rfl rfl ?_ ?_ | refine RB.map rfl rfl rfl ?_ ?_ | refine RB.cellsB rfl rfl ?_ ?_ | refine RB.mapB rfl rfl ?_ ?_)), (by repeat (first | exact RT.nil | (refine RT.cons ?_ ?_; · (first | exact Rn.any | exact Rn.sl (Nat.le_of_ble_eq_true rfl) rfl | exact Rn.ptr (Nat.le_of_ble_eq_true rfl) rfl | exact Rn.map (Nat.le_of_ble_eq_true rfl) rfl | exact Rn.slnil (Nat.le_of_ble_eq_true rfl) rfl | exact Rn.slB (Nat.le_of_ble_eq_true rfl) | exact Rn.ptrB (Nat.le_of_ble_eq_true rfl) | exact Rn.mapB (Nat.le_of_ble_eq_true rfl) | (refine Rn.slot ?_ ?_; (first | rfl | (rw [Int.natCast_add]; rfl)); (first | rfl | (simp only [noRef, noRefs, noRefs_append, Bool.and_self, Bool.and_true, Bool.true_and, noRefs_flat10, noRefs_ints, noRefs_lsts, noRefs_pad, noRefs_tnC, noRefs_arcC, noRefs_rowF, noRefs_flowC, noRef_tab]; done))) | (refine Rn.fn ?_ ?_ <;> (repeat' (first | exact RnL.nil | refine RnL.cons ?_ ?_ | exact Rn.same rfl | exact Rn.ptrB (Nat.le_of_ble_eq_true rfl) | exact Rn.ptr (Nat.le_of_ble_eq_true rfl) rfl | exact Rn.slB (Nat.le_of_ble_eq_true rfl) | exact Rn.sl (Nat.le_of_ble_eq_true rfl) rfl)))))))⟩
  · have e : a = F.length := by omega
    subst e
    have hcl := covR_lt hs
    rw [List.take_length]
    simp (config := { maxSteps := 1000000 }) (disch := first | omega | (simp only [List.length_map, List.length_append, List.length_cons, List.length_nil, ints_len] <;> omega)) only [hlt, hsh, wordsN, Int.reduceGT, wordsR, ne_eq, words, Nat.reduceAdd, Nat.reduceEqDiff, Nat.reduceBEq, ↓reduceIte, reduceCtorEq, SX.exit.injEq, if_true, if_false, Int.reduceAdd, Int.reduceSub, Int.reduceMul, Int.reduceLT, Int.reduceLE, Int.reduceEq, Int.reduceNe, Int.reduceNeg, Int.reduceToNat, Nat.reduceMul, Nat.reduceLT, Nat.reduceSub, Nat.reduceLeDiff]
    have e3 : (((covR F : Nat) : Int) = (p : Int) - 1) ↔ (covR F = p - 1) := by omega
    simp only [e3]
    exact ⟨.inr trivial, _, rfl, Rn.same rfl⟩
end Go.AM.SN
namespace Go.AM.SN
open Go.Proofs Go.AM.SK
set_option linter.unusedSimpArgs false
set_option linter.unusedVariables false
theorem visit_mem {R : List (List Int)} {F : List Flow} {s : List Nat} {f : Flow} (h : f ∈ visitR R F s) : f ∈ F ∨ ∃ l, kerR R s = some l ∧ (∀ x ∈ l, 0 ≤ x) ∧ f = (supOf s, scat s l) := by
  unfold visitR at h
  split at h
  · exact .inl h
  · split at h
    · exact .inl h
    · rename_i l hk
      split at h
      · exact .inl h
      · rename_i hn
        rcases List.mem_append.1 h with h | h
        · exact .inl h
        · simp only [List.mem_singleton] at h
          refine .inr ⟨l, hk, fun x hx => ?_, h⟩
          rw [Bool.not_eq_true, List.any_eq_false] at hn
          have := hn x hx
          simpa using this
theorem foldV_mem {R : List (List Int)} : ∀ {S : List (List Nat)} {F : List Flow} {f : Flow}, f ∈ foldV R F S → f ∈ F ∨ ∃ s ∈ S, ∃ l, kerR R s = some l ∧ (∀ x ∈ l, 0 ≤ x) ∧ f = (supOf s, scat s l)
  | [], F, f, h => .inl h
  | s :: S, F, f, h => by
    rcases foldV_mem (S := S) (F := visitR R F s) h with h | ⟨t, ht, h⟩
    · rcases visit_mem h with h | h
      · exact .inl h
      · exact .inr ⟨s, by simp, h⟩
    · exact .inr ⟨t, by simp [ht], h⟩
theorem minF_mem {R : List (List Int)} {K : Nat} : ∀ {m : Nat} {f : Flow}, f ∈ minF R K m → ∃ k s l, 0 < k ∧ k ≤ m ∧ s ∈ setsF k K 0 ∧ kerR R s = some l ∧ (∀ x ∈ l, 0 ≤ x) ∧ f = (supOf s, scat s l)
  | 0, f, h => by simp [minF] at h
  | m + 1, f, h => by
    rcases foldV_mem h with h | ⟨s, hs, l, h1, h2, h3⟩
    · obtain ⟨k, s, l, a, b, c⟩ := minF_mem h
      exact ⟨k, s, l, a, by omega, c⟩
    · exact ⟨m + 1, s, l, by omega, by omega, hs, h1, h2, h3⟩
theorem scat_not {s : List Nat} {l : List Int} {c : Nat} (h : c ∉ s) (hl : l.length = s.length) : scat s l c = 0 := by
  have : ∀ i, i ≤ s.length → scat (s.take i) (l.take i) c = 0 := by
    intro i
    induction i with
    | zero => intro _; simp [scat]
    | succ i ih =>
      intro hi
      obtain ⟨d, hd⟩ := get_ex (l := s) (i := i) (by omega)
      obtain ⟨x, hx⟩ := get_ex (l := l) (i := i) (by omega)
      rw [scat_take hd hx]
      have hne : c ≠ d := fun e => h (e ▸ List.mem_of_getElem? hd)
      simp only [if_neg hne]
      exact ih (by omega)
  have h1 := this s.length (Nat.le_refl _)
  rw [List.take_length, ← hl, List.take_length] at h1; exact h1
theorem scat_at {s : List Nat} {l : List Int} {p c : Nat} {x : Int} (hs : s.Pairwise (· < ·)) (hl : l.length = s.length) (hc : s[p]? = some c) (hx : l[p]? = some x) : scat s l c = x := by
  have : ∀ i, i ≤ s.length → p < i → scat (s.take i) (l.take i) c = x := by
    intro i
    induction i with
    | zero => intro _ h; omega
    | succ i ih =>
      intro hi hp
      obtain ⟨d, hd⟩ := get_ex (l := s) (i := i) (by omega)
      obtain ⟨y, hy⟩ := get_ex (l := l) (i := i) (by omega)
      rw [scat_take hd hy]
      by_cases e : p = i
      · subst e
        rw [hc] at hd; cases hd
        rw [hx] at hy; cases hy
        simp
      · have hlt : p < i := by omega
        have hne : c ≠ d := by
          obtain ⟨h1, e1⟩ := List.getElem?_eq_some_iff.1 hc
          obtain ⟨h2, e2⟩ := List.getElem?_eq_some_iff.1 hd
          have := List.pairwise_iff_getElem.1 hs p i h1 h2 hlt
          omega
        simp only [if_neg hne]
        exact ih (by omega) hlt
  have hp := (List.getElem?_eq_some_iff.1 hc).1
  have h1 := this s.length (Nat.le_refl _) hp
  rw [List.take_length, ← hl, List.take_length] at h1; exact h1
theorem scat_cases (s : List Nat) (l : List Int) (c : Nat) : scat s l c = 0 ∨ scat s l c ∈ l := by
  unfold scat
  have : ∀ (z : List (Nat × Int)) (f : Nat → Int), (f c = 0 ∨ f c ∈ l) → (∀ p ∈ z, p.2 ∈ l) → ((z.foldl (fun f p => fun c => if c = p.1 then p.2 else f c) f) c = 0 ∨ (z.foldl (fun f p => fun c => if c = p.1 then p.2 else f c) f) c ∈ l) := by
    intro z
    induction z with
    | nil => intro f hf _; exact hf
    | cons p z ih =>
      intro f hf hz
      rw [List.foldl_cons]
      refine ih _ ?_ fun q hq => hz q (by simp [hq])
      by_cases e : c = p.1
      · simp only [if_pos e]; exact .inr (hz p (by simp))
      · simp only [if_neg e]; exact hf
  exact this _ _ (.inl rfl) fun p hp => (List.of_mem_zip hp).2
theorem sumN_upd (a f : Nat → Int) (c : Nat) (x : Int) (h0 : f c = 0) : ∀ n, sumN (fun j => a j * (if j = c then x else f j)) n = sumN (fun j => a j * f j) n + if c < n then a c * x else 0
  | 0 => by simp [sumN]
  | n + 1 => by
    have ih := sumN_upd a f c x h0 n
    simp only [sumN, ih]
    by_cases e : n = c
    · subst e
      simp [h0]
    · have e' : ¬ c = n := fun h => e h.symm
      by_cases h : c < n
      · rw [if_pos h, if_neg e, if_pos (by omega)]; omega
      · rw [if_neg h, if_neg e, if_neg (by omega)]; omega
theorem scat_sum {s : List Nat} {l : List Int} {r : List Int} (hs : s.Pairwise (· < ·)) (hl : l.length = s.length) (hc : ∀ c ∈ s, c < r.length) : rowSum r ((List.range r.length).map (scat s l)) = rowSum (rrow s r) l := by
  have : ∀ i, i ≤ s.length → rowSum r ((List.range r.length).map (scat (s.take i) (l.take i))) = rowSum ((rrow s r).take i) (l.take i) := by
    intro i
    induction i with
    | zero =>
      intro _
      rw [rowSum_sumN]
      have : ∀ n, sumN (fun c => r.getD c 0 * scat (s.take 0) (l.take 0) c) n = 0 := by
        intro n
        induction n with
        | zero => rfl
        | succ n ih => simp only [sumN, ih]; simp [scat]
      rw [this]; simp [rowSum]
    | succ i ih =>
      intro hi
      obtain ⟨d, hd⟩ := get_ex (l := s) (i := i) (by omega)
      obtain ⟨y, hy⟩ := get_ex (l := l) (i := i) (by omega)
      have h0 : scat (s.take i) (l.take i) d = 0 := by
        refine scat_not ?_ (by simp [hl])
        intro hm
        obtain ⟨j, hj, hjd⟩ := mem_at hm
        have hjlt : j < i := by
          have := (List.getElem?_eq_some_iff.1 hj).1
          rw [List.length_take] at this; omega
        rw [List.getElem?_take_of_lt hjlt] at hj
        obtain ⟨h1, e1⟩ := List.getElem?_eq_some_iff.1 hj
        obtain ⟨h2, e2⟩ := List.getElem?_eq_some_iff.1 hd
        have := List.pairwise_iff_getElem.1 hs j i h1 h2 hjlt
        omega
      have ih := ih (by omega)
      rw [rowSum_sumN] at ih
      rw [rowSum_sumN, scat_take hd hy, sumN_upd _ _ _ _ h0, if_pos (hc d (List.mem_of_getElem? hd)), ih]
      have hr : (rrow s r)[i]? = some (r.getD d 0) := by simp [rrow, hd]
      rw [rowSum_take hr hy]
  have h1 := this s.length (Nat.le_refl _)
  have hrl : (rrow s r).length = s.length := by simp [rrow]
  rw [List.take_length, ← hl, List.take_length, hl, ← hrl, List.take_length] at h1
  exact h1
theorem minF_prop {R : List (List Int)} {K : Nat} (hK : K ≤ 5) (hRk : ∀ r ∈ R, r.length = K) (hB : ∀ r ∈ R, ∀ x ∈ r, x.natAbs ≤ 2) {f : Flow} (h : f ∈ minF R K K) :
    (∀ i, 0 ≤ f.2 i ∧ f.2 i ≤ 384) ∧ (∀ r ∈ R, rowSum r ((List.range K).map f.2) = 0) ∧ ∃ i, i < K ∧ f.2 i ≠ 0 := by
  obtain ⟨k, s, l, hk0, hkm, hs, hker, hl0, rfl⟩ := minF_mem h
  obtain ⟨hsl, hsc, hsp⟩ := sets_props K (by omega) k (by omega) s hs
  obtain ⟨hll, hlx, hz⟩ := ker_prop (by omega) (by omega) hB hker
  refine ⟨fun i => ?_, fun r hr => ?_, ?_⟩
  · rcases scat_cases s l i with e | e
    · dsimp only; rw [e]; omega
    · have := (hlx _ e).2; have := hl0 _ e; dsimp only; omega
  · have := scat_sum (r := r) hsp hll (fun c hc => by rw [hRk r hr]; exact hsc c hc)
    rw [hRk r hr] at this
    rw [this]; exact hz r hr
  · obtain ⟨c, hc⟩ := get_ex (l := s) (i := 0) (by omega)
    obtain ⟨x, hx⟩ := get_ex (l := l) (i := 0) (by omega)
    refine ⟨c, hsc c (List.mem_of_getElem? hc), ?_⟩
    dsimp only
    rw [scat_at hsp hll hc hx]
    exact (hlx x (List.mem_of_getElem? hx)).1
abbrev minL (R : List (List Int)) (K : Nat) : List (List Int) := listR K (minF R K K)
theorem minL_prop {R : List (List Int)} {K : Nat} (hK : K ≤ 5) (hRk : ∀ r ∈ R, r.length = K) (hB : ∀ r ∈ R, ∀ x ∈ r, x.natAbs ≤ 2) {w : List Int} (h : w ∈ minL R K) :
    w.length = K ∧ (∀ x ∈ w, 0 ≤ x ∧ x ≤ 384) ∧ (∀ r ∈ R, rowSum r w = 0) ∧ w.all (· == 0) = false := by
  unfold minL listR at h
  obtain ⟨f, hf, rfl⟩ := List.mem_map.1 h
  obtain ⟨h1, h2, i, hi, h3⟩ := minF_prop hK hRk hB hf
  refine ⟨by simp, fun x hx => ?_, h2, ?_⟩
  · obtain ⟨j, _, rfl⟩ := List.mem_map.1 hx; exact h1 j
  · rw [Bool.eq_false_iff]
    intro ha
    have := List.all_eq_true.1 ha (f.2 i) (List.mem_map.2 ⟨i, by simpa using hi, rfl⟩)
    exact h3 (by simpa using this)
theorem minL_len {R : List (List Int)} {K : Nat} (hK : K ≤ 5) : (minL R K).length ≤ 50 := by
  have := minF_len R (K := K) (by omega) K (by omega)
  simp only [minL, listR, List.length_map]; omega
end Go.AM.SN
namespace Go.AM.SN
open Go.Proofs Go.AM.SK
set_option linter.unusedSimpArgs false
set_option linter.unusedVariables false
structure Tiny (x : Nt) : Prop where
  places : x.ini.length ≤ 5
  trans : x.tr.length ≤ 5
  two : ∀ p, ∀ y ∈ incR x p, y.natAbs ≤ 2
theorem weightR_cases (l : List (Int × Int)) (p : Int) : weightR l p = 0 ∨ ∃ a ∈ l, weightR l p = a.2 := by
  induction l with
  | nil => exact .inl rfl
  | cons a l ih =>
    unfold weightR
    split
    · exact .inr ⟨a, by simp, rfl⟩
    · rcases ih with h | ⟨b, hb, h⟩
      · exact .inl h
      · exact .inr ⟨b, by simp [hb], h⟩
theorem arcR_two (row : List Nat) (f : Nat → Nat) (n : Nat) (hf : ∀ k, k < 9 → f k ≤ 2) (p : Int) : 0 ≤ weightR (arcR row f n) p ∧ weightR (arcR row f n) p ≤ 2 := by
  rcases weightR_cases (arcR row f n) p with h | ⟨a, ha, h⟩
  · rw [h]; omega
  · obtain ⟨q, _, _, h2, _⟩ := arcR_mem ha
    have := hf (row.getD q 0 % 9) (Nat.mod_lt _ (by decide))
    rw [h, h2]; omega
theorem mkN_tiny (s : Sm) : Tiny (mkN s) where
  places := by rw [mkN_places]; unfold plN; omega
  trans := by rw [mkN_trans]; omega
  two := fun p y hy => by
    simp only [incR, mkN, trR, List.map_map, List.mem_map, List.mem_range] at hy
    obtain ⟨k, _, rfl⟩ := hy
    have h1 := arcR_two (s.mv.getD k []) (· % 3) (plN s) (fun k _ => by show k % 3 ≤ 2; omega) p
    have h2 := arcR_two (s.mv.getD k []) (· / 3) (plN s) (fun k _ => by show k / 3 ≤ 2; omega) p
    simp only [Function.comp]
    omega
theorem tab_two {x : Nt} (ht : Tiny x) (kind : Int) : ∀ r ∈ tabR x kind, ∀ y ∈ r, y.natAbs ≤ 2 := by
  refine tabR_all kind (q := fun r => ∀ y ∈ r, y.natAbs ≤ 2) ht.two fun t y hy => ?_
  simp only [colR, List.mem_map] at hy
  obtain ⟨p, _, rfl⟩ := hy
  rw [List.getD_eq_getElem?_getD]
  cases hk : (incR x p)[t]? with
  | none => simp
  | some z => simpa using ht.two p z (List.mem_of_getElem? hk)
theorem tabC_five {x : Nt} (ht : Tiny x) (kind : Int) : tabC x kind ≤ 5 := by
  have := ht.places; have := ht.trans
  unfold tabC; split <;> omega
theorem tabR_cnt {x : Nt} (ht : Tiny x) (kind : Int) : (tabR x kind).length ≤ 5 := by
  have := ht.places; have := ht.trans
  unfold tabR; split <;> simp [colM, incM] <;> omega
abbrev minN (x : Nt) (kind : Int) : List (List Int) := minL (tabR x kind) (tabC x kind)
theorem MinimalN (x : Nt) (ho : NetOk x) (ht : Tiny x) (kind : Int) (hk : kind = 1 ∨ kind = 2) : PSpec Try.prog 14 [netV x, .int .i64 kind] (.tup [lsts (minN x kind), .int .i64 0]) := by
  have h2 := tab_two ht kind
  refine MinimalT x kind _ _ (newTable x ho kind hk) (tabC_five ht kind) (by have := tabR_cnt ht kind; omega) (tabR_len x kind) (fun r hr y hy => by have := h2 r hr y hy; omega) fun f hf i _ => ?_
  have := (minF_prop (tabC_five ht kind) (tabR_len x kind) h2 hf).1 i
  omega
theorem minN_prop {x : Nt} (ht : Tiny x) (kind : Int) {w : List Int} (h : w ∈ minN x kind) : w.length = tabC x kind ∧ (∀ y ∈ w, 0 ≤ y ∧ y ≤ 384) ∧ (∀ r ∈ tabR x kind, rowSum r w = 0) ∧ w.all (· == 0) = false :=
  minL_prop (tabC_five ht kind) (tabR_len x kind) (tab_two ht kind) h
theorem minN_len {x : Nt} (ht : Tiny x) (kind : Int) : (minN x kind).length ≤ 50 := minL_len (tabC_five ht kind)
def tAt (x : Nt) (i : Nat) : Tn := x.tr.getD i ⟨0, [], []⟩
theorem weightR_append (a b : List (Int × Int)) (p : Int) : weightR (a ++ b) p = if a.any (fun c => decide (c.1 = p)) = true then weightR a p else weightR b p := by
  induction a with
  | nil => rfl
  | cons c a ih =>
    rw [List.cons_append, weightR, weightR, ih, List.any_cons]
    by_cases h : c.1 = p
    · simp [h]
    · simp only [h, if_false, decide_false, Bool.false_or]
theorem weightR_no {l : List (Int × Int)} {p : Int} (h : (l.any fun c => decide (c.1 = p)) = false) : weightR l p = 0 := by
  induction l with
  | nil => rfl
  | cons c l ih =>
    simp only [List.any_cons, Bool.or_eq_false_iff, decide_eq_false_iff_not] at h
    rw [weightR, if_neg h.1]; exact ih h.2
theorem tAt_mem {x : Nt} {i : Nat} (h : i < x.tr.length) : x.tr[i]? = some (tAt x i) := by
  unfold tAt
  rw [List.getD_eq_getElem?_getD, List.getElem?_eq_getElem h]; rfl
end Go.AM.SN
namespace Go.AM.SN
open Go.Proofs
set_option linter.unusedSimpArgs false
set_option linter.unusedVariables false
theorem wErr_zero {w : List Int} {K : Nat} (hl : w.length = K) (h : ∀ y ∈ w, okT y) : wErr w K = 0 := by
  unfold wErr
  rw [if_pos hl, if_neg]
  intro ha
  obtain ⟨y, hy, hb⟩ := List.any_eq_true.1 ha
  have := h y hy
  simp only [badW, decide_eq_true_eq] at hb
  unfold okT at this; omega
theorem ArcsOk.pw {l : List (Int × Int)} {n : Int} (h : ArcsOk l n) : l.Pairwise fun a b => a.1 < b.1 := by
  rw [List.pairwise_iff_getElem]
  have key : ∀ d i, (hi : i < l.length) → (hj : i + 1 + d < l.length) → l[i].1 < l[i + 1 + d].1 := by
    intro d
    induction d with
    | zero => intro i hi hj; exact h.up i _ _ (List.getElem?_eq_getElem hi) (List.getElem?_eq_getElem hj)
    | succ d ih =>
      intro i hi hj
      have h1 := ih i hi (by omega)
      have h2 := h.up (i + 1 + d) _ _ (List.getElem?_eq_getElem (show i + 1 + d < l.length by omega)) (List.getElem?_eq_getElem (show i + 1 + d + 1 < l.length by omega))
      exact Int.lt_trans h1 h2
  intro i j hi hj hij
  obtain ⟨d, rfl⟩ : ∃ d, j = i + 1 + d := ⟨j - i - 1, by omega⟩
  exact key d i hi hj
theorem weightR_take {l : List (Int × Int)} {i : Nat} {a : Int × Int} (hp : l.Pairwise fun a b => a.1 < b.1) (ha : l[i]? = some a) (p : Int) : weightR (l.take (i + 1)) p = if p = a.1 then a.2 else weightR (l.take i) p := by
  rw [List.take_add_one, ha, weightR_append]
  show (if _ then _ else weightR [a] p) = _
  by_cases hany : ((l.take i).any fun c => decide (c.1 = p)) = true
  · rw [if_pos hany]
    obtain ⟨c, hc, hd⟩ := List.any_eq_true.1 hany
    have hd := of_decide_eq_true hd
    have hlt : c.1 < a.1 := by
      obtain ⟨k, hk, hkl⟩ := mem_at hc
      rw [List.length_take] at hkl
      rw [List.getElem?_take_of_lt (by omega)] at hk
      obtain ⟨h1, e1⟩ := List.getElem?_eq_some_iff.1 hk
      obtain ⟨h2, e2⟩ := List.getElem?_eq_some_iff.1 ha
      have := List.pairwise_iff_getElem.1 hp k i h1 h2 (by omega)
      rw [e1, e2] at this; exact this
    rw [if_neg (by omega)]
  · have hz : weightR (l.take i) p = 0 := weightR_no (Bool.eq_false_iff.2 hany)
    rw [if_neg hany, hz]
    simp only [weightR]
    by_cases e : a.1 = p
    · rw [if_pos e, if_pos e.symm]
    · rw [if_neg e, if_neg (fun h => e h.symm)]
theorem weightR_before {l : List (Int × Int)} {i : Nat} {a : Int × Int} (hp : l.Pairwise fun a b => a.1 < b.1) (ha : l[i]? = some a) : weightR (l.take i) a.1 = 0 := by
  refine weightR_no ?_
  rw [List.any_eq_false]
  intro c hc hd
  have hd := of_decide_eq_true hd
  obtain ⟨k, hk, hkl⟩ := mem_at hc
  rw [List.length_take] at hkl
  rw [List.getElem?_take_of_lt (by omega)] at hk
  obtain ⟨h1, e1⟩ := List.getElem?_eq_some_iff.1 hk
  obtain ⟨h2, e2⟩ := List.getElem?_eq_some_iff.1 ha
  have := List.pairwise_iff_getElem.1 hp k i h1 h2 (by omega)
  rw [e1, e2] at this; omega
theorem weightR_at (l : List (Int × Int)) (p : Int) : weightR l p = 0 ∨ ∃ a ∈ l, a.1 = p ∧ weightR l p = a.2 := by
  induction l with
  | nil => exact .inl rfl
  | cons a l ih =>
    unfold weightR
    split
    · rename_i h; exact .inr ⟨a, by simp, h, rfl⟩
    · rcases ih with h | ⟨b, hb, h⟩
      · exact .inl h
      · exact .inr ⟨b, by simp [hb], h⟩
theorem weightR_lim {l : List (Int × Int)} {n : Int} (h : ArcsOk l n) (j : Nat) (p : Int) : 0 ≤ weightR (l.take j) p ∧ weightR (l.take j) p ≤ 8 := by
  rcases weightR_at (l.take j) p with e | ⟨a, ha, _, e⟩
  · rw [e]; omega
  · obtain ⟨k, hk, _⟩ := mem_at (List.mem_of_mem_take ha)
    have := h.each k a hk
    rw [e]; omega
theorem rowSum_comm : ∀ (a b : List Int), rowSum a b = rowSum b a
  | [], [] => rfl
  | [], _ :: _ => rfl
  | _ :: _, [] => rfl
  | x :: a, y :: b => by simp only [rowSum]; rw [rowSum_comm a b, Int.mul_comm]
theorem rowSum_add (w : List Int) (f g : Nat → Int) : rowSum w ((List.range w.length).map fun p => f p + g p) = rowSum w ((List.range w.length).map f) + rowSum w ((List.range w.length).map g) := by
  rw [rowSum_sumN, rowSum_sumN, rowSum_sumN]
  have : ∀ n, sumN (fun c => w.getD c 0 * (f c + g c)) n = sumN (fun c => w.getD c 0 * f c) n + sumN (fun c => w.getD c 0 * g c) n := by
    intro n
    induction n with
    | zero => rfl
    | succ n ih => simp only [sumN]; rw [ih, Int.mul_add]; omega
  exact this _
theorem rowSum_part : ∀ {a b : List Int} {p : Nat} {x y : Int}, (∀ x ∈ a, 0 ≤ x) → (∀ x ∈ b, 0 ≤ x) → a[p]? = some x → b[p]? = some y → x * y ≤ rowSum a b
  | [], _, p, x, y, _, _, h, _ => by simp at h
  | _ :: _, [], p, x, y, _, _, _, h => by simp at h
  | c :: a, d :: b, 0, x, y, ha, hb, h1, h2 => by
    simp at h1 h2; subst h1; subst h2
    have := rowSum_nonneg (a := a) (b := b) (fun x hx => ha x (by simp [hx])) (fun x hx => hb x (by simp [hx]))
    simp only [rowSum]; omega
  | c :: a, d :: b, p + 1, x, y, ha, hb, h1, h2 => by
    have h := rowSum_part (a := a) (b := b) (p := p) (fun x hx => ha x (by simp [hx])) (fun x hx => hb x (by simp [hx])) (by simpa using h1) (by simpa using h2)
    have := Int.mul_nonneg (ha c (by simp)) (hb d (by simp))
    simp only [rowSum]; omega
theorem bnd_ge {ini m : List Int} {p : Nat} {y : Int} (hm : ∀ x ∈ m, 0 ≤ x) (hp : m[p]? = some y) : ∀ (l : List (List Int)), (∀ w ∈ l, (∀ x ∈ w, 0 ≤ x) ∧ p < w.length ∧ rowSum w m = rowSum w ini) → 0 ≤ bndR ini l p → y ≤ bndR ini l p := by
  intro l hl
  have key : ∀ (l : List (List Int)) (o : Int), (∀ w ∈ l, (∀ x ∈ w, 0 ≤ x) ∧ p < w.length ∧ rowSum w m = rowSum w ini) → (0 ≤ o → y ≤ o) → (0 ≤ l.foldl (bStep ini p) o → y ≤ l.foldl (bStep ini p) o) := by
    intro l
    induction l with
    | nil => intro o _ ho; exact ho
    | cons w l ih =>
      intro o hl ho
      rw [List.foldl_cons]
      refine ih _ (fun w hw => hl w (by simp [hw])) ?_
      obtain ⟨h1, h2, h3⟩ := hl w (by simp)
      unfold bStep
      by_cases h0 : w.getD p 0 = 0
      · rw [if_pos h0]; exact ho
      · rw [if_neg h0]
        obtain ⟨c, hc⟩ := get_ex (l := w) (i := p) h2
        have hcD : w.getD p 0 = c := by rw [List.getD_eq_getElem?_getD, hc]; rfl
        have hc0 := h1 c (List.mem_of_getElem? hc)
        rw [hcD] at h0 ⊢
        have hq : y ≤ (rowSum w ini).tdiv c := by
          have h4 := rowSum_part h1 hm hc hp
          rw [h3] at h4
          rw [Int.tdiv_eq_ediv_of_nonneg (rowSum_nonneg h1 hm |> fun h => by rw [← h3]; exact h)]
          exact (Int.le_ediv_iff_mul_le (by omega)).2 (by rw [Int.mul_comm]; exact h4)
        split
        · intro _; exact hq
        · exact ho
  exact key l (-1) hl (fun h => by omega)
def fireF (t : Tn) (f : Nat → Int) : Nat → Int := fun p => f p - weightR t.inn p + weightR t.out p
theorem fire_value {x : Nt} {t : Tn} {i : Nat} (ht : x.tr[i]? = some t) {w : List Int} (hw : w.length = x.ini.length) (hf : ∀ r ∈ tabR x 1, rowSum r w = 0) (f : Nat → Int) :
    rowSum w ((List.range w.length).map (fireF t f)) = rowSum w ((List.range w.length).map f) := by
  have e : fireF t f = fun p => f p + (weightR t.out p - weightR t.inn p) := by funext p; unfold fireF; omega
  rw [e, rowSum_add]
  have hi := (List.getElem?_eq_some_iff.1 ht).1
  have hr : colR x i ∈ tabR x 1 := by
    unfold tabR; rw [if_pos rfl]
    exact List.mem_map.2 ⟨i, by simpa using hi, rfl⟩
  have h0 := hf _ hr
  rw [rowSum_comm] at h0
  have : colR x i = (List.range w.length).map fun p : Nat => weightR t.out p - weightR t.inn p := by
    unfold colR; rw [hw]
    refine List.map_congr_left fun p _ => ?_
    unfold incR
    rw [List.getD_eq_getElem?_getD, List.getElem?_map, ht]; rfl
  rw [← this, h0]; omega
end Go.AM.SN
set_option maxRecDepth 100000
namespace Go.AM.SX
open Go.Proofs
def s5 : SFn := ⟨182, [.tmp 4],
 (.seq (.region [⟨(some 2), .box .dyn (.t 0), [], none⟩,
 ⟨(some 4), .mov (.c (.bool false)), [], none⟩] [] [0, 4])
 (.seq (.seq (.region [⟨(some 24), .call .pure (.f 12) [], [], none⟩,
 ⟨(some 25), .un .not (.t 24), [0], none⟩,
 ⟨(some 26), .mov (.t 25), [1, 0], none⟩,
 ⟨(some 27), .mov (.t 1), [2], (some (26, false))⟩,
 ⟨(some 28), .len 1 (.t 27), [3, 2], (some (26, false))⟩,
 ⟨(some 29), .bin .gtr (.t 28) (.c (.int .i64 8)), [4, 2], (some (26, false))⟩,
 ⟨(some 30), .pick (.t 26) (.c (.bool true)) (.t 29), [2, 5], none⟩] [] [24, 25, 26, 27, 28, 29])
 (.cond (.t 30)
 (.seq (.region [⟨(some 31), .call .pure (.f 12) [], [], none⟩,
 ⟨(some 4), .mov (.t 31), [0, 0, 0], none⟩] [] [1, 2, 30, 31])
 .ret)
 .skip))
 (.seq (.region [⟨(some 32), .load (some 7) (.t 2), [], none⟩,
 ⟨(some 33), .call .pure (.f 13) [(.t 32)], [0], none⟩,
 ⟨(some 5), .alloc .dyn (.agg [.nilsl, .nilsl]), [], none⟩,
 ⟨none, .store 2 (.t 5) (.t 33), [2, 1, 1, 0, 1, 2], none⟩] [] [4, 2, 30, 32, 33])
 (.seq (.region [⟨(some 35), .load (some 2) (.t 5), [], none⟩,
 ⟨(some 36), .call .pure (.f 14) [(.t 35), (.c (.int .i64 1))], [0], none⟩,
 ⟨(some 34), .mov (.t 36), [1], none⟩,
 ⟨(some 37), .extract 0 (.t 34), [2], none⟩,
 ⟨(some 38), .extract 1 (.t 34), [2], none⟩,
 ⟨(some 6), .mov (.t 37), [3, 1, 0, 1, 2, 3], none⟩,
 ⟨(some 7), .mov (.t 38), [4, 5, 0, 1, 2, 3, 4, 5], none⟩] [] [35, 36, 34, 37, 38])
 (.seq (.region [⟨(some 40), .load (some 2) (.t 5), [], none⟩,
 ⟨(some 41), .mov (.t 6), [], none⟩,
 ⟨(some 42), .call .pure (.f 23) [(.t 40), (.t 41)], [0, 1], none⟩,
 ⟨(some 39), .mov (.t 42), [2], none⟩,
 ⟨(some 43), .extract 0 (.t 39), [3], none⟩,
 ⟨(some 44), .extract 1 (.t 39), [3], none⟩,
 ⟨(some 8), .mov (.t 43), [4, 2, 0, 1, 2, 3, 4], none⟩,
 ⟨(some 9), .mov (.t 44), [5, 6, 0, 1, 2, 3, 4, 5, 6], none⟩] [] [40, 41, 42, 39, 43, 44])
 (.seq (.seq (.region [⟨(some 45), .mov (.t 7), [], none⟩,
 ⟨(some 46), .bin .neq (.t 45) (.c (.int .i64 0)), [0], none⟩,
 ⟨(some 47), .mov (.t 46), [1], none⟩,
 ⟨(some 48), .mov (.t 9), [2], (some (47, false))⟩,
 ⟨(some 49), .bin .neq (.t 48) (.c (.int .i64 0)), [3, 2], (some (47, false))⟩,
 ⟨(some 50), .pick (.t 47) (.c (.bool true)) (.t 49), [2, 4], none⟩,
 ⟨(some 51), .mov (.t 50), [5, 2], none⟩,
 ⟨(some 52), .mov (.t 8), [6], (some (51, false))⟩,
 ⟨(some 53), .len 1 (.t 52), [7, 6], (some (51, false))⟩,
 ⟨(some 54), .faddr 0 (.t 5), [6], (some (51, false))⟩,
 ⟨(some 55), .load none (.t 54), [9, 6], (some (51, false))⟩,
 ⟨(some 56), .len 1 (.t 55), [10, 6], (some (51, false))⟩,
 ⟨(some 57), .bin .neq (.t 53) (.t 56), [8, 11, 6], (some (51, false))⟩,
 ⟨(some 58), .pick (.t 51) (.c (.bool true)) (.t 57), [6, 12], none⟩] [] [7, 9, 45, 46, 47, 48, 49, 50, 51, 52, 53, 54, 55, 56, 57])
 (.cond (.t 58)
 (.seq (.region [⟨(some 4), .mov (.c (.bool false)), [], none⟩] [] [1, 5, 6, 8, 58])
 .ret)
 .skip))
 (.seq (.region [⟨(some 59), .bslice false .dyn 1 0 [] [], [], none⟩,
 ⟨(some 60), .faddr 0 (.t 5), [], none⟩,
 ⟨(some 61), .load none (.t 60), [1], none⟩,
 ⟨(some 62), .append .dyn 1 8 (.t 59) (.t 61), [0, 2], none⟩,
 ⟨(some 10), .mov (.t 62), [3, 3, 0, 1, 2, 3], none⟩] [] [4, 58, 59, 60, 61, 62])
 (.seq (.seq (.region [⟨(some 11), .mov (.c (.int .i64 0)), [], none⟩] [] [])
 (.block 0 (.loop (.seq (.seq (.region [⟨(some 63), .mov (.t 11), [], none⟩,
 ⟨(some 64), .mov (.t 1), [], none⟩,
 ⟨(some 65), .len 1 (.t 64), [1], none⟩,
 ⟨(some 66), .bin .leq (.t 63) (.t 65), [0, 2], none⟩] [] [63, 64, 65])
 (.cond (.t 66)
 .skip
 (.exit 0)))
 (.seq (.block 1 (.seq (.seq (.region [⟨(some 12), .mov (.c (.int .i64 0)), [], none⟩] [] [66])
 (.block 2 (.loop (.seq (.seq (.region [⟨(some 69), .mov (.t 12), [], none⟩,
 ⟨(some 70), .mov (.t 10), [], none⟩,
 ⟨(some 71), .len 1 (.t 70), [1], none⟩,
 ⟨(some 72), .bin .lss (.t 69) (.t 71), [0, 2], none⟩] [] [69, 70, 71])
 (.cond (.t 72)
 .skip
 (.exit 2)))
 (.seq (.block 3 (.seq (.region [⟨(some 75), .mov (.t 8), [], none⟩,
 ⟨(some 76), .mov (.t 12), [], none⟩,
 ⟨(some 77), .iaddr none 1 (.t 75) (.t 76), [0, 1], none⟩,
 ⟨(some 78), .load none (.t 77), [2], none⟩,
 ⟨(some 79), .bin .geq (.t 78) (.c (.int .i64 0)), [3], none⟩,
 ⟨(some 80), .mov (.t 79), [4], none⟩,
 ⟨(some 81), .mov (.t 10), [5], (some (80, true))⟩,
 ⟨(some 82), .mov (.t 12), [5], (some (80, true))⟩,
 ⟨(some 83), .iaddr none 1 (.t 81) (.t 82), [6, 7, 5], (some (80, true))⟩,
 ⟨(some 84), .load none (.t 83), [8, 5], (some (80, true))⟩,
 ⟨(some 85), .mov (.t 8), [5], (some (80, true))⟩,
 ⟨(some 86), .mov (.t 12), [5], (some (80, true))⟩,
 ⟨(some 87), .iaddr none 1 (.t 85) (.t 86), [10, 11, 5], (some (80, true))⟩,
 ⟨(some 88), .load none (.t 87), [12, 5], (some (80, true))⟩,
 ⟨(some 89), .bin .gtr (.t 84) (.t 88), [9, 13, 5], (some (80, true))⟩,
 ⟨(some 90), .pick (.t 80) (.t 89) (.c (.bool false)), [5, 14], none⟩] [] [72, 75, 76, 77, 78, 79, 80])
 (.cond (.t 90)
 (.seq (.region [⟨(some 4), .mov (.c (.bool false)), [], none⟩] [] [1, 5, 6, 8, 10, 11, 89, 84, 88, 87, 85, 86, 83, 81, 82, 143, 140, 142, 141, 139, 136, 138, 137, 112, 111, 110, 109, 102, 12, 90])
 .ret)
 .skip)))
 (.region [⟨(some 73), .mov (.t 12), [], none⟩,
 ⟨(some 74), .bin .add (.t 73) (.c (.int .i64 1)), [0], none⟩,
 ⟨(some 12), .mov (.t 74), [1, 0, 1], none⟩] [] [4, 90, 73, 74]))))))
 (.seq (.seq (.region [⟨(some 92), .load (some 2) (.t 5), [], none⟩,
 ⟨(some 93), .mov (.t 6), [], none⟩,
 ⟨(some 94), .mov (.t 10), [], none⟩,
 ⟨(some 95), .call .heap (.f 24) [(.t 92), (.t 93), (.t 94)], [0, 1, 2], none⟩,
 ⟨(some 91), .mov (.t 95), [3], none⟩,
 ⟨(some 96), .extract 0 (.t 91), [4], none⟩,
 ⟨(some 97), .extract 1 (.t 91), [4], none⟩,
 ⟨(some 98), .extract 2 (.t 91), [4], none⟩,
 ⟨(some 13), .mov (.t 96), [5, 3, 0, 1, 2, 3, 4, 5], none⟩,
 ⟨(some 14), .mov (.t 97), [6, 8, 0, 1, 2, 3, 4, 5, 6, 8], none⟩,
 ⟨(some 15), .mov (.t 98), [7, 9, 0, 1, 2, 3, 4, 5, 6, 7, 8, 9], none⟩] [] [12, 92, 93, 94, 95, 91, 96, 97, 98, 13])
 (.seq (.region [⟨(some 99), .mov (.t 15), [], none⟩,
 ⟨(some 100), .bin .neq (.t 99) (.c (.int .i64 0)), [0], none⟩,
 ⟨(some 101), .mov (.t 100), [1], none⟩,
 ⟨(some 102), .mov (.t 14), [2], (some (101, false))⟩,
 ⟨(some 103), .pick (.t 101) (.c (.bool true)) (.t 102), [2, 3], none⟩] [] [14, 15, 99, 100, 101])
 (.cond (.t 103)
 (.seq (.region [⟨(some 4), .mov (.c (.bool false)), [], none⟩] [] [1, 5, 6, 8, 10, 11, 89, 84, 88, 87, 85, 86, 83, 81, 82, 143, 140, 142, 141, 139, 136, 138, 137, 112, 111, 110, 109, 102, 103])
 .ret)
 .skip)))
 (.seq (.seq (.region [⟨(some 104), .mov (.t 11), [], none⟩,
 ⟨(some 105), .mov (.t 1), [], none⟩,
 ⟨(some 106), .len 1 (.t 105), [1], none⟩,
 ⟨(some 107), .bin .eql (.t 104) (.t 106), [0, 2], none⟩,
 ⟨(some 108), .mov (.t 107), [3], none⟩,
 ⟨(some 109), .faddr 1 (.t 5), [4], (some (108, false))⟩,
 ⟨(some 110), .load none (.t 109), [5, 4], (some (108, false))⟩,
 ⟨(some 111), .len 1 (.t 110), [6, 4], (some (108, false))⟩,
 ⟨(some 112), .bin .eql (.t 111) (.c (.int .i64 0)), [7, 4], (some (108, false))⟩,
 ⟨(some 113), .pick (.t 108) (.c (.bool true)) (.t 112), [4, 8], none⟩] [] [4, 103, 104, 105, 106, 107, 108])
 (.cond (.t 113)
 (.exit 0)
 .skip))
 (.seq (.region [⟨(some 114), .faddr 1 (.t 5), [], none⟩,
 ⟨(some 115), .load none (.t 114), [0], none⟩,
 ⟨(some 116), .mov (.t 1), [], none⟩,
 ⟨(some 117), .mov (.t 11), [], none⟩,
 ⟨(some 118), .iaddr none 1 (.t 116) (.t 117), [2, 3], none⟩,
 ⟨(some 119), .load none (.t 118), [4], none⟩,
 ⟨(some 120), .conv .i64 (.t 119), [5], none⟩,
 ⟨(some 121), .faddr 1 (.t 5), [], none⟩,
 ⟨(some 122), .load none (.t 121), [7], none⟩,
 ⟨(some 123), .len 1 (.t 122), [8], none⟩,
 ⟨(some 124), .bin .rem (.t 120) (.t 123), [6, 9], none⟩,
 ⟨(some 125), .iaddr none 3 (.t 115) (.t 124), [1, 10], none⟩,
 ⟨(some 126), .load (some 3) (.t 125), [11], none⟩,
 ⟨(some 16), .alloc .dyn (.agg [(.int .i64 0), .nilsl, .nilsl]), [], none⟩,
 ⟨none, .store 3 (.t 16) (.t 126), [13, 12, 0, 1, 2, 3, 4, 5, 6, 7, 8, 9, 10, 11, 12, 13], none⟩] [] [113, 114, 115, 116, 117, 118, 119, 120, 121, 122, 123, 124, 125, 126])
 (.seq (.region [⟨(some 17), .mov (.c (.bool true)), [], none⟩] [] [])
 (.seq (.seq (.region [⟨(some 127), .faddr 1 (.t 16), [], none⟩,
 ⟨(some 128), .load none (.t 127), [0], none⟩,
 ⟨(some 129), .len 1 (.t 128), [1], none⟩,
 ⟨(some 130), .mov (.c (.int .i64 0)), [], none⟩] [] [127])
 (.block 4 (.loop (.seq (.region [⟨(some 131), .bin .lss (.t 130) (.t 129), [], none⟩] [] [])
 (.seq (.cond (.t 131)
 .skip
 (.exit 4))
 (.seq (.block 5 (.seq (.region [⟨(some 132), .iaddr none 2 (.t 128) (.t 130), [], none⟩,
 ⟨(some 133), .load (some 2) (.t 132), [0], none⟩,
 ⟨(some 19), .alloc .dyn (.agg [(.int .i64 0), (.int .i64 0)]), [], none⟩,
 ⟨none, .store 2 (.t 19) (.t 133), [2, 1, 0, 1, 2], none⟩] [] [131, 132, 133])
 (.region [⟨(some 134), .mov (.t 17), [], none⟩,
 ⟨(some 135), .mov (.t 134), [0], none⟩,
 ⟨(some 136), .mov (.t 10), [1], (some (135, true))⟩,
 ⟨(some 137), .faddr 0 (.t 19), [1], (some (135, true))⟩,
 ⟨(some 138), .load none (.t 137), [3, 1], (some (135, true))⟩,
 ⟨(some 139), .iaddr none 1 (.t 136) (.t 138), [2, 4, 1], (some (135, true))⟩,
 ⟨(some 140), .load none (.t 139), [5, 1], (some (135, true))⟩,
 ⟨(some 141), .faddr 1 (.t 19), [1], (some (135, true))⟩,
 ⟨(some 142), .load none (.t 141), [7, 1], (some (135, true))⟩,
 ⟨(some 143), .bin .geq (.t 140) (.t 142), [6, 8, 1], (some (135, true))⟩,
 ⟨(some 144), .pick (.t 135) (.t 143) (.c (.bool false)), [1, 9], none⟩,
 ⟨(some 17), .mov (.t 144), [10, 1, 0, 1, 2, 3, 4, 5, 6, 7, 8, 9, 10], none⟩] [] [19, 134, 135, 144])))
 (.region [⟨(some 145), .bin .add (.t 130) (.c (.int .i64 1)), [], none⟩,
 ⟨(some 130), .mov (.t 145), [0], none⟩] [] [145])))))))
 (.seq (.seq (.region [⟨(some 146), .mov (.t 17), [], none⟩,
 ⟨(some 147), .un .not (.t 146), [0], none⟩] [] [17, 128, 129, 130, 146])
 (.cond (.t 147)
 (.exit 1)
 .skip))
 (.seq (.seq (.region [⟨(some 148), .faddr 1 (.t 16), [], none⟩,
 ⟨(some 149), .load none (.t 148), [0], none⟩,
 ⟨(some 150), .len 1 (.t 149), [1], none⟩,
 ⟨(some 151), .mov (.c (.int .i64 0)), [], none⟩] [] [147, 148])
 (.block 6 (.loop (.seq (.region [⟨(some 152), .bin .lss (.t 151) (.t 150), [], none⟩] [] [])
 (.seq (.cond (.t 152)
 .skip
 (.exit 6))
 (.seq (.block 7 (.seq (.region [⟨(some 153), .iaddr none 2 (.t 149) (.t 151), [], none⟩,
 ⟨(some 154), .load (some 2) (.t 153), [0], none⟩,
 ⟨(some 21), .alloc .dyn (.agg [(.int .i64 0), (.int .i64 0)]), [], none⟩,
 ⟨none, .store 2 (.t 21) (.t 154), [2, 1, 0, 1, 2], none⟩] [] [152, 153, 154])
 (.region [⟨(some 155), .mov (.t 10), [], none⟩,
 ⟨(some 156), .faddr 0 (.t 21), [], none⟩,
 ⟨(some 157), .load none (.t 156), [1], none⟩,
 ⟨(some 158), .iaddr none 1 (.t 155) (.t 157), [0, 2], none⟩,
 ⟨(some 159), .load none (.t 158), [3], none⟩,
 ⟨(some 160), .faddr 1 (.t 21), [], none⟩,
 ⟨(some 161), .load none (.t 160), [5], none⟩,
 ⟨(some 162), .bin .sub (.t 159) (.t 161), [4, 6], none⟩,
 ⟨(some 163), .iaddr none 1 (.t 155) (.t 157), [0, 2, 0, 1, 2, 3, 4, 5, 6, 7], none⟩,
 ⟨none, .store 1 (.t 163) (.t 162), [8, 7, 0, 1, 2, 3, 4, 5, 6, 7], none⟩] [] [21, 155, 156, 157, 158, 159, 160, 161, 162, 163])))
 (.region [⟨(some 164), .bin .add (.t 151) (.c (.int .i64 1)), [], none⟩,
 ⟨(some 151), .mov (.t 164), [0], none⟩] [] [164])))))))
 (.seq (.region [⟨(some 165), .faddr 2 (.t 16), [], none⟩,
 ⟨(some 166), .load none (.t 165), [0], none⟩,
 ⟨(some 167), .len 1 (.t 166), [1], none⟩,
 ⟨(some 168), .mov (.c (.int .i64 0)), [], none⟩] [] [16, 149, 150, 151, 165])
 (.block 8 (.loop (.seq (.region [⟨(some 169), .bin .lss (.t 168) (.t 167), [], none⟩] [] [])
 (.seq (.cond (.t 169)
 .skip
 (.exit 8))
 (.seq (.block 9 (.seq (.region [⟨(some 170), .iaddr none 2 (.t 166) (.t 168), [], none⟩,
 ⟨(some 171), .load (some 2) (.t 170), [0], none⟩,
 ⟨(some 23), .alloc .dyn (.agg [(.int .i64 0), (.int .i64 0)]), [], none⟩,
 ⟨none, .store 2 (.t 23) (.t 171), [2, 1, 0, 1, 2], none⟩] [] [169, 170, 171])
 (.region [⟨(some 172), .mov (.t 10), [], none⟩,
 ⟨(some 173), .faddr 0 (.t 23), [], none⟩,
 ⟨(some 174), .load none (.t 173), [1], none⟩,
 ⟨(some 175), .iaddr none 1 (.t 172) (.t 174), [0, 2], none⟩,
 ⟨(some 176), .load none (.t 175), [3], none⟩,
 ⟨(some 177), .faddr 1 (.t 23), [], none⟩,
 ⟨(some 178), .load none (.t 177), [5], none⟩,
 ⟨(some 179), .bin .add (.t 176) (.t 178), [4, 6], none⟩,
 ⟨(some 180), .iaddr none 1 (.t 172) (.t 174), [0, 2, 0, 1, 2, 3, 4, 5, 6, 7], none⟩,
 ⟨none, .store 1 (.t 180) (.t 179), [8, 7, 0, 1, 2, 3, 4, 5, 6, 7], none⟩] [] [23, 172, 173, 174, 175, 176, 177, 178, 179, 180])))
 (.region [⟨(some 181), .bin .add (.t 168) (.c (.int .i64 1)), [], none⟩,
 ⟨(some 168), .mov (.t 181), [0], none⟩] [] [181]))))))))))))))))
 (.region [⟨(some 67), .mov (.t 11), [], none⟩,
 ⟨(some 68), .bin .add (.t 67) (.c (.int .i64 1)), [0], none⟩,
 ⟨(some 11), .mov (.t 68), [1, 0, 1], none⟩] [] [166, 167, 168, 67, 68]))))))
 (.seq (.region [⟨(some 4), .mov (.c (.bool true)), [], none⟩] [] [1, 5, 6, 8, 10, 11, 89, 84, 88, 87, 85, 86, 83, 81, 82, 143, 140, 142, 141, 139, 136, 138, 137, 112, 111, 110, 109, 102])
 .ret)))))))))⟩
theorem ok5 : okFn Try.prog 5 s5 = true := by kernel_rfl
end Go.AM.SX
set_option maxRecDepth 100000
namespace Go.AM.SV
open Go.Proofs
def s12 : SFn := ⟨106, [.tmp 0],
 (.seq (.region [⟨(some 0), .mov (.c (.bool false)), [], none⟩] [] [0])
 (.seq (.region [⟨(some 14), .call .pure (.f 38) [], [], none⟩,
 ⟨(some 15), .call .pure (.f 14) [(.t 14), (.c (.int .i64 1))], [0, 0], none⟩,
 ⟨(some 13), .mov (.t 15), [1], none⟩,
 ⟨(some 16), .extract 0 (.t 13), [2], none⟩,
 ⟨(some 17), .extract 1 (.t 13), [2], none⟩,
 ⟨(some 1), .mov (.t 16), [3, 1, 0, 1, 2, 3], none⟩,
 ⟨(some 2), .mov (.t 17), [4, 5, 0, 1, 2, 3, 4, 5], none⟩] [] [14, 15, 13, 16, 17])
 (.seq (.region [⟨(some 19), .call .pure (.f 38) [], [], none⟩,
 ⟨(some 20), .bslice true .dyn 1 2 [(.int .i64 0), (.int .i64 0)] [(0, 1, (.c (.int .i64 1))), (1, 1, (.c (.int .i64 1)))], [], none⟩,
 ⟨(some 21), .bslice true .dyn 1 1 [.nilsl] [(0, 1, (.t 20))], [1], none⟩,
 ⟨(some 22), .call .pure (.f 23) [(.t 19), (.t 21)], [0, 2, 0], none⟩,
 ⟨(some 18), .mov (.t 22), [3], none⟩,
 ⟨(some 23), .extract 0 (.t 18), [4], none⟩,
 ⟨(some 24), .extract 1 (.t 18), [4], none⟩,
 ⟨(some 3), .mov (.t 23), [5, 3, 0, 1, 2, 3, 4, 5], none⟩,
 ⟨(some 4), .mov (.t 24), [6, 7, 0, 1, 2, 3, 4, 5, 6, 7], none⟩] [] [19, 20, 21, 22, 18, 23, 24])
 (.seq (.region [⟨(some 26), .call .pure (.f 38) [], [], none⟩,
 ⟨(some 27), .bslice true .dyn 1 2 [(.int .i64 0), (.int .i64 0)] [(0, 1, (.c (.int .i64 1))), (1, 1, (.c (.int .i64 1)))], [], none⟩,
 ⟨(some 28), .bslice true .dyn 1 1 [.nilsl] [(0, 1, (.t 27))], [1], none⟩,
 ⟨(some 29), .bslice true .dyn 1 2 [(.int .i64 0), (.int .i64 0)] [(0, 1, (.c (.int .i64 1))), (1, 1, (.c (.int .i64 1)))], [], none⟩,
 ⟨(some 30), .call .pure (.f 24) [(.t 26), (.t 28), (.t 29)], [0, 2, 3, 0], none⟩,
 ⟨(some 25), .mov (.t 30), [4], none⟩,
 ⟨(some 31), .extract 0 (.t 25), [5], none⟩,
 ⟨(some 32), .extract 1 (.t 25), [5], none⟩,
 ⟨(some 33), .extract 2 (.t 25), [5], none⟩,
 ⟨(some 5), .mov (.t 31), [6, 4, 0, 1, 2, 3, 4, 5, 6], none⟩,
 ⟨(some 6), .mov (.t 32), [7, 9, 0, 1, 2, 3, 4, 5, 6, 7, 9], none⟩,
 ⟨(some 7), .mov (.t 33), [8, 10, 0, 1, 2, 3, 4, 5, 6, 7, 8, 9, 10], none⟩] [] [26, 27, 28, 29, 30, 25, 31, 32, 33, 5])
 (.seq (.region [⟨(some 34), .bslice true .dyn 1 2 [(.int .i64 0), (.int .i64 0)] [(0, 1, (.c (.int .i64 4))), (1, 1, (.c (.int .i64 0)))], [], none⟩,
 ⟨(some 35), .build [(.int .i64 0), (.int .i64 0)] [(0, 1, (.c (.int .i64 0))), (1, 1, (.c (.int .i64 2)))], [], none⟩,
 ⟨(some 36), .bslice true .dyn 2 1 [(.int .i64 0), (.int .i64 0)] [(0, 2, (.t 35))], [1], none⟩,
 ⟨(some 37), .build [(.int .i64 0), (.int .i64 0)] [(0, 1, (.c (.int .i64 1))), (1, 1, (.c (.int .i64 3)))], [], none⟩,
 ⟨(some 38), .bslice true .dyn 2 1 [(.int .i64 0), (.int .i64 0)] [(0, 2, (.t 37))], [3], none⟩,
 ⟨(some 39), .build [(.int .i64 0), .nilsl, .nilsl] [(1, 1, (.t 36)), (2, 1, (.t 38))], [2, 4], none⟩,
 ⟨(some 40), .bslice true .dyn 3 1 [(.int .i64 0), .nilsl, .nilsl] [(0, 3, (.t 39))], [5], none⟩,
 ⟨(some 41), .build [.nilsl, .nilsl] [(0, 1, (.t 34)), (1, 1, (.t 40))], [0, 6], none⟩,
 ⟨(some 8), .alloc .dyn (.agg [.nilsl, .nilsl]), [], none⟩,
 ⟨none, .store 2 (.t 8) (.t 41), [8, 7, 0, 1, 2, 3, 4, 5, 6, 7, 8], none⟩] [] [34, 35, 36, 37, 38, 39, 40, 41])
 (.seq (.region [⟨(some 43), .load (some 2) (.t 8), [], none⟩,
 ⟨(some 44), .call .pure (.f 14) [(.t 43), (.c (.int .i64 1))], [0], none⟩,
 ⟨(some 42), .mov (.t 44), [1], none⟩,
 ⟨(some 45), .extract 0 (.t 42), [2], none⟩,
 ⟨(some 46), .extract 1 (.t 42), [2], none⟩,
 ⟨(some 9), .mov (.t 45), [3, 1, 0, 1, 2, 3], none⟩,
 ⟨(some 10), .mov (.t 46), [4, 5, 0, 1, 2, 3, 4, 5], none⟩] [] [43, 44, 42, 45, 46])
 (.seq (.region [⟨(some 48), .load (some 2) (.t 8), [], none⟩,
 ⟨(some 49), .call .pure (.f 15) [(.t 48), (.c (.int .i64 2))], [0], none⟩,
 ⟨(some 47), .mov (.t 49), [1], none⟩,
 ⟨(some 50), .extract 0 (.t 47), [2], none⟩,
 ⟨(some 51), .extract 1 (.t 47), [2], none⟩,
 ⟨(some 11), .mov (.t 50), [3, 1, 0, 1, 2, 3], none⟩,
 ⟨(some 12), .mov (.t 51), [4, 5, 0, 1, 2, 3, 4, 5], none⟩] [] [8, 48, 49, 47, 50, 51])
 (.seq (.region [⟨(some 52), .mov (.t 2), [], none⟩,
 ⟨(some 53), .bin .eql (.t 52) (.c (.int .i64 0)), [0], none⟩,
 ⟨(some 54), .mov (.t 53), [1], none⟩,
 ⟨(some 55), .mov (.t 1), [2], (some (54, true))⟩,
 ⟨(some 56), .len 1 (.t 55), [3, 2], (some (54, true))⟩,
 ⟨(some 57), .bin .eql (.t 56) (.c (.int .i64 1)), [4, 2], (some (54, true))⟩,
 ⟨(some 58), .pick (.t 54) (.t 57) (.c (.bool false)), [2, 5], none⟩,
 ⟨(some 59), .mov (.t 58), [6, 2], none⟩,
 ⟨(some 60), .mov (.t 1), [7], (some (59, true))⟩,
 ⟨(some 61), .iaddr none 1 (.t 60) (.c (.int .i64 0)), [8, 7], (some (59, true))⟩,
 ⟨(some 62), .load none (.t 61), [9, 7], (some (59, true))⟩,
 ⟨(some 63), .bslice true .dyn 1 2 [(.int .i64 0), (.int .i64 0)] [(0, 1, (.c (.int .i64 1))), (1, 1, (.c (.int .i64 1)))], [7], (some (59, true))⟩,
 ⟨(some 64), .call .pure (.f 29) [(.t 62), (.t 63)], [10, 11, 7, 7], (some (59, true))⟩,
 ⟨(some 65), .pick (.t 59) (.t 64) (.c (.bool false)), [7, 12], none⟩,
 ⟨(some 66), .mov (.t 65), [13, 12], none⟩,
 ⟨(some 67), .mov (.t 4), [14], (some (66, true))⟩,
 ⟨(some 68), .bin .eql (.t 67) (.c (.int .i64 0)), [15, 14], (some (66, true))⟩,
 ⟨(some 69), .pick (.t 66) (.t 68) (.c (.bool false)), [14, 16], none⟩,
 ⟨(some 70), .mov (.t 69), [17, 14], none⟩,
 ⟨(some 71), .mov (.t 3), [18], (some (70, true))⟩,
 ⟨(some 72), .bslice true .dyn 1 2 [(.int .i64 0), (.int .i64 0)] [(0, 1, (.c (.int .i64 1))), (1, 1, (.c (.int .i64 1)))], [18], (some (70, true))⟩,
 ⟨(some 73), .call .pure (.f 29) [(.t 71), (.t 72)], [19, 20, 18, 18], (some (70, true))⟩,
 ⟨(some 74), .pick (.t 70) (.t 73) (.c (.bool false)), [18, 21], none⟩,
 ⟨(some 75), .mov (.t 74), [22, 21], none⟩,
 ⟨(some 76), .mov (.t 7), [23], (some (75, true))⟩,
 ⟨(some 77), .bin .eql (.t 76) (.c (.int .i64 0)), [24, 23], (some (75, true))⟩,
 ⟨(some 78), .pick (.t 75) (.t 77) (.c (.bool false)), [23, 25], none⟩,
 ⟨(some 79), .mov (.t 78), [26, 23], none⟩,
 ⟨(some 80), .mov (.t 6), [27], (some (79, true))⟩,
 ⟨(some 81), .pick (.t 79) (.t 80) (.c (.bool false)), [27, 28], none⟩,
 ⟨(some 82), .mov (.t 81), [29, 27], none⟩,
 ⟨(some 83), .mov (.t 10), [30], (some (82, true))⟩,
 ⟨(some 84), .bin .eql (.t 83) (.c (.int .i64 0)), [31, 30], (some (82, true))⟩,
 ⟨(some 85), .pick (.t 82) (.t 84) (.c (.bool false)), [30, 32], none⟩,
 ⟨(some 86), .mov (.t 85), [33, 30], none⟩,
 ⟨(some 87), .mov (.t 9), [34], (some (86, true))⟩,
 ⟨(some 88), .len 1 (.t 87), [35, 34], (some (86, true))⟩,
 ⟨(some 89), .bin .eql (.t 88) (.c (.int .i64 1)), [36, 34], (some (86, true))⟩,
 ⟨(some 90), .pick (.t 86) (.t 89) (.c (.bool false)), [34, 37], none⟩,
 ⟨(some 91), .mov (.t 90), [38, 34], none⟩,
 ⟨(some 92), .mov (.t 9), [39], (some (91, true))⟩,
 ⟨(some 93), .iaddr none 1 (.t 92) (.c (.int .i64 0)), [40, 39], (some (91, true))⟩,
 ⟨(some 94), .load none (.t 93), [41, 39], (some (91, true))⟩,
 ⟨(some 95), .bslice true .dyn 1 2 [(.int .i64 0), (.int .i64 0)] [(0, 1, (.c (.int .i64 3))), (1, 1, (.c (.int .i64 2)))], [39], (some (91, true))⟩,
 ⟨(some 96), .call .pure (.f 29) [(.t 94), (.t 95)], [42, 43, 39, 39], (some (91, true))⟩,
 ⟨(some 97), .pick (.t 91) (.t 96) (.c (.bool false)), [39, 44], none⟩,
 ⟨(some 98), .mov (.t 97), [45, 44], none⟩,
 ⟨(some 99), .mov (.t 12), [46], (some (98, true))⟩,
 ⟨(some 100), .bin .eql (.t 99) (.c (.int .i64 0)), [47, 46], (some (98, true))⟩,
 ⟨(some 101), .pick (.t 98) (.t 100) (.c (.bool false)), [46, 48], none⟩,
 ⟨(some 102), .mov (.t 101), [49, 46], none⟩,
 ⟨(some 103), .mov (.t 11), [50], (some (102, true))⟩,
 ⟨(some 104), .un .not (.t 103), [51, 50], (some (102, true))⟩,
 ⟨(some 105), .pick (.t 102) (.t 104) (.c (.bool false)), [50, 52], none⟩,
 ⟨(some 0), .mov (.t 105), [53, 50, 0, 1, 2, 3, 4, 5, 6, 7, 8, 9, 10, 11, 12, 13, 14, 15, 16, 17, 18, 19, 20, 21, 22, 23, 24, 25, 26, 27, 28, 29, 30, 31, 32, 33, 34, 35, 36, 37, 38, 39, 40, 41, 42, 43, 44, 45, 46, 47, 48, 49, 50, 51, 52, 53], none⟩] [] [1, 2, 3, 4, 6, 7, 9, 10, 11, 12, 52, 53, 54, 55, 56, 57, 58, 59, 60, 61, 62, 63, 64, 65, 66, 67, 68, 69, 70, 71, 72, 73, 74, 75, 76, 77, 78, 79, 80, 81, 82, 83, 84, 85, 86, 87, 88, 89, 90, 91, 92, 93, 94, 95, 96, 97, 98, 99, 100, 101, 102, 103, 104, 105])
 .ret))))))))⟩
def s38 : SFn := ⟨14, [.cell 0 (some 2)],
 (.seq (.region [⟨(some 0), .alloc .dyn (.agg [.nilsl, .nilsl]), [], none⟩] [] [])
 (.seq (.region [⟨(some 1), .bslice true .dyn 1 2 [(.int .i64 0), (.int .i64 0)] [(0, 1, (.c (.int .i64 1))), (1, 1, (.c (.int .i64 0)))], [], none⟩,
 ⟨(some 2), .build [(.int .i64 0), (.int .i64 0)] [(0, 1, (.c (.int .i64 0))), (1, 1, (.c (.int .i64 1)))], [], none⟩,
 ⟨(some 3), .bslice true .dyn 2 1 [(.int .i64 0), (.int .i64 0)] [(0, 2, (.t 2))], [1], none⟩,
 ⟨(some 4), .build [(.int .i64 0), (.int .i64 0)] [(0, 1, (.c (.int .i64 1))), (1, 1, (.c (.int .i64 1)))], [], none⟩,
 ⟨(some 5), .bslice true .dyn 2 1 [(.int .i64 0), (.int .i64 0)] [(0, 2, (.t 4))], [3], none⟩,
 ⟨(some 6), .build [(.int .i64 0), .nilsl, .nilsl] [(0, 1, (.c (.int .i64 0))), (1, 1, (.t 3)), (2, 1, (.t 5))], [2, 4], none⟩,
 ⟨(some 7), .build [(.int .i64 0), (.int .i64 0)] [(0, 1, (.c (.int .i64 1))), (1, 1, (.c (.int .i64 1)))], [], none⟩,
 ⟨(some 8), .bslice true .dyn 2 1 [(.int .i64 0), (.int .i64 0)] [(0, 2, (.t 7))], [6], none⟩,
 ⟨(some 9), .build [(.int .i64 0), (.int .i64 0)] [(0, 1, (.c (.int .i64 0))), (1, 1, (.c (.int .i64 1)))], [], none⟩,
 ⟨(some 10), .bslice true .dyn 2 1 [(.int .i64 0), (.int .i64 0)] [(0, 2, (.t 9))], [8], none⟩,
 ⟨(some 11), .build [(.int .i64 0), .nilsl, .nilsl] [(0, 1, (.c (.int .i64 1))), (1, 1, (.t 8)), (2, 1, (.t 10))], [7, 9], none⟩,
 ⟨(some 12), .bslice true .dyn 3 2 [(.int .i64 0), .nilsl, .nilsl, (.int .i64 0), .nilsl, .nilsl] [(0, 3, (.t 6)), (3, 3, (.t 11))], [5, 10], none⟩,
 ⟨(some 13), .build [.nilsl, .nilsl] [(0, 1, (.t 1)), (1, 1, (.t 12))], [0, 11], none⟩,
 ⟨none, .store 2 (.t 0) (.t 13), [12, 0, 1, 2, 3, 4, 5, 6, 7, 8, 9, 10, 11, 12], none⟩] [] [1, 2, 3, 4, 5, 6, 7, 8, 9, 10, 11, 12, 13])
 .ret))⟩
theorem ok12 : okFn Try.prog 12 s12 = true := by kernel_rfl
theorem ok38 : okFn Try.prog 38 s38 = true := by kernel_rfl
end Go.AM.SV
namespace Go.AM.SN
open Go.Proofs
set_option maxRecDepth 100000
set_option linter.unusedSimpArgs false
set_option linter.unusedVariables false
def exN : Nt := ⟨[1, 0], [⟨0, [(0, 1)], [(1, 1)]⟩, ⟨1, [(1, 1)], [(0, 1)]⟩]⟩
def twoN : Nt := ⟨[4, 0], [⟨0, [(0, 2)], [(1, 3)]⟩]⟩
theorem arcs1_ok {p w n : Int} (h : 0 ≤ p ∧ p < n ∧ 1 ≤ w ∧ w ≤ 8) : ArcsOk [(p, w)] n where
  len := by simp
  each := fun i a ha => by
    cases i with
    | zero => simp at ha; subst ha; exact h
    | succ i => simp at ha
  up := fun i a b ha hb => by simp at hb
theorem exN_ok : NetOk exN where
  places := by decide
  tokens := by unfold okT; decide
  trans := by decide
  ev := by decide
  inn := fun t ht => by
    simp only [exN, List.mem_cons, List.not_mem_nil, or_false] at ht
    rcases ht with rfl | rfl <;> exact arcs1_ok (by decide)
  out := fun t ht => by
    simp only [exN, List.mem_cons, List.not_mem_nil, or_false] at ht
    rcases ht with rfl | rfl <;> exact arcs1_ok (by decide)
theorem twoN_ok : NetOk twoN where
  places := by decide
  tokens := by unfold okT; decide
  trans := by decide
  ev := by decide
  inn := fun t ht => by
    simp only [twoN, List.mem_cons, List.not_mem_nil, or_false] at ht
    subst ht; exact arcs1_ok (by decide)
  out := fun t ht => by
    simp only [twoN, List.mem_cons, List.not_mem_nil, or_false] at ht
    subst ht; exact arcs1_ok (by decide)
theorem exMin : PSpec Try.prog 14 [netV exN, .int .i64 1] (.tup [lsts [[1, 1]], .int .i64 0]) := by
  have h := MinimalT exN 1 _ _ (newTable exN exN_ok 1 (.inl rfl)) (by decide +kernel) (by decide +kernel) (tabR_len exN 1) (by decide +kernel) (by decide +kernel)
  rwa [show listR (tabC exN 1) (minF (tabR exN 1) (tabC exN 1) (tabC exN 1)) = [[1, 1]] by decide +kernel] at h
theorem twoMin : PSpec Try.prog 14 [netV twoN, .int .i64 1] (.tup [lsts [[3, 2]], .int .i64 0]) := by
  have h := MinimalT twoN 1 _ _ (newTable twoN twoN_ok 1 (.inl rfl)) (by decide +kernel) (by decide +kernel) (tabR_len twoN 1) (by decide +kernel) (by decide +kernel)
  rwa [show listR (tabC twoN 1) (minF (tabR twoN 1) (tabC twoN 1) (tabC twoN 1)) = [[3, 2]] by decide +kernel] at h
theorem twoCov : PSpec Try.prog 15 [netV twoN, .int .i64 2] (.tup [.bool false, .int .i64 0]) := by
  have h := CoveredT twoN 2 _ _ (newTable twoN twoN_ok 2 (.inr rfl)) (by decide +kernel) (by decide +kernel) (tabR_len twoN 2) (by decide +kernel)
  rwa [show decide (covR (minF (tabR twoN 2) (tabC twoN 2) (tabC twoN 2)) = 2 ^ tabC twoN 2 - 1) = false by decide +kernel] at h
theorem exBnd : PSpec Try.prog 23 [netV exN, lsts [[1, 1]]] (.tup [sli [1, 1], .int .i64 0]) := by
  have h := bounds exN exN_ok [[1, 1]] (by decide) (by decide)
  rwa [show chkR exN [[1, 1]] = 0 by decide +kernel, if_pos rfl, show bndL exN [[1, 1]] = [1, 1] by decide +kernel] at h
theorem exExc : PSpec Try.prog 24 [netV exN, lsts [[1, 1]], sli [1, 1]] (.tup [.int .i64 0, .bool true, .int .i64 0]) := by
  have h := excludes exN exN_ok [[1, 1]] [1, 1] (by decide) (by decide) (by decide)
  rwa [show exV exN [[1, 1]] [1, 1] = .tup [.int .i64 0, .bool true, .int .i64 0] by
    unfold exV
    rw [if_pos (by decide +kernel), if_pos (by decide +kernel), if_pos (by decide +kernel), show firstAt (exP exN [1, 1]) [[1, 1]] = 0 by decide +kernel]] at h
theorem exchange38 : PSpec Try.prog 38 [] (netV exN) := by
  refine PSpec.of_rn 64 SV.ok38 rfl rfl (noRef_net _) ?_
  simp (config := { maxSteps := 1000000 }) (disch := first | omega | (simp only [List.length_map, List.length_append, List.length_cons, List.length_nil, ints_len] <;> omega)) only [SV.s38, aBuildSlice_frz, wZ_some, wordsN, Int.reduceGT, wordsR, ne_eq, words, Nat.reduceAdd, Nat.reduceEqDiff, Nat.reduceBEq, ↓reduceIte, reduceCtorEq, SX.exit.injEq, if_true, if_false, Int.reduceAdd, Int.reduceSub, Int.reduceMul, Int.reduceLT, Int.reduceLE, Int.reduceEq, Int.reduceNe, Int.reduceNeg, Int.reduceToNat, Nat.reduceMul, Nat.reduceLT, Nat.reduceSub, Nat.reduceLeDiff]
  exact ⟨.inr trivial, _, rfl, Rn.same (noRef_net exN)⟩
theorem known : PSpec Try.prog 12 [] (.bool true) := by
  refine PSpec.of_rn 64 SV.ok12 rfl rfl rfl ?_
  simp (config := { maxSteps := 1000000 }) (disch := first | omega | (simp only [List.length_map, List.length_append, List.length_cons, List.length_nil, ints_len] <;> omega)) only [SV.s12, wordsN, Int.reduceGT, wordsR, ne_eq, words, Nat.reduceAdd, Nat.reduceEqDiff, Nat.reduceBEq, ↓reduceIte, reduceCtorEq, SX.exit.injEq, if_true, if_false, Int.reduceAdd, Int.reduceSub, Int.reduceMul, Int.reduceLT, Int.reduceLE, Int.reduceEq, Int.reduceNe, Int.reduceNeg, Int.reduceToNat, Nat.reduceMul, Nat.reduceLT, Nat.reduceSub, Nat.reduceLeDiff]
  refine cp exchange38 ?_
  simp (config := { maxSteps := 1000000 }) (disch := first | omega | (simp only [List.length_map, List.length_append, List.length_cons, List.length_nil, ints_len] <;> omega)) only [wordsN, Int.reduceGT, wordsR, ne_eq, words, Nat.reduceAdd, Nat.reduceEqDiff, Nat.reduceBEq, ↓reduceIte, reduceCtorEq, SX.exit.injEq, if_true, if_false, Int.reduceAdd, Int.reduceSub, Int.reduceMul, Int.reduceLT, Int.reduceLE, Int.reduceEq, Int.reduceNe, Int.reduceNeg, Int.reduceToNat, Nat.reduceMul, Nat.reduceLT, Nat.reduceSub, Nat.reduceLeDiff]
  refine cp exMin ?_
  simp (config := { maxSteps := 1000000 }) (disch := first | omega | (simp only [List.length_map, List.length_append, List.length_cons, List.length_nil, ints_len] <;> omega)) only [wordsN, Int.reduceGT, wordsR, ne_eq, words, Nat.reduceAdd, Nat.reduceEqDiff, Nat.reduceBEq, ↓reduceIte, reduceCtorEq, SX.exit.injEq, if_true, if_false, Int.reduceAdd, Int.reduceSub, Int.reduceMul, Int.reduceLT, Int.reduceLE, Int.reduceEq, Int.reduceNe, Int.reduceNeg, Int.reduceToNat, Nat.reduceMul, Nat.reduceLT, Nat.reduceSub, Nat.reduceLeDiff]
  refine cp exchange38 ?_
  simp (config := { maxSteps := 1000000 }) (disch := first | omega | (simp only [List.length_map, List.length_append, List.length_cons, List.length_nil, ints_len] <;> omega)) only [aBuildSlice_frz, wZ_some, List.map_cons, List.map_nil, wordsN, Int.reduceGT, wordsR, ne_eq, words, Nat.reduceAdd, Nat.reduceEqDiff, Nat.reduceBEq, ↓reduceIte, reduceCtorEq, SX.exit.injEq, if_true, if_false, Int.reduceAdd, Int.reduceSub, Int.reduceMul, Int.reduceLT, Int.reduceLE, Int.reduceEq, Int.reduceNe, Int.reduceNeg, Int.reduceToNat, Nat.reduceMul, Nat.reduceLT, Nat.reduceSub, Nat.reduceLeDiff]
  refine cp exBnd ?_
  simp (config := { maxSteps := 1000000 }) (disch := first | omega | (simp only [List.length_map, List.length_append, List.length_cons, List.length_nil, ints_len] <;> omega)) only [wordsN, Int.reduceGT, wordsR, ne_eq, words, Nat.reduceAdd, Nat.reduceEqDiff, Nat.reduceBEq, ↓reduceIte, reduceCtorEq, SX.exit.injEq, if_true, if_false, Int.reduceAdd, Int.reduceSub, Int.reduceMul, Int.reduceLT, Int.reduceLE, Int.reduceEq, Int.reduceNe, Int.reduceNeg, Int.reduceToNat, Nat.reduceMul, Nat.reduceLT, Nat.reduceSub, Nat.reduceLeDiff]
  refine cp exchange38 ?_
  simp (config := { maxSteps := 1000000 }) (disch := first | omega | (simp only [List.length_map, List.length_append, List.length_cons, List.length_nil, ints_len] <;> omega)) only [aBuildSlice_frz, wZ_some, List.map_cons, List.map_nil, wordsN, Int.reduceGT, wordsR, ne_eq, words, Nat.reduceAdd, Nat.reduceEqDiff, Nat.reduceBEq, ↓reduceIte, reduceCtorEq, SX.exit.injEq, if_true, if_false, Int.reduceAdd, Int.reduceSub, Int.reduceMul, Int.reduceLT, Int.reduceLE, Int.reduceEq, Int.reduceNe, Int.reduceNeg, Int.reduceToNat, Nat.reduceMul, Nat.reduceLT, Nat.reduceSub, Nat.reduceLeDiff]
  refine cp exExc ?_
  simp (config := { maxSteps := 1000000 }) (disch := first | omega | (simp only [List.length_map, List.length_append, List.length_cons, List.length_nil, ints_len] <;> omega)) only [aBuildSlice_frz, wZ_some, List.map_cons, List.map_nil, wordsN, Int.reduceGT, wordsR, ne_eq, words, Nat.reduceAdd, Nat.reduceEqDiff, Nat.reduceBEq, ↓reduceIte, reduceCtorEq, SX.exit.injEq, if_true, if_false, Int.reduceAdd, Int.reduceSub, Int.reduceMul, Int.reduceLT, Int.reduceLE, Int.reduceEq, Int.reduceNe, Int.reduceNeg, Int.reduceToNat, Nat.reduceMul, Nat.reduceLT, Nat.reduceSub, Nat.reduceLeDiff]
  refine cp twoMin ?_
  simp (config := { maxSteps := 1000000 }) (disch := first | omega | (simp only [List.length_map, List.length_append, List.length_cons, List.length_nil, ints_len] <;> omega)) only [wordsN, Int.reduceGT, wordsR, ne_eq, words, Nat.reduceAdd, Nat.reduceEqDiff, Nat.reduceBEq, ↓reduceIte, reduceCtorEq, SX.exit.injEq, if_true, if_false, Int.reduceAdd, Int.reduceSub, Int.reduceMul, Int.reduceLT, Int.reduceLE, Int.reduceEq, Int.reduceNe, Int.reduceNeg, Int.reduceToNat, Nat.reduceMul, Nat.reduceLT, Nat.reduceSub, Nat.reduceLeDiff]
  refine cp twoCov ?_
  simp (config := { maxSteps := 1000000 }) (disch := first | omega | (simp only [List.length_map, List.length_append, List.length_cons, List.length_nil, ints_len] <;> omega)) only [aBuildSlice_frz, wZ_some, List.map_cons, List.map_nil, wordsN, Int.reduceGT, wordsR, ne_eq, words, Nat.reduceAdd, Nat.reduceEqDiff, Nat.reduceBEq, ↓reduceIte, reduceCtorEq, SX.exit.injEq, if_true, if_false, Int.reduceAdd, Int.reduceSub, Int.reduceMul, Int.reduceLT, Int.reduceLE, Int.reduceEq, Int.reduceNe, Int.reduceNeg, Int.reduceToNat, Nat.reduceMul, Nat.reduceLT, Nat.reduceSub, Nat.reduceLeDiff]
  refine cp (same [1, 1] [1, 1] (by decide)) ?_
  simp (config := { maxSteps := 1000000 }) (disch := first | omega | (simp only [List.length_map, List.length_append, List.length_cons, List.length_nil, ints_len] <;> omega)) only [aBuildSlice_frz, wZ_some, List.map_cons, List.map_nil, wordsN, Int.reduceGT, wordsR, ne_eq, words, Nat.reduceAdd, Nat.reduceEqDiff, Nat.reduceBEq, ↓reduceIte, reduceCtorEq, SX.exit.injEq, if_true, if_false, Int.reduceAdd, Int.reduceSub, Int.reduceMul, Int.reduceLT, Int.reduceLE, Int.reduceEq, Int.reduceNe, Int.reduceNeg, Int.reduceToNat, Nat.reduceMul, Nat.reduceLT, Nat.reduceSub, Nat.reduceLeDiff]
  refine cp (same [1, 1] [1, 1] (by decide)) ?_
  simp (config := { maxSteps := 1000000 }) (disch := first | omega | (simp only [List.length_map, List.length_append, List.length_cons, List.length_nil, ints_len] <;> omega)) only [aBuildSlice_frz, wZ_some, List.map_cons, List.map_nil, wordsN, Int.reduceGT, wordsR, ne_eq, words, Nat.reduceAdd, Nat.reduceEqDiff, Nat.reduceBEq, ↓reduceIte, reduceCtorEq, SX.exit.injEq, if_true, if_false, Int.reduceAdd, Int.reduceSub, Int.reduceMul, Int.reduceLT, Int.reduceLE, Int.reduceEq, Int.reduceNe, Int.reduceNeg, Int.reduceToNat, Nat.reduceMul, Nat.reduceLT, Nat.reduceSub, Nat.reduceLeDiff]
  refine cp (same [3, 2] [3, 2] (by decide)) ?_
  simp (config := { maxSteps := 1000000 }) (disch := first | omega | (simp only [List.length_map, List.length_append, List.length_cons, List.length_nil, ints_len] <;> omega)) only [aBuildSlice_frz, wZ_some, List.map_cons, List.map_nil, wordsN, Int.reduceGT, wordsR, ne_eq, words, Nat.reduceAdd, Nat.reduceEqDiff, Nat.reduceBEq, ↓reduceIte, reduceCtorEq, SX.exit.injEq, if_true, if_false, Int.reduceAdd, Int.reduceSub, Int.reduceMul, Int.reduceLT, Int.reduceLE, Int.reduceEq, Int.reduceNe, Int.reduceNeg, Int.reduceToNat, Nat.reduceMul, Nat.reduceLT, Nat.reduceSub, Nat.reduceLeDiff]
  exact ⟨.inr trivial, _, rfl, Rn.same rfl⟩
end Go.AM.SN
set_option linter.unusedSimpArgs false
set_option linter.unusedVariables false
namespace Go.AM
variable {P : Program}
section
variable {N : NM} {n : Nat} {d : Option Nat} {dead : List Nat} {r : List SOper} {T : Tmps} {h : Heap} {Q : QC} {fs : List Fr}
theorem aAppend_slF {sz bytes len b2 g2 off2 len2 : Nat} {cs : List AV} : wM P N (aAppend .dyn n sz bytes (.sl b2 g2 off2 len2 sz) (.fsl cs len sz)) d r dead fs n T h Q =
    wA P N (srcB (h.get b2) g2 off2 len2 sz) (some cs) g2 len2 len sz bytes b2 d r dead fs n T h Q := by
  simp only [aAppend, aSrc, if_true, slLen, wM_cells, wM_ite, wM_put]
  apply propext; constructor
  · rintro ⟨h2, cs2, hb2, h3, h4⟩
    rw [hb2, srcB_some, if_pos ⟨rfl, h3⟩]
    exact ⟨_, _, rfl, rfl, ⟨h2.1, h2.2.1⟩, h2.2.2, h4⟩
  · rintro ⟨ys, zs, hy, hz, h2, h3, h4⟩
    cases hy
    unfold srcB at hz
    split at hz
    · rename_i g3 cs2 hb2
      split at hz
      · rename_i e2
        obtain ⟨rfl, e2⟩ := e2
        cases hz
        exact ⟨⟨h2.1, h2.2, h3⟩, cs2, hb2, e2, h4⟩
      · cases hz
    · cases hz
theorem aAppend_slN {sz bytes b2 g2 off2 len2 : Nat} : wM P N (aAppend .dyn n sz bytes (.sl b2 g2 off2 len2 sz) .nilsl) d r dead fs n T h Q =
    wA P N (srcB (h.get b2) g2 off2 len2 sz) (some []) g2 len2 0 sz bytes b2 d r dead fs n T h Q := by
  simp only [aAppend, aSrc, if_true, slLen, wM_cells, wM_ite, wM_put]
  apply propext; constructor
  · rintro ⟨h2, cs2, hb2, h3, h4⟩
    rw [hb2, srcB_some, if_pos ⟨rfl, h3⟩]
    exact ⟨_, _, rfl, rfl, ⟨h2.1, h2.2.1⟩, h2.2.2, h4⟩
  · rintro ⟨ys, zs, hy, hz, h2, h3, h4⟩
    cases hy
    unfold srcB at hz
    split at hz
    · rename_i g3 cs2 hb2
      split at hz
      · rename_i e2
        obtain ⟨rfl, e2⟩ := e2
        cases hz
        exact ⟨⟨h2.1, h2.2, h3⟩, cs2, hb2, e2, h4⟩
      · cases hz
    · cases hz
end
theorem aSlice_fslL {cs : List AV} {len sz : Nat} {k : IntKind} {a : Int} : aSliceC (some sz) (.fsl cs len sz) (some (.int k a)) none none =
    if 0 ≤ a ∧ a ≤ len then some (.fsl ((cs.drop (a.toNat * sz)).take ((len - a.toNat) * sz)) (len - a.toNat) sz) else none := by
  simp only [aSliceC, if_true, aSlice, bnd, Int.le_refl, Int.toNat_natCast, and_true]
theorem aSlice_fslH {cs : List AV} {len sz : Nat} {k : IntKind} {b : Int} : aSliceC (some sz) (.fsl cs len sz) none (some (.int k b)) none =
    if 0 ≤ b ∧ b ≤ len then some (.fsl (cs.take (b.toNat * sz)) b.toNat sz) else none := by
  simp only [aSliceC, if_true, aSlice, bnd, Int.le_refl, true_and, Int.toNat_zero, Nat.zero_mul, List.drop_zero, Nat.sub_zero]
theorem aSlice_fslB {cs : List AV} {len sz : Nat} {k k2 : IntKind} {a b : Int} : aSliceC (some sz) (.fsl cs len sz) (some (.int k a)) (some (.int k2 b)) none =
    if 0 ≤ a ∧ a ≤ b ∧ b ≤ len then some (.fsl ((cs.drop (a.toNat * sz)).take ((b.toNat - a.toNat) * sz)) (b.toNat - a.toNat) sz) else none := by
  simp only [aSliceC, if_true, aSlice, bnd]
theorem aSlice_slL {b g off len sz : Nat} {k : IntKind} {a : Int} : aSliceC (some sz) (.sl b g off len sz) (some (.int k a)) none none =
    if 0 ≤ a ∧ a ≤ len then some (.sl b g (off + a.toNat * sz) (len - a.toNat) sz) else none := by
  simp only [aSliceC, if_true, aSlice, bnd, Int.le_refl, Int.toNat_natCast, true_and, Nat.zero_lt_succ, or_true, and_true]
theorem aSlice_slH {b g off len sz : Nat} {k : IntKind} {c : Int} : aSliceC (some sz) (.sl b g off len sz) none (some (.int k c)) none =
    if 0 ≤ c ∧ c ≤ len then some (.sl b g off c.toNat sz) else none := by
  simp only [aSliceC, if_true, aSlice, bnd, Int.le_refl, true_and, Int.toNat_zero, Nat.zero_mul, Nat.add_zero, Nat.sub_zero, Nat.zero_lt_succ, or_true, and_true]
theorem aSlice_slB {b g off len sz : Nat} {k k2 : IntKind} {a c : Int} : aSliceC (some sz) (.sl b g off len sz) (some (.int k a)) (some (.int k2 c)) none =
    if 0 ≤ a ∧ a ≤ c ∧ c ≤ len then some (.sl b g (off + a.toNat * sz) (c.toNat - a.toNat) sz) else none := by
  simp only [aSliceC, if_true, aSlice, bnd, Nat.zero_lt_succ, or_true, and_true]
end Go.AM
set_option linter.unusedSimpArgs false
set_option linter.unusedVariables false
namespace Go.AM
variable {P : Program}
def HM.tch {α : Type} (B : Nat → Prop) : HM α → Prop
  | .ret _ => True
  | .fail => True
  | .look b k => B b ∧ ∀ x, (k x).tch B
  | .put b _ k => B b ∧ k.tch B
theorem HM.tch_fp {α : Type} {B : Nat → Prop} (m : HM α) : m.tch B → ∀ h b, b ∈ (m.fp h).1 ∨ b ∈ (m.fp h).2 → B b := by
  induction m with
  | ret a => intro _ h b hb; simp [HM.fp] at hb
  | fail => intro _ h b hb; simp [HM.fp] at hb
  | look b k ih =>
    rintro ⟨h1, h2⟩ h b' hb
    simp only [HM.fp, List.mem_cons] at hb
    rcases hb with (rfl | hb) | hb
    · exact h1
    · exact ih _ (h2 _) h b' (.inl hb)
    · exact ih _ (h2 _) h b' (.inr hb)
  | put b x k ih =>
    rintro ⟨h1, h2⟩ h b' hb
    simp only [HM.fp, List.mem_cons] at hb
    rcases hb with hb | rfl | hb
    · exact ih h2 _ b' (.inl hb)
    · exact h1
    · exact ih h2 _ b' (.inr hb)
theorem HM.tch_bind {α β : Type} {B : Nat → Prop} {m : HM α} {f : α → HM β} (h1 : m.tch B) (h2 : ∀ a, (f a).tch B) : (m.bind f).tch B := by
  induction m with
  | ret a => exact h2 a
  | fail => trivial
  | look b k ih => exact ⟨h1.1, fun x => ih x (h1.2 x)⟩
  | put b x k ih => exact ⟨h1.1, ih h1.2⟩
theorem tch_opt {α : Type} {B : Nat → Prop} (o : Option α) : (HM.opt o).tch B := by cases o <;> trivial
theorem tch_cells {α : Type} {B : Nat → Prop} {b g : Nat} {k : List AV → HM α} (hb : B b) (hk : ∀ cs, (k cs).tch B) : (HM.cells b g k).tch B := by
  refine ⟨hb, fun x => ?_⟩
  match x with
  | some (.cells g' cs) =>
    simp only
    cases Nat.beq g' g <;> first | exact trivial | exact hk cs
  | some (.map _ _) => trivial
  | some (.dead _) => trivial
  | none => trivial
theorem tch_new {α : Type} {B : Nat → Prop} {i : Nat} {x : Nat → Blk} {k : Nat → Nat → HM α} (hb : B i) (hk : ∀ b g, (k b g).tch B) : (HM.new .dyn i x k).tch B := by
  refine ⟨hb, fun y => ?_⟩
  match y with
  | none => exact ⟨hb, hk _ _⟩
  | some z => trivial
def blks : AV → Option (List Nat)
  | .ptr b _ _ => some [b]
  | .sl b _ _ _ _ => some [b]
  | .map b _ => some [b]
  | .any => none
  | .agg _ => none
  | .tup [] => some []
  | .tup _ => none
  | .fn _ _ _ => none
  | .ifc _ _ => none
  | _ => some []
def Pts (v : AV) (bs : List Nat) : Prop := ∃ cs, blks v = some cs ∧ ∀ b ∈ cs, b ∈ bs
theorem Pts.mono {v : AV} {bs cs : List Nat} (h : Pts v bs) (hs : ∀ b ∈ bs, b ∈ cs) : Pts v cs := by
  obtain ⟨ds, h1, h2⟩ := h
  exact ⟨ds, h1, fun b hb => hs b (h2 b hb)⟩
abbrev Abs := List (Nat × Option (List Nat))
def absT (T : Tmps) : Abs → Nat → Option (List Nat)
  | [], i => blks (lk T i)
  | (j, a) :: r, i => bif Nat.beq j i then a else absT T r i
def absO (T : Tmps) (A : Abs) : Opd → Option (List Nat)
  | .t i => absT T A i
  | .c v => blks v
  | _ => none
def SOp.absV (i : Nat) (ax : Opd → Option (List Nat)) : SOp → Option (List Nat)
  | .mov x => ax x
  | .slice _ x _ _ _ => ax x
  | .iaddr _ _ x _ => ax x
  | .faddr _ x => ax x
  | .alloc .dyn _ => some [i]
  | .box .dyn _ => some [i]
  | .bslice false .dyn _ _ _ _ => some [i]
  | .mkslice .dyn _ _ _ _ _ => some [i]
  | .mkmap .dyn => some [i]
  | .append .dyn _ _ x _ => (ax x).map fun bs => i :: bs
  | _ => none
def SOp.touch (i : Nat) (ax : Opd → Option (List Nat)) : SOp → Option (List Nat)
  | .load _ x => ax x
  | .store _ x _ => ax x
  | .len _ x => ax x
  | .alloc .dyn _ => some [i]
  | .box .dyn _ => some [i]
  | .bslice _ .dyn _ _ _ _ => some [i]
  | .mkslice .dyn _ _ _ _ _ => some [i]
  | .mkmap .dyn => some [i]
  | .append .dyn _ _ x y => match ax x, ax y with
    | some a, some b => some (i :: (a ++ b))
    | _, _ => none
  | .copy _ x y => match ax x, ax y with
    | some a, some b => some (a ++ b)
    | _, _ => none
  | .lookup _ _ _ _ x _ => ax x
  | .mupd _ _ x _ _ => ax x
  | s => bif Nat.beq s.cls 0 then some [] else none
def touches (n : Nat) (T : Tmps) : List SOper → Abs → List (Option (List Nat))
  | [], _ => []
  | s :: r, A => s.op.touch n (absO T A) :: touches (n + 1) T r (match s.dst with | some d => (d, s.op.absV n (absO T A)) :: A | none => A)
def pairsOK (ts : List (Option (List Nat))) (ps : List (Nat × Nat)) : Bool :=
  ps.all fun p => match ts.getD p.1 none, ts.getD p.2 none with
    | some a, some b => a.all fun x => !b.elem x
    | _, _ => false
section
variable {i : Nat} {T : Tmps} {ax : Opd → Option (List Nat)} {B : Nat → Prop}
theorem tch_load {n : Option Nat} {v : AV} {bs : List Nat} (h : Pts v bs) : (aLoad n v).tch (· ∈ bs) := by
  obtain ⟨cs, h1, h2⟩ := h
  unfold aLoad
  split
  · simp only [blks, Option.some.injEq] at h1
    subst h1
    refine tch_cells (h2 _ (by simp)) fun cs => ?_
    split
    · exact tch_opt _
    · split <;> trivial
  · split
    · exact tch_opt _
    · split <;> trivial
  · trivial
theorem tch_store {n : Nat} {v u : AV} {bs : List Nat} (h : Pts v bs) : (aStore n v u).tch (· ∈ bs) := by
  obtain ⟨cs, h1, h2⟩ := h
  unfold aStore
  split
  · simp only [blks, Option.some.injEq] at h1
    subst h1
    have hb := h2 _ (List.mem_singleton.2 rfl)
    refine tch_cells hb fun cs => ?_
    split
    · exact ⟨hb, trivial⟩
    · trivial
  · trivial
theorem tch_len {k : Nat} {v : AV} {bs : List Nat} (h : Pts v bs) : (aLenC k v).tch (· ∈ bs) := by
  obtain ⟨cs, h1, h2⟩ := h
  unfold aLenC
  split
  · unfold aLen
    split <;> try trivial
    simp only [blks, Option.some.injEq] at h1
    subst h1
    refine ⟨h2 _ (by simp), fun y => ?_⟩
    match y with
    | some (.map g' es) =>
      simp only
      generalize Nat.beq g' _ = t
      cases t <;> trivial
    | some (.cells _ _) => trivial
    | some (.dead _) => trivial
    | none => trivial
  · trivial
theorem tch_src {sz : Nat} {v : AV} {bs : List Nat} {k : List AV → Nat → HM AV} (h : Pts v bs) (hs : ∀ b ∈ bs, B b) (hk : ∀ ys n, (k ys n).tch B) : (aSrc sz v k).tch B := by
  obtain ⟨cs, h1, h2⟩ := h
  unfold aSrc
  split
  · simp only [blks, Option.some.injEq] at h1
    subst h1
    split
    · refine tch_cells (hs _ (h2 _ (by simp))) fun cs => ?_
      split
      · exact hk _ _
      · trivial
    · trivial
  · split
    · exact hk _ _
    · trivial
  · exact hk _ _
  · exact hk _ _
  · split
    · exact hk _ _
    · trivial
  · trivial
theorem tch_append {sz bytes : Nat} {x y : AV} {a b : List Nat} (hx : Pts x a) (hy : Pts y b) : (aAppend .dyn i sz bytes x y).tch (· ∈ i :: (a ++ b)) := by
  unfold aAppend
  refine tch_src hy (fun c hc => by simp [hc]) fun ys n => ?_
  split
  · obtain ⟨cs, h1, h2⟩ := hx
    split
    · split
      · trivial
      · exact tch_new (by simp) fun _ _ => trivial
    · split
      · trivial
      · exact tch_new (by simp) fun _ _ => trivial
    · split <;> trivial
    · simp only [blks, Option.some.injEq] at h1
      subst h1
      have hb := h2 _ (List.mem_singleton.2 rfl)
      split
      · refine tch_cells (by simp [hb]) fun cs => ?_
        split
        · exact ⟨by simp [hb], trivial⟩
        · trivial
      · trivial
    · trivial
  · trivial
theorem tch_copy {sz : Nat} {x y : AV} {a b : List Nat} (hx : Pts x a) (hy : Pts y b) : (aCopy sz x y).tch (· ∈ a ++ b) := by
  obtain ⟨cs, h1, h2⟩ := hx
  unfold aCopy
  split
  · simp only [blks, Option.some.injEq] at h1
    subst h1
    have hb := h2 _ (List.mem_singleton.2 rfl)
    split
    · refine tch_src hy (fun c hc => by simp [hc]) fun ys n => ?_
      refine tch_cells (by simp [hb]) fun cs => ?_
      split
      · exact ⟨by simp [hb], trivial⟩
      · trivial
    · trivial
  · exact tch_src hy (fun c hc => by simp [hc]) fun ys n => trivial
  · exact tch_src hy (fun c hc => by simp [hc]) fun ys n => trivial
  · trivial
theorem tch_entries {α : Type} {b g : Nat} {k : List (AV × AV) → HM α} (hb : B b) (hk : ∀ es, (k es).tch B) : (HM.entries b g k).tch B := by
  refine ⟨hb, fun x => ?_⟩
  match x with
  | some (.map g' es) =>
    simp only
    cases Nat.beq g' g <;> first | exact trivial | exact hk es
  | some (.cells _ _) => trivial
  | some (.dead _) => trivial
  | none => trivial
theorem tch_lookup {row ok : Bool} {ks : List LK} {z x k : AV} {bs : List Nat} (h : Pts x bs) : (aLookup row ks z ok x k).tch (· ∈ bs) := by
  obtain ⟨cs, h1, h2⟩ := h
  unfold aLookup
  split
  · split
    · trivial
    · simp only [blks, Option.some.injEq] at h1
      subst h1
      refine tch_entries (h2 _ (by simp)) fun es => ?_
      split <;> trivial
    · trivial
  · trivial
theorem tch_mupd {row : Bool} {ks : List LK} {x k v : AV} {bs : List Nat} (h : Pts x bs) : (aMapUpd row ks x k v).tch (· ∈ bs) := by
  obtain ⟨cs, h1, h2⟩ := h
  unfold aMapUpd
  split
  · split
    · simp only [blks, Option.some.injEq] at h1
      subst h1
      have hb := h2 _ (List.mem_singleton.2 rfl)
      refine tch_entries hb fun es => ?_
      split
      · exact ⟨hb, trivial⟩
      · exact ⟨hb, trivial⟩
      · trivial
    · trivial
  · trivial
theorem tch_hval {m : HM AV} (h : m.tch B) : (hval m).tch B := HM.tch_bind h fun _ => trivial
theorem touch_op {s : SOp} {ts : List Nat} (hax : ∀ x bs, ax x = some bs → Pts (ev T x) bs) (h : s.touch i ax = some ts) : s.cls ≠ 0 → (aop i T s).tch (· ∈ ts) ∧ ∀ m x asx, s ≠ .call m x asx := by
  intro h0
  have new1 : ∀ {x : Nat → Blk} {r : Nat → Nat → AV}, (HM.new .dyn i x fun b g => .ret (r b g)).tch (· ∈ [i]) := fun {x r} => tch_new (by simp) fun _ _ => trivial
  cases s <;> try (exact absurd rfl h0)
  · rename_i s z
    cases s <;> simp only [SOp.touch, SOp.cls, show Nat.beq 2 0 = false from rfl, cond_false, reduceCtorEq, Option.some.injEq] at h
    subst h
    refine ⟨tch_hval ?_, fun _ _ _ => by simp⟩
    unfold aBox; split
    · exact new1
    · trivial
  · rename_i s z
    cases s <;> simp only [SOp.touch, SOp.cls, show Nat.beq 2 0 = false from rfl, cond_false, reduceCtorEq, Option.some.injEq] at h
    subst h
    refine ⟨tch_hval ?_, fun _ _ _ => by simp⟩
    unfold aBox; split
    · exact new1
    · trivial
  · rename_i fz s sz len z ps
    cases s <;> simp only [SOp.touch, SOp.cls, show Nat.beq 2 0 = false from rfl, cond_false, reduceCtorEq, Option.some.injEq] at h
    subst h
    refine ⟨tch_hval ?_, fun _ _ _ => by simp⟩
    unfold aBuildSlice
    split
    · split
      · split
        · split <;> trivial
        · exact new1
      · trivial
    · trivial
  · exact ⟨tch_hval (tch_load (hax _ _ h)), fun _ _ _ => by simp⟩
  · exact ⟨tch_hval (tch_store (hax _ _ h)), fun _ _ _ => by simp⟩
  · simp only [SOp.touch, SOp.cls, show Nat.beq 1 0 = false from rfl, cond_false, reduceCtorEq] at h
  · rename_i s
    cases s <;> simp only [SOp.touch, SOp.cls, show Nat.beq 2 0 = false from rfl, cond_false, reduceCtorEq, Option.some.injEq] at h
    subst h
    exact ⟨tch_hval new1, fun _ _ _ => by simp⟩
  · rename_i s sz b z l c
    cases s <;> simp only [SOp.touch, SOp.cls, show Nat.beq 2 0 = false from rfl, cond_false, reduceCtorEq, Option.some.injEq] at h
    subst h
    refine ⟨tch_hval ?_, fun _ _ _ => by simp⟩
    unfold aMakeSlice
    split
    · split
      · exact new1
      · trivial
    · trivial
  · exact ⟨tch_hval (tch_lookup (hax _ _ h)), fun _ _ _ => by simp⟩
  · exact ⟨tch_hval (tch_mupd (hax _ _ h)), fun _ _ _ => by simp⟩
  · exact ⟨tch_hval (tch_len (hax _ _ h)), fun _ _ _ => by simp⟩
  · rename_i s sz b x y
    cases s <;> simp only [SOp.touch, SOp.cls, show Nat.beq 2 0 = false from rfl, cond_false, reduceCtorEq] at h
    split at h
    · rename_i a b ha hb
      cases h
      exact ⟨tch_hval (tch_append (hax _ _ ha) (hax _ _ hb)), fun _ _ _ => by simp⟩
    · cases h
  · rename_i sz x y
    simp only [SOp.touch] at h
    split at h
    · rename_i a b ha hb
      cases h
      exact ⟨tch_hval (tch_copy (hax _ _ ha) (hax _ _ hb)), fun _ _ _ => by simp⟩
    · cases h
  · rename_i m x asx
    exfalso
    simp only [SOp.touch] at h
    have : Nat.beq (SOp.call m x asx).cls 0 = false := by cases m <;> rfl
    rw [this] at h; cases h
theorem touch_sound {s : SOper} {h h1 : Heap} {v : AV} {f : FP} {ts : List Nat} (hax : ∀ x bs, ax x = some bs → Pts (ev T x) bs) (ht : s.op.touch i ax = some ts) (hs : StepV P i s T h v h1 f) :
    f.all = false ∧ ∀ b, b ∈ f.R ∨ b ∈ f.W → b ∈ ts := by
  by_cases h0 : s.op.cls = 0
  · obtain ⟨k1, k2, k3⟩ := hs.cls (by omega)
    exact ⟨k1, fun b hb => by rw [k2, k3 h0] at hb; simp at hb⟩
  obtain ⟨t1, t2⟩ := touch_op hax ht h0
  have key : ∀ {s' : SOp}, s' = s.op → StepX P i s' T h v h1 f → f.all = false ∧ ∀ b, b ∈ f.R ∨ b ∈ f.W → b ∈ ts := by
    rintro s' rfl ⟨out, h2, hm, ho⟩
    have fin : f = fpOf ((aop i T s.op).fp h) → f.all = false ∧ ∀ b, b ∈ f.R ∨ b ∈ f.W → b ∈ ts := by
      rintro rfl; exact ⟨rfl, fun b hb => HM.tch_fp _ t1 h b hb⟩
    match out, ho with
    | .val u, ho => exact fin ho.2.2
    | .call .pure f' args, ho => exact fin ho.2.2
    | .call .borrow f' args, ho => exact fin ho.2.2.2
    | .call .heap f' args, ho =>
      exfalso
      cases hso : s.op with
      | call m x asx => exact t2 m x asx hso
      | _ =>
        rw [hso] at hm
        first
          | (obtain ⟨u, hu, he⟩ := run_lift hm; cases he)
          | (obtain ⟨u, h3, hu, he⟩ := run_hval hm; cases he)
          | (simp [aop, HM.run] at hm)
  unfold StepV at hs
  split at hs
  · exact key rfl hs
  · obtain ⟨t, _, hs⟩ := hs
    split at hs
    · exact key rfl hs
    · obtain ⟨_, _, rfl⟩ := hs; exact ⟨rfl, fun b hb => by simp at hb⟩
theorem Pts.slice {n : Option Nat} {x v : AV} {l h m : Option AV} {bs : List Nat} (hx : Pts x bs) (hv : aSliceC n x l h m = some v) : Pts v bs := by
  obtain ⟨cs, h1, h2⟩ := hx
  have key : aSlice x l h m = some v → Pts v bs := by
    intro hv
    unfold aSlice at hv
    have nil : ∀ {v : AV}, blks v = some [] → Pts v bs := fun h => ⟨[], h, fun b hb => by cases hb⟩
    split at hv
    · cases hv
    · split at hv
      · split at hv
        · split at hv
          · split at hv <;> first | (cases hv; exact nil rfl) | cases hv
          · cases hv
        · cases hv
      · cases hv
      · split at hv
        · split at hv
          · cases hv
          · split at hv
            · cases hv; exact ⟨cs, h1, h2⟩
            · cases hv
        · split at hv
          · cases hv
          · split at hv
            · cases hv; exact nil rfl
            · cases hv
        · split at hv
          · cases hv
          · split at hv
            · cases hv; exact nil rfl
            · cases hv
        · split at hv
          · cases hv
          · split at hv
            · cases hv; exact nil rfl
            · cases hv
        · split at hv
          · cases hv
          · split at hv
            · cases hv; exact nil rfl
            · cases hv
        · cases hv
  unfold aSliceC at hv
  split at hv <;> first | exact key hv | cases hv | (split at hv; exact key hv; cases hv)
theorem Pts.iaddr {a : Option Nat} {sz : Nat} {x j v : AV} {bs : List Nat} (hx : Pts x bs) (hv : aIAddr a sz x j = some v) : Pts v bs := by
  obtain ⟨cs, h1, h2⟩ := hx
  have nil : ∀ {v : AV}, blks v = some [] → Pts v bs := fun h => ⟨[], h, fun b hb => by cases hb⟩
  unfold aIAddr at hv
  split at hv
  · split at hv <;> first | (split at hv <;> first | (cases hv; first | exact ⟨cs, h1, h2⟩ | exact nil rfl) | cases hv) | cases hv
  · cases hv
theorem Pts.faddr {off : Nat} {x v : AV} {bs : List Nat} (hx : Pts x bs) (hv : aFAddr off x = some v) : Pts v bs := by
  obtain ⟨cs, h1, h2⟩ := hx
  have nil : ∀ {v : AV}, blks v = some [] → Pts v bs := fun h => ⟨[], h, fun b hb => by cases hb⟩
  unfold aFAddr at hv
  split at hv
  · cases hv; exact ⟨cs, h1, h2⟩
  · cases hv; exact nil rfl
  · cases hv
def HM.gives {α : Type} (R : α → Prop) : HM α → Prop
  | .ret a => R a
  | .fail => True
  | .look _ k => ∀ x, (k x).gives R
  | .put _ _ k => k.gives R
theorem HM.gives_run {α : Type} {R : α → Prop} (m : HM α) : m.gives R → ∀ h a h1, m.run h = some (a, h1) → R a := by
  induction m with
  | ret a => intro hr h b h1 hm; simp only [HM.run, Option.some.injEq, Prod.mk.injEq] at hm; rw [← hm.1]; exact hr
  | fail => intro _ h b h1 hm; simp [HM.run] at hm
  | look b k ih => intro hr h a h1 hm; exact ih _ (hr _) h a h1 hm
  | put b x k ih => intro hr h a h1 hm; exact ih hr _ a h1 (run_put hm).2
theorem gives_cells {α : Type} {R : α → Prop} {b g : Nat} {k : List AV → HM α} (hk : ∀ cs, (k cs).gives R) : (HM.cells b g k).gives R := by
  intro x
  match x with
  | some (.cells g' cs) =>
    simp only
    cases Nat.beq g' g <;> first | exact trivial | exact hk cs
  | some (.map _ _) => trivial
  | some (.dead _) => trivial
  | none => trivial
theorem gives_new {α : Type} {R : α → Prop} {i : Nat} {x : Nat → Blk} {k : Nat → Nat → HM α} (hk : (k i 0).gives R) : (HM.new .dyn i x k).gives R := by
  intro y
  match y with
  | none => exact hk
  | some z => trivial
theorem gives_src {R : AV → Prop} {sz : Nat} {v : AV} {k : List AV → Nat → HM AV} (hk : ∀ ys n, (k ys n).gives R) : (aSrc sz v k).gives R := by
  unfold aSrc
  split
  · split
    · refine gives_cells fun cs => ?_
      split
      · exact hk _ _
      · trivial
    · trivial
  · split
    · exact hk _ _
    · trivial
  · exact hk _ _
  · exact hk _ _
  · split
    · exact hk _ _
    · trivial
  · trivial
theorem gives_append {sz bytes : Nat} {x y : AV} {a : List Nat} (hx : Pts x a) : (aAppend .dyn i sz bytes x y).gives fun v => Pts v (i :: a) := by
  have nil : ∀ {v : AV}, blks v = some [] → Pts v (i :: a) := fun h => ⟨[], h, fun b hb => by cases hb⟩
  unfold aAppend
  refine gives_src fun ys n => ?_
  split
  · obtain ⟨cs, h1, h2⟩ := hx
    split
    · split
      · exact nil rfl
      · exact gives_new ⟨_, rfl, fun b hb => by simp at hb; simp [hb]⟩
    · split
      · exact nil rfl
      · exact gives_new ⟨_, rfl, fun b hb => by simp at hb; simp [hb]⟩
    · split
      · exact nil rfl
      · trivial
    · simp only [blks, Option.some.injEq] at h1
      subst h1
      split
      · refine gives_cells fun cs => ?_
        split
        · exact ⟨_, rfl, fun b hb => List.mem_cons_of_mem _ (h2 b hb)⟩
        · trivial
      · trivial
    · trivial
  · trivial
theorem absV_sound {s : SOper} {h h1 : Heap} {v : AV} {f : FP} {bs : List Nat} (hax : ∀ x bs, ax x = some bs → Pts (ev T x) bs) (ht : s.op.absV i ax = some bs) (hs : StepV P i s T h v h1 f) : Pts v bs := by
  have self : ∀ {v : AV}, blks v = some [i] → Pts v [i] := fun h => ⟨_, h, fun b hb => hb⟩
  have key : ∀ {s' : SOp}, s'.absV i ax = some bs → StepX P i s' T h v h1 f → Pts v bs := by
    rintro s' ht ⟨out, h2, hm, ho⟩
    have hv : ∀ {m : HM AV}, aop i T s' = hval m → (m.gives fun v => Pts v bs) → Pts v bs := by
      intro m e hg
      rw [e] at hm
      obtain ⟨u, h3, hu, he⟩ := run_hval hm
      cases he
      rw [ho.1]
      exact HM.gives_run _ hg _ _ _ hu
    have hl : ∀ {o : Option AV}, aop i T s' = lift o → (∀ u, o = some u → Pts u bs) → Pts v bs := by
      intro o e hg
      rw [e] at hm
      obtain ⟨u, hu, he⟩ := run_lift hm
      cases he
      rw [ho.1]
      exact hg _ hu
    cases s' <;> try (simp only [SOp.absV, reduceCtorEq] at ht; done)
    · simp only [aop, HM.run, Option.some.injEq, Prod.mk.injEq] at hm
      obtain ⟨rfl, rfl⟩ := hm
      rw [ho.1]; exact hax _ _ ht
    · rename_i s z
      cases s <;> simp only [SOp.absV, reduceCtorEq, Option.some.injEq] at ht
      subst ht
      refine hv rfl ?_
      unfold aBox; split
      · exact gives_new (self rfl)
      · trivial
    · rename_i s z
      cases s <;> simp only [SOp.absV, reduceCtorEq, Option.some.injEq] at ht
      subst ht
      refine hv rfl ?_
      unfold aBox; split
      · exact gives_new (self rfl)
      · trivial
    · rename_i fz s sz len z ps
      cases fz <;> cases s <;> simp only [SOp.absV, reduceCtorEq, Option.some.injEq] at ht
      subst ht
      refine hv rfl ?_
      unfold aBuildSlice
      split
      · split
        · rw [if_neg (by simp)]; exact gives_new (self rfl)
        · trivial
      · trivial
    · rename_i s
      cases s <;> simp only [SOp.absV, reduceCtorEq, Option.some.injEq] at ht
      subst ht
      exact hv rfl (gives_new (self rfl))
    · rename_i s sz b z l c
      cases s <;> simp only [SOp.absV, reduceCtorEq, Option.some.injEq] at ht
      subst ht
      refine hv rfl ?_
      unfold aMakeSlice
      split
      · split
        · exact gives_new (self rfl)
        · trivial
      · trivial
    · exact hl rfl fun u hu => (hax _ _ ht).slice hu
    · exact hl rfl fun u hu => (hax _ _ ht).faddr hu
    · exact hl rfl fun u hu => (hax _ _ ht).iaddr hu
    · rename_i s sz b x y
      cases s <;> simp only [SOp.absV, reduceCtorEq, Option.map_eq_some_iff] at ht
      obtain ⟨a, ha, rfl⟩ := ht
      exact hv rfl (gives_append (hax _ _ ha))
  unfold StepV at hs
  split at hs
  · exact key ht hs
  · obtain ⟨t, _, hs⟩ := hs
    split at hs
    · exact key ht hs
    · obtain ⟨rfl, _⟩ := hs; exact ⟨[], rfl, fun b hb => by cases hb⟩
end
def AbsOK (T0 : Tmps) (A : Abs) (T : Tmps) : Prop := ∀ j bs, absT T0 A j = some bs → Pts (lk T j) bs
theorem AbsOK.opd {T0 T : Tmps} {A : Abs} (h : AbsOK T0 A T) : ∀ x bs, absO T0 A x = some bs → Pts (ev T x) bs := by
  intro x bs hx
  cases x with
  | t i => exact h i bs hx
  | c v => exact ⟨bs, hx, fun b hb => hb⟩
  | f n => cases hx
  | g n => cases hx
theorem AbsOK.nil {T : Tmps} : AbsOK T [] T := fun j bs h => ⟨bs, h, fun b hb => hb⟩
theorem AbsOK.up {T0 T : Tmps} {A : Abs} {d : Nat} {v : AV} {a : Option (List Nat)} (h : AbsOK T0 A T) (hv : ∀ bs, a = some bs → Pts v bs) : AbsOK T0 ((d, a) :: A) (up T d v) := by
  intro j bs hj
  rw [lk_up]
  simp only [absT] at hj
  by_cases e : d = j
  · subst e
    have e1 : Nat.beq d d = true := by simp
    rw [e1] at hj
    rw [if_pos rfl]
    exact hv bs hj
  · have : Nat.beq d j = false := by rw [Bool.eq_false_iff]; simpa using e
    rw [this] at hj
    rw [if_neg (fun h => e h.symm)]
    exact h j bs hj
theorem wpRF_of {T0 : Tmps} : ∀ {r : List SOper} {n : Nat} {A : Abs} {T : Tmps} {h : Heap} {K : Tmps → Heap → Nat → Prop} (hA : AbsOK T0 A T) (K' : List FP → Tmps → Heap → Nat → Prop),
    (∀ fs T h n', fs.length = r.length → (∀ (j : Nat) ts, (touches n T0 r A).getD j none = some ts → (fs.getD j ⟨false, [], []⟩).all = false ∧ ∀ b, b ∈ (fs.getD j ⟨false, [], []⟩).R ∨ b ∈ (fs.getD j ⟨false, [], []⟩).W → b ∈ ts) → K T h n' → K' fs T h n') →
    wpR P n r T h K → wpRF P n r T h K'
  | [], n, A, T, h, K, hA, K', hK, hw => hK [] T h n rfl (fun j ts hj => by simp [touches] at hj) hw
  | s :: r, n, A, T, h, K, hA, K', hK, hw => by
    obtain ⟨v, h1, f, hs, hr⟩ := hw
    refine ⟨v, h1, f, hs, ?_⟩
    have hA2 : AbsOK T0 (match s.dst with | some d => (d, s.op.absV n (absO T0 A)) :: A | none => A) (putD T s.dst v) := by
      cases s.dst with
      | none => exact hA
      | some d => exact AbsOK.up hA fun bs hb => absV_sound hA.opd hb hs
    refine wpRF_of hA2 (fun fs T h n => K' (f :: fs) T h n) (fun fs T h n' hl hf hk => ?_) hr
    refine hK (f :: fs) T h n' (by simp [hl]) (fun j ts hj => ?_) hk
    cases j with
    | zero =>
      simp only [touches, List.getD_cons_zero] at hj ⊢
      exact touch_sound hA.opd hj hs
    | succ j =>
      simp only [touches, List.getD_cons_succ] at hj ⊢
      exact hf j ts hj
inductive PairsOK (n : Nat) (T : Tmps) (ops : List SOper) (ps : List (Nat × Nat)) : Prop
  | mk (h : pairsOK (touches n T ops []) ps = true)
theorem wS_regionP {N : NM} {ops : List SOper} {p : Nat × Nat} {ps : List (Nat × Nat)} {dead : List Nat} {fs : List Fr} {n : Nat} {T : Tmps} {h : Heap} {Q : QC} (hp : PairsOK n T ops (p :: ps)) :
    wS P N (.region ops (p :: ps) dead) fs n T h Q = wR P N ops dead fs n T h Q := by
  obtain ⟨hp⟩ := hp
  apply propext; constructor
  · intro hw
    have : ∀ {r : List SOper} {n : Nat} {T : Tmps} {h : Heap} {K : List FP → Tmps → Heap → Nat → Prop} {K' : Tmps → Heap → Nat → Prop}, (∀ fs T h n, K fs T h n → K' T h n) → wpRF P n r T h K → wpR P n r T h K' := by
      intro r
      induction r with
      | nil => intro n T h K K' hK hw; exact hK _ _ _ _ hw
      | cons s r ih =>
        rintro n T h K K' hK ⟨v, h1, f, hs, hr⟩
        exact ⟨v, h1, f, hs, ih (fun fs T h n hk => hK _ _ _ _ hk) hr⟩
    exact this (fun fs' T h n hk => hk.2) hw
  · intro hw
    refine wpRF_of AbsOK.nil _ (fun fs' T h n' hl hf hk => ⟨?_, hk⟩) hw
    rw [List.all_eq_true]
    intro q hq
    have := List.all_eq_true.1 hp q hq
    split at this
    · rename_i a b ha hb
      obtain ⟨f1, f2⟩ := hf _ _ ha
      obtain ⟨g1, g2⟩ := hf _ _ hb
      have hd : ∀ x y, x ∈ a → y ∈ b → x ≠ y := by
        rintro x y hx hy rfl
        have := List.all_eq_true.1 this x hx
        simp [hy] at this
      have dj : ∀ xs ys : List Nat, (∀ x ∈ xs, ∀ y ∈ ys, x ≠ y) → disj xs ys = true := by
        intro xs ys hh
        unfold disj
        rw [List.all_eq_true]
        intro x hx
        simp only [Bool.not_eq_true', List.contains_eq_mem, decide_eq_false_iff_not]
        intro hy
        exact hh x hx x hy rfl
      unfold FP.apart
      rw [f1, g1]
      simp only [Bool.and_eq_true]
      refine ⟨⟨dj _ _ fun x hx y hy => ?_, dj _ _ fun x hx y hy => ?_⟩, dj _ _ fun x hx y hy => ?_⟩
      · first | exact hd x y (f2 x (.inr hx)) (g2 y (.inl hy)) | exact fun e => hd y x (f2 y (.inl hy)) (g2 x (.inr hx)) e.symm
      · first | exact hd x y (f2 x (.inr hx)) (g2 y (.inr hy)) | exact fun e => hd y x (f2 y (.inr hy)) (g2 x (.inr hx)) e.symm
      · first | exact fun e => hd y x (f2 y (.inl hy)) (g2 x (.inr hx)) e.symm | exact fun e => hd y x (f2 y (.inr hy)) (g2 x (.inl hx)) e.symm | exact hd x y (f2 x (.inl hx)) (g2 y (.inr hy))
    · cases this
theorem FrzL.nil {h : Heap} : FrzL h [] [] := trivial
theorem FrzL.cons {h : Heap} {x y : AV} {xs ys : List AV} (h1 : FrzTo h x y) (h2 : FrzL h xs ys) : FrzL h (x :: xs) (y :: ys) := ⟨h1, h2⟩
end Go.AM
