/- The abstract machine: new blocks and appending, in words for the simplifier; blocks that are free. -/
import Derived.Test.YteaeobmbfhaklaaAmQ
set_option linter.unusedSimpArgs false
set_option linter.unusedVariables false
namespace Go.AM
variable {P : Program}
section
variable {N : NM} {n : Nat} {d : Option Nat} {af dead : List Nat} {r : List SOper} {T : Tmps} {h : Heap} {Q : QC} {fs : List Fr}

/-- Cells for a new block. -/
def wL (P : Program) (N : NM) (o : Option (List AV)) (len : Nat) (v : AV) (d : Option Nat) (ops : List SOper) (dead : List Nat) (fs : List Fr) (n : Nat) (T : Tmps) (h : Heap) (Q : QC) : Prop :=
  ∃ cs, o = some cs ∧ cs.length = len ∧ wN P N cs v d ops dead fs n T h Q
theorem wL_some {cs : List AV} {len : Nat} {v : AV} : wL P N (some cs) len v d r dead fs n T h Q = if cs.length = len then wN P N cs v d r dead fs n T h Q else False := by
  by_cases hl : cs.length = len <;> simp [wL, hl]
theorem wN_free {x : List AV} {v : AV} (hn : h.get n = none) (hl : n < 1099511627775) : wN P N x v d r dead fs n T h Q = wR P N r dead fs (n + 1) (putD T d v) (h.set n (.cells 0 x)) Q := wN_new hn hl
theorem wN_go {x : List AV} {v : AV} (hl : n < 1099511627775) : wN P N x v d r dead fs n T h Q = if h.get n = none then wR P N r dead fs (n + 1) (putD T d v) (h.set n (.cells 0 x)) Q else False := by
  split
  · rename_i hn; exact wN_new hn hl
  · rename_i hn; simp [wN, hn]
theorem wB_go {x : Blk} {b : Nat} {v : AV} (hl : b < 1099511627775) : wB P N (some x) b v d r dead fs n T h Q = wR P N r dead fs (n + 1) (putD T d v) (h.set b x) Q := wB_some hl
theorem get_same {k : Nat} {x : Blk} (hk : k < 1099511627775) : (h.set k x).get k = some x := by rw [Tr.get_set h hk]; simp
theorem get_ne {j k : Nat} {x : Blk} (hk : k < 1099511627775) (hj : j ≠ k) : (h.set k x).get j = h.get j := by rw [Tr.get_set h hk]; simp [hj]

theorem wM_new {x : Nat → Blk} {y : List AV} (hx : x 0 = .cells 0 y) {w : Nat → Nat → AV} : wM P N (HM.new .dyn n x fun b g => .ret (w b g)) d r dead fs n T h Q = wN P N y (w n 0) d r dead fs n T h Q := by
  apply propext; constructor
  · rintro ⟨v', h1, hm, hk⟩
    unfold HM.new at hm
    simp only [HM.run] at hm
    cases hn : h.get n with
    | none =>
      rw [hn] at hm
      obtain ⟨hl, hm⟩ := run_put hm
      simp only [HM.run, Option.some.injEq, Prod.mk.injEq] at hm
      obtain ⟨rfl, rfl⟩ := hm
      rw [hx] at hk
      exact ⟨hn, hl, hk⟩
    | some z => rw [hn] at hm; cases hm
  · rintro ⟨hn, hl, hk⟩
    refine ⟨_, _, ?_, by rw [← hx] at hk; exact hk⟩
    unfold HM.new
    simp only [HM.run, hn]
    have hl' : Nat.blt n lim = true := by simp [Nat.blt]; omega
    rw [hl']; rfl

theorem aBox_new {x : AV} : wM P N (aBox .dyn n x) d r dead fs n T h Q = if x.boxable = true then wN P N x.cells (.ptr n 0 0) d r dead fs n T h Q else False := by
  split
  · rename_i hb; exact aBox_dyn hb
  · rename_i hb; simp only [aBox, if_neg hb, wM_fail]

theorem aBuildSlice_new {sz len : Nat} {z : List AV} {ps : List (Nat × Nat × AV)} : wM P N (aBuildSlice false .dyn n sz len z ps) d r dead fs n T h Q = wL P N (fillA z ps) (len * sz) (.sl n 0 0 len sz) d r dead fs n T h Q := by
  unfold aBuildSlice
  cases fillA z ps with
  | none => simp [wM_fail, wL]
  | some cs =>
    simp only [wL_some, Bool.false_eq_true, if_false]
    split
    · exact wM_new rfl
    · exact wM_fail
theorem aMakeSlice_new {sz bytes : Nat} {z : List AV} {k1 k2 : IntKind} {l c : Int} : wM P N (aMakeSlice .dyn n sz bytes z (.int k1 l) (.int k2 c)) d r dead fs n T h Q =
    if 0 ≤ l ∧ l ≤ c ∧ bytes * c ≤ 1099511627776 ∧ c ≤ 1099511627776 then wN P N (List.replicate c.toNat z).flatten (.sl n 0 0 l.toNat sz) d r dead fs n T h Q else False := by
  by_cases hc : 0 ≤ l ∧ l ≤ c ∧ bytes * c ≤ 1099511627776 ∧ c ≤ 1099511627776
  · simp only [aMakeSlice, if_pos hc]; exact wM_new (x := fun g => .cells g (List.replicate c.toNat z).flatten) rfl
  · simp only [aMakeSlice, if_neg hc]; exact wM_fail
theorem fillA_nil {cs : List AV} : fillA cs [] = some cs := rfl
theorem fillA_cons {cs : List AV} {off size : Nat} {v : AV} {r : List (Nat × Nat × AV)} : fillA cs ((off, size, v) :: r) = if v.cells.length = size ∧ off + size ≤ cs.length ∧ v.boxable = true then fillA (putR cs off v.cells) r else none := rfl
theorem aBuild_eq {z : List AV} {ps : List (Nat × Nat × AV)} : aBuild z ps = (fillA z ps).map AV.agg := by unfold aBuild; cases fillA z ps <;> rfl
theorem wO_map {o : Option (List AV)} {f : List AV → AV} : wO P N (o.map f) d r dead fs n T h Q = ∃ cs, o = some cs ∧ wR P N r dead fs (n + 1) (putD T d (f cs)) h Q := by
  cases o <;> simp [wO]
theorem cells_int {k : IntKind} {a : Int} : (AV.int k a).cells = [.int k a] := rfl
theorem cells_agg {cs : List AV} : (AV.agg cs).cells = cs := rfl
theorem cells_sl {b g off len sz : Nat} : (AV.sl b g off len sz).cells = [.sl b g off len sz] := rfl
theorem cells_fsl {cs : List AV} {len sz : Nat} : (AV.fsl cs len sz).cells = [.fsl cs len sz] := rfl
theorem cells_nilsl : AV.nilsl.cells = [.nilsl] := rfl
theorem box_int {k : IntKind} {a : Int} : (AV.int k a).boxable = true := rfl
theorem box_agg {cs : List AV} : (AV.agg cs).boxable = true := rfl
theorem box_sl {b g off len sz : Nat} : (AV.sl b g off len sz).boxable = true := rfl
theorem box_fsl {cs : List AV} {len sz : Nat} : (AV.fsl cs len sz).boxable = true := rfl
theorem box_nilsl : AV.nilsl.boxable = true := rfl
theorem one_int {k : IntKind} {a : Int} : (AV.int k a).one = true := rfl
theorem one_sl {b g off len sz : Nat} : (AV.sl b g off len sz).one = true := rfl
theorem one_fsl {cs : List AV} {len sz : Nat} : (AV.fsl cs len sz).one = true := rfl
theorem one_nilsl : AV.nilsl.one = true := rfl
theorem putR_one {cs : List AV} {off : Nat} {v : AV} : putR cs off [v] = cs.set off v := rfl
theorem putR_many {cs : List AV} {off : Nat} {v w : AV} {vs : List AV} : putR cs off (v :: w :: vs) = cs.take off ++ (v :: w :: vs) ++ cs.drop (off + (v :: w :: vs).length) := rfl

/-- What is appended. -/
def srcB (o : Option Blk) (g off len sz : Nat) : Option (List AV) :=
  match o with
  | some (.cells g' cs) => if g' = g ∧ off + len * sz ≤ cs.length then some ((cs.drop off).take (len * sz)) else none
  | _ => none
theorem srcB_some {g g' off len sz : Nat} {cs : List AV} : srcB (some (.cells g' cs)) g off len sz = if g' = g ∧ off + len * sz ≤ cs.length then some ((cs.drop off).take (len * sz)) else none := rfl

/-- Appending to nil a row of the call's own. -/
theorem aAppend_nil {sz bytes b g off len : Nat} : wM P N (aAppend .dyn n sz bytes .nilsl (.sl b g off (len + 1) sz)) d r dead fs n T h Q =
    ∃ ys, srcB (h.get b) g off (len + 1) sz = some ys ∧ ((len + 1) * bytes ≤ 1099511627776 ∧ len + 1 ≤ 1099511627776) ∧ ys.all AV.one = true ∧ wN P N ys (.sl n 0 0 (len + 1) sz) d r dead fs n T h Q := by
  simp only [aAppend, aSrc, if_true, slLen, Nat.zero_add, wM_cells, wM_ite]
  apply propext; constructor
  · rintro ⟨cs, hb, h1, h2, h3⟩
    rw [hb, srcB_some, if_pos ⟨rfl, h1⟩]
    exact ⟨_, rfl, ⟨h2.1, h2.2.1⟩, h2.2.2, by rw [wM_new rfl] at h3; exact h3⟩
  · rintro ⟨ys, hy, h2, h3, h4⟩
    unfold srcB at hy
    split at hy
    · rename_i g' cs hb
      split at hy
      · rename_i e
        obtain ⟨rfl, e⟩ := e
        cases hy
        exact ⟨cs, hb, e, ⟨h2.1, h2.2, h3⟩, by rw [wM_new rfl]; exact h4⟩
      · cases hy
    · cases hy

/-- Appending to a row of the call's own. -/
theorem aAppend_sl {sz bytes b g off len b2 g2 off2 len2 : Nat} : wM P N (aAppend .dyn n sz bytes (.sl b2 g2 off2 len2 sz) (.sl b g off len sz)) d r dead fs n T h Q =
    ∃ ys zs, srcB (h.get b) g off len sz = some ys ∧ srcB (h.get b2) g2 off2 len2 sz = some zs ∧ ((len2 + len) * bytes ≤ 1099511627776 ∧ len2 + len ≤ 1099511627776) ∧ ys.all AV.one = true ∧
      wB P N (some (.cells (g2 + 1) (zs ++ ys))) b2 (.sl b2 (g2 + 1) 0 (len2 + len) sz) d r dead fs n T h Q := by
  simp only [aAppend, aSrc, if_true, slLen, wM_cells, wM_ite, wM_put]
  apply propext; constructor
  · rintro ⟨cs, hb, h1, h2, cs2, hb2, h3, h4⟩
    rw [hb, hb2, srcB_some, srcB_some, if_pos ⟨rfl, h1⟩, if_pos ⟨rfl, h3⟩]
    exact ⟨_, _, rfl, rfl, ⟨h2.1, h2.2.1⟩, h2.2.2, h4⟩
  · rintro ⟨ys, zs, hy, hz, h2, h3, h4⟩
    unfold srcB at hy hz
    split at hy
    · rename_i g' cs hb
      split at hy
      · rename_i e
        obtain ⟨rfl, e⟩ := e
        cases hy
        split at hz
        · rename_i g3 cs2 hb2
          split at hz
          · rename_i e2
            obtain ⟨rfl, e2⟩ := e2
            cases hz
            exact ⟨cs, hb, e, ⟨h2.1, h2.2, h3⟩, cs2, hb2, e2, h4⟩
          · cases hz
        · cases hz
      · cases hy
    · cases hy
end

/-- From n on all blocks are free. -/
def Fresh (n : Nat) (h : Heap) : Prop := ∀ b, n ≤ b → h.get b = none
theorem Fresh.e {n : Nat} : Fresh n .e := fun b _ => by simp [Tr.get]
theorem Fresh.le {n m : Nat} {h : Heap} (hf : Fresh n h) (hl : n ≤ m) : Fresh m h := fun b hb => hf b (Nat.le_trans hl hb)
theorem Fresh.set {n k : Nat} {h : Heap} {x : Blk} (hf : Fresh n h) (hk : k < 1099511627775) (hl : k < n) : Fresh n (h.set k x) := fun b hb => by
  rw [get_ne hk (by omega)]; exact hf b hb
end Go.AM
