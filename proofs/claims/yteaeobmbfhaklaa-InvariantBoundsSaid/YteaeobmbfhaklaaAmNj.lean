/- The walk of InvariantIncidence. Conditions: none of ours. -/
import Derived.Test.YteaeobmbfhaklaaAmNi
import Derived.Test.YteaeobmbfhaklaaAmVt
import Derived.Test.YteaeobmbfhaklaaAmUa
namespace Go.AM.SN
open Go.Proofs
set_option maxRecDepth 100000
set_option linter.unusedSimpArgs false
set_option linter.unusedVariables false

/-! ### a described net that comes in -/
abbrev tySm : Ty := .st (.pair (.int .u8) (.pair (.arr 5 (.int .u8)) (.pair (.sl (.arr 5 (.int .u8))) .unit)))
abbrev ty5 : Ty := .arr 5 (.int .u8)
theorem u8_wf {n : Int} (h : (Lit.int .u8 n).wf = true) : 0 ≤ n ∧ n < 256 := by
  simp [Lit.wf, IntKind.min, IntKind.max, IntKind.signed, IntKind.bits] at h
  omega
theorem u8s_in {l : List Int} (h : ∀ x ∈ l, (Lit.int .u8 x).wf = true) : l.flatMap (Ty.cells (.int .u8)) = u8s (l.map Int.toNat) := by
  induction l with
  | nil => rfl
  | cons x l ih =>
    have h1 := u8_wf (h x (by simp))
    rw [List.flatMap_cons, ih fun y hy => h y (by simp [hy])]
    simp only [Ty.cells, u8s, List.map_cons, List.singleton_append]
    rw [Int.toNat_of_nonneg h1.1]
theorem arr5_in {w : ty5.D} (h : ty5.wf w) : ∃ l : List Nat, l.length = 5 ∧ (∀ x ∈ l, x < 256) ∧ ty5.cells w = u8s l := by
  obtain ⟨h1, h2⟩ := h
  refine ⟨(show List Int from w).map Int.toNat, by rw [List.length_map]; exact h1, fun x hx => ?_, u8s_in h2⟩
  obtain ⟨y, hy, rfl⟩ := List.mem_map.1 hx
  have := u8_wf (h2 y hy)
  omega
theorem sm_in {d : tySm.D} (h : tySm.wf d) : ∃ s : Sm, SmOk s ∧ tySm.val d = .agg (smC s) := by
  obtain ⟨pl, ini, mv, _⟩ := d
  obtain ⟨h1, h2, h3, _⟩ := h
  dsimp only at h1 h2 h3
  obtain ⟨li, g1, g2, g3⟩ := arr5_in h2
  have hp := u8_wf h1
  have key : ∀ l : List (List Int), (∀ x ∈ l, ty5.wf x) → l.flatMap ty5.cells = (l.map fun r => r.map Int.toNat).flatMap u8s := by
    intro l
    induction l with
    | nil => intro _; rfl
    | cons r l ih =>
      intro hl
      rw [List.flatMap_cons, ih fun y hy => hl y (by simp [hy]), List.map_cons, List.flatMap_cons]
      congr 1
      exact u8s_in (hl r (by simp)).2
  refine ⟨⟨pl.toNat, li, (show List (List Int) from mv).map fun r => r.map Int.toNat⟩, ⟨by dsimp only; omega, g1, g2, ?_, ?_, ?_⟩, ?_⟩
  · intro r hr
    obtain ⟨q, hq, rfl⟩ := List.mem_map.1 hr
    rw [List.length_map]; exact (h3.2 q hq).1
  · intro r hr x hx
    obtain ⟨q, hq, rfl⟩ := List.mem_map.1 hr
    obtain ⟨y, hy, rfl⟩ := List.mem_map.1 hx
    have := u8_wf ((h3.2 q hq).2 y hy)
    omega
  · rw [List.length_map]; exact h3.1
  · show AV.agg _ = _
    have e1 := key mv h3.2
    congr 1
    simp only [Ty.cells, smC] at e1 g3 ⊢
    rw [g3, Int.toNat_of_nonneg hp.1]
    simp only [List.singleton_append, List.append_nil, List.length_map]
    rw [← e1]
    rfl

/-! ### the plain law -/
theorem colSum_row : ∀ (l : List (List Int)) (w : List Int) (k : Nat), colSum l w k = rowSum (l.map fun r => r.getD k 0) w
  | [], w, k => by cases w <;> rfl
  | r :: l, [], k => rfl
  | r :: l, x :: w, k => by simp only [colSum, List.map_cons, rowSum, colSum_row l w k]; rw [Int.mul_comm]
theorem colR_eq (x : Nt) (t : Nat) : colR x t = (incM x).map fun r => r.getD t 0 := by simp [colR, incM, List.map_map, Function.comp_def]
theorem incR_eq (x : Nt) (p : Nat) (hp : p < x.ini.length) : incR x p = (colM x).map fun r => r.getD p 0 := by
  refine List.ext_getElem? fun i => ?_
  simp only [colM, List.map_map, List.getElem?_map]
  by_cases hi : i < x.tr.length
  · rw [List.getElem?_range hi]
    obtain ⟨y, hy⟩ := get_ex (l := incR x p) (i := i) (by rw [incR_len]; exact hi)
    simp [colR, List.getD_eq_getElem?_getD, List.getElem?_range hp, hy]
  · rw [List.getElem?_eq_none (by rw [incR_len]; omega), List.getElem?_eq_none (by simp; omega)]; rfl
theorem flows_bal (x : Nt) (kind : Int) (w : List Int) (hp : 0 < x.ini.length) (hw : w.length = (rowsR x kind).length) : flowsR (tabR x kind) w = (!w.all (· == 0) && balR (rowsR x kind) w) := by
  unfold flowsR
  rw [Bool.and_comm]
  cases hz : w.all (· == 0) with
  | true => rfl
  | false =>
    simp only [Bool.not_false, Bool.true_and]
    unfold tabR rowsR balR
    by_cases hk : kind = 1
    · simp only [if_pos hk]
      have hh : ((incM x).headD []).length = x.tr.length := by
        unfold incM
        cases hn : x.ini.length with
        | zero => omega
        | succ n => rw [List.range_succ_eq_map]; simp [incR_len]
      rw [hh, colM, List.all_map]
      congr 1
      funext t
      simp only [Function.comp, colSum_row, colR_eq]
    · simp only [if_neg hk]
      have hlen : w.length = x.tr.length := by rw [hw, rowsR, if_neg hk]; simp [colM]
      have hh : ((colM x).headD []).length = x.ini.length := by
        unfold colM
        cases hn : x.tr.length with
        | zero =>
          have : w = [] := List.length_eq_zero_iff.1 (by omega)
          subst this; simp at hz
        | succ n => rw [List.range_succ_eq_map]; simp [colR_len]
      rw [hh, incM, List.all_map]
      refine Bool.eq_iff_iff.2 ?_
      simp only [List.all_eq_true, List.mem_range, Function.comp]
      constructor
      · intro hh p hp; rw [colSum_row, ← incR_eq x p hp]; exact hh p hp
      · intro hh p hp; rw [incR_eq x p hp, ← colSum_row]; exact hh p hp
theorem colR_bound {x : Nt} (ho : NetOk x) (t : Nat) : ∀ y ∈ colR x t, -8 ≤ y ∧ y ≤ 8 := by
  intro y hy
  simp only [colR, List.mem_map] at hy
  obtain ⟨p, _, rfl⟩ := hy
  rw [List.getD_eq_getElem?_getD]
  cases hk : (incR x p)[t]? with
  | none => simp
  | some z => simpa using incR_bound ho p z (List.mem_of_getElem? hk)
theorem rowsR_all {x : Nt} (kind : Int) {q : List Int → Prop} (h1 : ∀ p, q (incR x p)) (h2 : ∀ t, q (colR x t)) : ∀ r ∈ rowsR x kind, q r := by
  intro r hr
  unfold rowsR at hr
  split at hr
  · simp only [incM, List.mem_map] at hr; obtain ⟨p, _, rfl⟩ := hr; exact h1 p
  · simp only [colM, List.mem_map] at hr; obtain ⟨p, _, rfl⟩ := hr; exact h2 p
theorem tabR_all {x : Nt} (kind : Int) {q : List Int → Prop} (h1 : ∀ p, q (incR x p)) (h2 : ∀ t, q (colR x t)) : ∀ r ∈ tabR x kind, q r := by
  intro r hr
  unfold tabR at hr
  split at hr
  · simp only [colM, List.mem_map] at hr; obtain ⟨p, _, rfl⟩ := hr; exact h2 p
  · simp only [incM, List.mem_map] at hr; obtain ⟨p, _, rfl⟩ := hr; exact h1 p
theorem rowsR_len (x : Nt) (kind : Int) : (rowsR x kind).length = tabC x kind := by
  unfold rowsR tabC; split <;> simp [incM, colM]
theorem tabR_len (x : Nt) (kind : Int) : ∀ r ∈ tabR x kind, r.length = tabC x kind := by
  unfold tabR tabC
  split
  · intro r hr; simp only [colM, List.mem_map] at hr; obtain ⟨t, _, rfl⟩ := hr; exact colR_len x t
  · intro r hr; simp only [incM, List.mem_map] at hr; obtain ⟨t, _, rfl⟩ := hr; exact incR_len x t
theorem newTable (x : Nt) (ho : NetOk x) (kind : Int) (hk : kind = 1 ∨ kind = 2) : PSpec Try.prog 39 [netV x, .int .i64 kind] (.tup [tabV (tabC x kind) (tabR x kind), .int .i64 0]) := by
  rcases hk with rfl | rfl
  · exact newTable1 x ho
  · exact newTable2 x ho
end Go.AM.SN
