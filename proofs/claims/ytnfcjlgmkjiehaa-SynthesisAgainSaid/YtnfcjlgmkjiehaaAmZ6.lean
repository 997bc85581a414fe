/- A part of the proof of SynthesisAgainSaid: lemmas on the way (AmU, AmUa, AmQa, AmQb, AmQc, AmQd, AmQw, AmTc, AmTd, AmTe, AmQe, AmTf, AmDj). Conditions: none of ours. -/
import Derived.OpenShut
import Derived.Test.YtnfcjlgmkjiehaaAmZ5
set_option linter.unusedSectionVars false
namespace Go.AM
open Go.ChangeShapes Go.WideShapes
set_option linter.unusedVariables false
def inF (w : World) (k : Nat) : Prop := k < w.heap.size
end Go.AM
namespace Go.AM
open Go.ChangeShapes Go.WideShapes
set_option linter.unusedVariables false
set_option linter.unusedSimpArgs false
inductive Ty where
  | int (k : IntKind)
  | bool
  | str
  | arr (n : Nat) (t : Ty)
  | sl (t : Ty)
  | st (fs : Ty)
  | unit
  | pair (a b : Ty)
def Ty.sz : Ty → Nat
  | .int _ | .bool | .str | .sl _ => 1
  | .arr n t => n * t.sz
  | .st fs => fs.sz
  | .unit => 0
  | .pair a b => a.sz + b.sz
abbrev Ty.D : Ty → Type
  | .int _ => Int
  | .bool => Bool
  | .str => List UInt8
  | .arr _ t | .sl t => List t.D
  | .st fs => fs.D
  | .unit => Unit
  | .pair a b => a.D × b.D
def Ty.cells : (t : Ty) → t.D → List AV
  | .int k, n => [.int k n]
  | .bool, b => [.bool b]
  | .str, s => [.str s]
  | .arr _ t, l => List.flatMap (Ty.cells t) l
  | .sl t, l => [.fsl (List.flatMap (Ty.cells t) l) (List.length l) t.sz]
  | .st fs, d => Ty.cells fs d
  | .unit, _ => []
  | .pair a b, d => Ty.cells a d.1 ++ Ty.cells b d.2
def Ty.wf : (t : Ty) → t.D → Prop
  | .int k, n => (Lit.int k n).wf = true
  | .bool, _ => True
  | .str, s => List.length s ≤ 9223372036854775807
  | .arr n t, l => List.length l = n ∧ ∀ x ∈ (show List t.D from l), Ty.wf t x
  | .sl t, l => List.length l ≤ 9223372036854775807 ∧ ∀ x ∈ (show List t.D from l), Ty.wf t x
  | .st fs, d => Ty.wf fs d
  | .unit, _ => True
  | .pair a b, d => Ty.wf a d.1 ∧ Ty.wf b d.2
mutual
def okTy (P : Program) : Ty → TypeId → Bool
  | .int k, t => match P.underlying t with | some (.int k') => k' == k | _ => false
  | .bool, t => match P.underlying t with | some .bool => true | _ => false
  | .str, t => match P.underlying t with | some .string => true | _ => false
  | .arr n e, t => match P.underlying t with | some (.array m u) => n == m && okTy P e u && P.cellsOf u == e.sz && P.cellsOf t == n * e.sz | _ => false
  | .sl e, t => match P.underlying t with | some (.slice u) => okTy P e u && P.cellsOf u == e.sz && Nat.blt 0 e.sz | _ => false
  | .st fs, t => match P.underlying t with | some (.struct l) => okFs P fs l.toList 0 && P.cellsOf t == fs.sz | _ => false
  | _, _ => false
termination_by structural ty => ty
def okFs (P : Program) : Ty → List Field → Nat → Bool
  | .unit, l, _ => match l with | [] => true | _ => false
  | .pair a b, l, off => match l with | f :: l => f.offset == off && okTy P a f.type && P.cellsOf f.type == a.sz && okFs P b l (off + a.sz) | _ => false
  | _, _, _ => false
termination_by structural ty => ty
end
section
variable {H : Type} {enc : TypeId × Value → H} {P : Program} {W : World} {spare : Nat → Bool}
theorem cells_len : ∀ (t : Ty) (d : t.D), t.wf d → (t.cells d).length = t.sz
  | .int _, _, _ => rfl
  | .bool, _, _ => rfl
  | .str, _, _ => rfl
  | .sl _, _, _ => rfl
  | .unit, _, _ => rfl
  | .st fs, d, h => cells_len fs d h
  | .pair a b, d, h => by
    simp only [Ty.cells, Ty.sz, List.length_append, cells_len a d.1 h.1, cells_len b d.2 h.2]
  | .arr n t, l, h => by
    obtain ⟨h1, h2⟩ := h
    simp only [Ty.cells, Ty.sz, ← h1]
    have : ∀ (l : List t.D), (∀ x ∈ l, t.wf x) → (l.flatMap t.cells).length = l.length * t.sz := by
      intro l
      induction l with
      | nil => intro _; simp
      | cons x l ih => intro hl; simp [List.flatMap_cons, cells_len t x (hl x (by simp)), ih fun y hy => hl y (by simp [hy]), Nat.succ_mul]; omega
    exact this l h2
theorem mapM_get {α β : Type} {f : α → Option β} : ∀ {l : List α} {r : List β}, l.mapM f = some r → r.length = l.length ∧ ∀ (i : Nat) (x : α), l[i]? = some x → ∃ y, f x = some y ∧ r[i]? = some y
  | [], r, h => by simp at h; subst h; simp
  | a :: l, r, h => by
    simp only [List.mapM_cons, Option.bind_eq_bind, Option.bind_eq_some_iff] at h
    obtain ⟨y, hy, ys, hys, e⟩ := h
    simp at e; subst e
    obtain ⟨h1, h2⟩ := mapM_get hys
    refine ⟨by simp [h1], fun i x hx => ?_⟩
    cases i with
    | zero => simp at hx; subst hx; exact ⟨y, hy, rfl⟩
    | succ i => simpa using h2 i x (by simpa using hx)
theorem many {t : Ty} {c : Ctx} {n : Nat} : ∀ {cs : List Value}, (∀ i, i < n → ∃ x : t.D, t.wf x ∧ VRels c W (t.cells x) ((cs.drop (i * t.sz)).take t.sz)) → n * t.sz ≤ cs.length →
    ∃ l : List t.D, l.length = n ∧ (∀ x ∈ l, t.wf x) ∧ VRels c W (l.flatMap t.cells) (cs.take (n * t.sz)) := by
  induction n with
  | zero => intro cs _ _; exact ⟨[], rfl, by simp, by simp [VRels]⟩
  | succ n ih =>
    intro cs hx hl
    obtain ⟨x, h1, h2⟩ := hx 0 (by omega)
    rw [Nat.succ_mul] at hl
    obtain ⟨l, h3, h4, h5⟩ := ih (cs := cs.drop t.sz) (fun i hi => by
      obtain ⟨y, g1, g2⟩ := hx (i + 1) (by omega)
      refine ⟨y, g1, ?_⟩
      rw [List.drop_drop, show t.sz + i * t.sz = (i + 1) * t.sz by rw [Nat.succ_mul]; omega]
      exact g2) (by simp; omega)
    refine ⟨x :: l, by simp [h3], by simpa using ⟨h1, h4⟩, ?_⟩
    rw [List.flatMap_cons, Nat.succ_mul, Nat.add_comm, List.take_add]
    refine VRels_append ?_ h5
    simpa using h2
mutual
theorem open_ty : ∀ (ty : Ty) (t : TypeId) (fuel : Nat) (cs : List Value) (x : DataW H × List MemPlace), (∀ b, spare b = true) → okTy P ty t = true → DataW.trod enc P W 0 spare true fuel t cs = some x →
    ∃ d : ty.D, ty.wf d ∧ VRels (only (inF W)) W (ty.cells d) cs := by
  intro ty t fuel cs x hs ho h
  match ty with
  | .int k =>
    simp only [okTy] at ho
    split at ho <;> try (cases ho; done)
    rename_i k' hu
    simp only [beq_iff_eq] at ho
    subst ho
    obtain ⟨n, rfl, _, hw⟩ := DataW.trod_int hu h
    exact ⟨n, hw, by simp [Ty.cells, VRels, VRel]⟩
  | .bool =>
    simp only [okTy] at ho
    split at ho <;> try (cases ho; done)
    rename_i hu
    obtain ⟨b, rfl, _⟩ := DataW.trod_bool hu h
    exact ⟨b, trivial, by simp [Ty.cells, VRels, VRel]⟩
  | .str =>
    simp only [okTy] at ho
    split at ho <;> try (cases ho; done)
    rename_i hu
    obtain ⟨s, rfl, _, hl⟩ := DataW.trod_string hu h
    refine ⟨s.data.toList, ?_, ?_⟩
    · simp only [ByteArray.size, maxLen] at hl
      simp only [Ty.wf, Array.length_toList]
      omega
    · simp [Ty.cells, VRels, VRel]
  | .unit => simp [okTy] at ho
  | .pair a b => simp [okTy] at ho
  | .st fs =>
    simp only [okTy] at ho
    split at ho <;> try (cases ho; done)
    rename_i l hu
    simp only [Bool.and_eq_true, beq_iff_eq] at ho
    obtain ⟨ho, hsz⟩ := ho
    cases fuel with
    | zero => simp [DataW.trod] at h
    | succ n =>
      unfold DataW.trod at h
      rw [hu] at h
      split at h <;> first | (simp_all; done) | skip
      rename_i fs' he
      injection he with he; injection he with he; subst he
      split at h
      · rename_i hl
        simp only [Option.map_eq_some_iff] at h
        obtain ⟨xs, hm, _⟩ := h
        obtain ⟨d, h1, h2⟩ := open_fs fs l.toList 0 n _ xs hs ho hm (by omega)
        refine ⟨d, h1, ?_⟩
        simpa [Ty.cells, ← hsz, ← hl] using h2
      · cases h
  | .arr m e =>
    simp only [okTy] at ho
    split at ho <;> try (cases ho; done)
    rename_i m' u hu
    simp only [Bool.and_eq_true, beq_iff_eq] at ho
    obtain ⟨⟨⟨rfl, ho⟩, hsz⟩, hst⟩ := ho
    cases fuel with
    | zero => simp [DataW.trod] at h
    | succ n =>
      unfold DataW.trod at h
      rw [hu] at h
      split at h <;> first | (simp_all; done) | skip
      rename_i m' u' he
      injection he with he; injection he with he1 he2; subst he1; subst he2
      split at h
      · rename_i hl
        simp only [Option.map_eq_some_iff] at h
        obtain ⟨xs, hm, _⟩ := h
        obtain ⟨g1, g2⟩ := mapM_get hm
        rw [hst] at hl
        obtain ⟨l, k1, k2, k3⟩ := many (t := e) (c := only (inF W)) (n := m) (fun i hi => by
          obtain ⟨y, hy, _⟩ := g2 i i (by simp [hi])
          rw [hsz] at hy
          exact open_ty e u n _ y hs ho hy) (by omega)
        refine ⟨l, ⟨k1, k2⟩, ?_⟩
        rw [← hl, List.take_length] at k3
        exact k3
      · cases h
  | .sl e =>
    simp only [okTy] at ho
    split at ho <;> try (cases ho; done)
    rename_i u hu
    simp only [Bool.and_eq_true, beq_iff_eq, Nat.blt_eq] at ho
    obtain ⟨⟨ho, hsz⟩, hpos⟩ := ho
    rcases DataW.trod_slice hu h with ⟨rfl, _⟩ | ⟨a, len, cap, elems, rest, n, _, rfl, _, _, hl, hm, hlen, hel, hsp, hns⟩
    · exact ⟨[], ⟨by simp, by simp⟩, by simp [Ty.cells, VRels, VRel]⟩
    obtain ⟨hrl, hr⟩ := hsp (hs _)
    have each : ∀ i, i < cap → ∃ cs, (w' : W.cells? 0 (a.add (i * e.sz)) e.sz = some cs) → True := fun _ _ => ⟨[], fun _ => trivial⟩
    have each : ∀ i, i < cap → ∃ cs y, W.cells? 0 (a.add (i * e.sz)) e.sz = some cs ∧ DataW.trod enc P W 0 spare true n u cs = some y := by
      intro i hi
      by_cases hil : i < len
      · have h1 := hel i hil
        rw [List.getElem?_eq_getElem (by omega), hsz, Option.bind_eq_some_iff] at h1
        obtain ⟨cs, hcs, hy⟩ := h1
        exact ⟨cs, _, hcs, hy⟩
      · have h1 := hr (i - len) (by omega)
        rw [show len + (i - len) = i by omega, List.getElem?_eq_getElem (by omega), hsz, Option.bind_eq_some_iff] at h1
        obtain ⟨cs, hcs, hy⟩ := h1
        exact ⟨cs, _, hcs, hy⟩
    by_cases h0 : cap = 0
    · have : len = 0 := by omega
      subst h0; subst this
      exact ⟨[], ⟨by simp, by simp⟩, by simp [Ty.cells, VRels, VRel]⟩
    have cellsAt : ∀ i cs, W.cells? 0 (a.add (i * e.sz)) e.sz = some cs → cs.length = e.sz ∧ ∀ j, j < e.sz → W.cell? ((a.add (i * e.sz)).add j) = cs[j]? := by
      intro i cs hcs
      unfold World.cells? at hcs
      rw [if_pos (Nat.zero_le _)] at hcs
      obtain ⟨g1, g2⟩ := mapM_get hcs
      refine ⟨by simpa using g1, fun j hj => ?_⟩
      obtain ⟨y, k1, k2⟩ := g2 j j (by simp [hj])
      rw [k1, k2]
    obtain ⟨cs0, y0, hc0, _⟩ := each 0 (by omega)
    obtain ⟨q1, q2⟩ := cellsAt 0 cs0 hc0
    have hcell0 := q2 0 hpos
    rw [List.getElem?_eq_getElem (by omega)] at hcell0
    obtain ⟨b, off, spot⟩ := a
    have hspot : spot = none := by simpa [Addr.add] using World.cell?_spot hcell0
    subst hspot
    have hb : ∃ C e fr, W.heap[b]? = some (.cells C e fr) := by
      unfold World.cell? at hcell0
      split at hcell0
      · rename_i C e fr hh; exact ⟨C, e, fr, by simpa [Addr.add] using hh⟩
      · cases hcell0
    obtain ⟨C, et, fr, hb⟩ := hb
    have hcell : ∀ i cs, W.cells? 0 ((⟨b, off, none⟩ : Addr).add (i * e.sz)) e.sz = some cs → i < cap → (C.toList.drop (off + i * e.sz)).take e.sz = cs := by
      intro i cs hcs hi
      obtain ⟨k1, k2⟩ := cellsAt i cs hcs
      refine List.ext_getElem? fun j => ?_
      by_cases hj : j < e.sz
      · rw [List.getElem?_take_of_lt hj, List.getElem?_drop, ← k2 j hj]
        rw [Go.WideShapes.add_plain, Go.WideShapes.add_plain]
        unfold World.cell?
        simp only [hb, Option.isSome_none, Bool.false_eq_true, if_false]
        rw [Array.getElem?_toList]
      · rw [List.getElem?_eq_none (by simp; omega), List.getElem?_eq_none (by omega)]
    have hCs : len * e.sz ≤ (C.toList.drop off).length := by
      by_cases hl0 : len = 0
      · subst hl0; simp
      obtain ⟨cs, y, hcs, _⟩ := each (len - 1) (by omega)
      have h1 := hcell (len - 1) cs hcs (by omega)
      obtain ⟨k1, _⟩ := cellsAt (len - 1) cs hcs
      have h2 := congrArg List.length h1
      rw [k1, List.length_take, List.length_drop] at h2
      rw [List.length_drop]
      have h3 : len * e.sz = (len - 1) * e.sz + e.sz := by
        rw [← Nat.succ_mul]; congr 1; omega
      omega
    obtain ⟨l, k1, k2, k3⟩ := many (t := e) (c := only (inF W)) (n := len) (cs := C.toList.drop off) (fun i hi => by
      obtain ⟨cs, y, hcs, hy⟩ := each i (by omega)
      rw [List.drop_drop, hcell i cs hcs (by omega)]
      exact open_ty e u n cs y hs ho hy) hCs
    refine ⟨l, ⟨by simp [maxLen] at hm; omega, k2⟩, ?_⟩
    simp only [Ty.cells, VRels, VRel]
    have hll : (l.flatMap e.cells).length = l.length * e.sz := cells_len (.arr l.length e) l ⟨rfl, k2⟩
    refine ⟨_, [], rfl, .inr ⟨b, off, cap, C, et, fr, by rw [k1], by omega, hll, lt_of_heap hb, hb, ?_⟩, rfl⟩
    have := VPre_pad (vs := (C.toList.drop off).drop (len * e.sz)) k3
    rwa [List.take_append_drop] at this
termination_by structural ty => ty
theorem open_fs : ∀ (ty : Ty) (fs : List Field) (off fuel : Nat) (cs : List Value) (xs : List (DataW H × List MemPlace)), (∀ b, spare b = true) → okFs P ty fs off = true →
    (fs.mapM fun f => DataW.trod enc P W 0 spare true fuel f.type ((cs.drop f.offset).take (P.cellsOf f.type))) = some xs → off + ty.sz ≤ cs.length →
    ∃ d : ty.D, ty.wf d ∧ VRels (only (inF W)) W (ty.cells d) ((cs.drop off).take ty.sz) := by
  intro ty fs off fuel cs xs hs ho h hl
  match ty with
  | .unit => exact ⟨(), trivial, by simp [Ty.cells, VRels, Ty.sz]⟩
  | .pair a b =>
    cases fs with
    | nil => simp [okFs] at ho
    | cons f fs =>
      simp only [okFs, Bool.and_eq_true, beq_iff_eq] at ho
      obtain ⟨⟨⟨rfl, h1⟩, h2⟩, h3⟩ := ho
      simp only [List.mapM_cons, Option.bind_eq_bind, Option.bind_eq_some_iff] at h
      obtain ⟨y, hy, ys, hys, _⟩ := h
      rw [h2] at hy
      simp only [Ty.sz] at hl
      obtain ⟨d1, g1, g2⟩ := open_ty a f.type fuel _ y hs h1 hy
      obtain ⟨d2, g3, g4⟩ := open_fs b fs (f.offset + a.sz) fuel cs ys hs h3 hys (by omega)
      refine ⟨(d1, d2), ⟨g1, g3⟩, ?_⟩
      simp only [Ty.cells, Ty.sz]
      rw [List.take_add]
      refine VRels_append g2 ?_
      rw [List.drop_drop]
      exact g4
  | .int _ => simp [okFs] at ho
  | .bool => simp [okFs] at ho
  | .str => simp [okFs] at ho
  | .arr _ _ => simp [okFs] at ho
  | .sl _ => simp [okFs] at ho
  | .st _ => simp [okFs] at ho
termination_by structural ty => ty
end
def Ty.val : (t : Ty) → t.D → AV
  | .arr n t, d => .agg (Ty.cells (.arr n t) d)
  | .st fs, d => .agg (Ty.cells (.st fs) d)
  | .int k, n => .int k n
  | .bool, b => .bool b
  | .str, s => .str s
  | .sl t, l => .fsl (List.flatMap (Ty.cells t) l) (List.length l) t.sz
  | .unit, _ => .any
  | .pair _ _, _ => .any
theorem arg_in (ty : Ty) {t : TypeId} {base : Nat} {v : Value} {d : DataW H} {ps : List MemPlace} (ho : okTy P ty t = true) (hv : Value.okWide P W .any base t v) (h : DataW.Trod enc P W 0 (fun _ => true) true t v d ps) :
    ∃ d : ty.D, ty.wf d ∧ VRel (only (inF W)) W (ty.val d) v := by
  obtain ⟨fuel, h⟩ := h
  obtain ⟨d, h1, h2⟩ := open_ty (spare := fun _ => true) ty t fuel _ _ (fun _ => rfl) ho h
  refine ⟨d, h1, ?_⟩
  have one : ∀ (u : AV), VRels (only (inF W)) W [u] v.cells.toList → (∀ cs, v ≠ .agg cs) → VRel (only (inF W)) W u v := by
    intro u hu hn
    have : v.cells = #[v] := by cases v <;> first | rfl | exact absurd rfl (hn _)
    rw [this] at hu
    simp only [VRels] at hu
    obtain ⟨v', vs', e, h3, _⟩ := hu
    cases e; exact h3
  cases ty with
  | unit => simp [okTy] at ho
  | pair a b => simp [okTy] at ho
  | arr n e =>
    simp only [okTy] at ho
    split at ho <;> try (cases ho; done)
    rename_i hu
    simp only [Value.okWide, hu] at hv
    obtain ⟨cs, rfl, _⟩ := hv
    simp only [Ty.val, VRel]
    exact ⟨_, rfl, h2⟩
  | st fs =>
    simp only [okTy] at ho
    split at ho <;> try (cases ho; done)
    rename_i hu
    simp only [Value.okWide, hu] at hv
    obtain ⟨cs, rfl, _⟩ := hv
    simp only [Ty.val, VRel]
    exact ⟨_, rfl, h2⟩
  | int k =>
    refine one _ h2 ?_
    rintro cs rfl
    simp only [okTy] at ho
    split at ho <;> try (cases ho; done)
    rename_i hu
    simp [Value.okWide, hu, Cell.okWide, Cell.ok] at hv
  | bool =>
    refine one _ h2 ?_
    rintro cs rfl
    simp only [okTy] at ho
    split at ho <;> try (cases ho; done)
    rename_i hu
    simp [Value.okWide, hu, Cell.okWide, Cell.ok] at hv
  | str =>
    refine one _ h2 ?_
    rintro cs rfl
    simp only [okTy] at ho
    split at ho <;> try (cases ho; done)
    rename_i hu
    simp [Value.okWide, hu, Cell.okWide, Cell.ok] at hv
  | sl e =>
    refine one _ h2 ?_
    rintro cs rfl
    simp only [okTy] at ho
    split at ho <;> try (cases ho; done)
    rename_i hu
    simp [Value.okWide, hu, Cell.okWide, Cell.ok] at hv
end
end Go.AM
set_option linter.unusedSimpArgs false
set_option linter.unusedVariables false
namespace Go.AM
variable {P : Program}
section
variable {N : NM} {n : Nat} {d : Option Nat} {af dead : List Nat} {r : List SOper} {T : Tmps} {h : Heap} {Q : QC} {fs : List Fr}
def wL (P : Program) (N : NM) (o : Option (List AV)) (len : Nat) (v : AV) (d : Option Nat) (ops : List SOper) (dead : List Nat) (fs : List Fr) (n : Nat) (T : Tmps) (h : Heap) (Q : QC) : Prop :=
  ∃ cs, o = some cs ∧ cs.length = len ∧ wN P N cs v d ops dead fs n T h Q
theorem wL_some {cs : List AV} {len : Nat} {v : AV} : wL P N (some cs) len v d r dead fs n T h Q = if cs.length = len then wN P N cs v d r dead fs n T h Q else False := by
  by_cases hl : cs.length = len <;> simp [wL, hl]
theorem wN_go {x : List AV} {v : AV} (hl : n < 1099511627775) : wN P N x v d r dead fs n T h Q = if h.get n = none then wR P N r dead fs (n + 1) (putD T d v) (h.set n (.cells 0 x)) Q else False := by
  split
  · rename_i hn; exact wN_new hn hl
  · rename_i hn; simp [wN, hn]
theorem wB_go {x : Blk} {b : Nat} {v : AV} (hl : b < 1099511627775) : wB P N (some x) b v d r dead fs n T h Q = wR P N r dead fs (n + 1) (putD T d v) (h.set b x) Q := wB_some hl
theorem get_same {k : Nat} {x : Blk} (hk : k < 1099511627775) : (h.set k x).get k = some x := by rw [Tr.get_set h hk]; simp
theorem get_ne {j k : Nat} {x : Blk} (hk : k < 1099511627775) (hj : j ≠ k) : (h.set k x).get j = h.get j := by rw [Tr.get_set h hk]; simp [hj]
theorem wM_new {x : Nat → Blk} {y : List AV} (hx : x 0 = .cells 0 y) {w : Nat → Nat → AV} : wM P N (HM.new .dyn n x fun b g => .ret (w b g)) d r dead fs n T h Q = wN P N y (w n 0) d r dead fs n T h Q := by
  apply propext; constructor
  · rintro ⟨v', h1, hm, hk⟩
    unfold HM.new at hm
    simp only [HM.run] at hm
    cases hn : h.get n with
    | none =>
      rw [hn] at hm
      obtain ⟨hl, hm⟩ := run_put hm
      simp only [HM.run, Option.some.injEq, Prod.mk.injEq] at hm
      obtain ⟨rfl, rfl⟩ := hm
      rw [hx] at hk
      exact ⟨hn, hl, hk⟩
    | some z => rw [hn] at hm; cases hm
  · rintro ⟨hn, hl, hk⟩
    refine ⟨_, _, ?_, by rw [← hx] at hk; exact hk⟩
    unfold HM.new
    simp only [HM.run, hn]
    have hl' : Nat.blt n lim = true := by simp [Nat.blt]; omega
    rw [hl']; rfl
theorem aBox_new {x : AV} : wM P N (aBox .dyn n x) d r dead fs n T h Q = if x.boxable = true then wN P N x.cells (.ptr n 0 0) d r dead fs n T h Q else False := by
  split
  · rename_i hb; exact aBox_dyn hb
  · rename_i hb; simp only [aBox, if_neg hb, wM_fail]
theorem aBuildSlice_new {sz len : Nat} {z : List AV} {ps : List (Nat × Nat × AV)} : wM P N (aBuildSlice false .dyn n sz len z ps) d r dead fs n T h Q = wL P N (fillA z ps) (len * sz) (.sl n 0 0 len sz) d r dead fs n T h Q := by
  unfold aBuildSlice
  cases fillA z ps with
  | none => simp [wM_fail, wL]
  | some cs =>
    simp only [wL_some, Bool.false_eq_true, if_false]
    split
    · exact wM_new rfl
    · exact wM_fail
theorem aMakeSlice_new {sz bytes : Nat} {z : List AV} {k1 k2 : IntKind} {l c : Int} : wM P N (aMakeSlice .dyn n sz bytes z (.int k1 l) (.int k2 c)) d r dead fs n T h Q =
    if 0 ≤ l ∧ l ≤ c ∧ bytes * c ≤ 1099511627776 ∧ c ≤ 1099511627776 then wN P N (List.replicate c.toNat z).flatten (.sl n 0 0 l.toNat sz) d r dead fs n T h Q else False := by
  by_cases hc : 0 ≤ l ∧ l ≤ c ∧ bytes * c ≤ 1099511627776 ∧ c ≤ 1099511627776
  · simp only [aMakeSlice, if_pos hc]; exact wM_new (x := fun g => .cells g (List.replicate c.toNat z).flatten) rfl
  · simp only [aMakeSlice, if_neg hc]; exact wM_fail
theorem fillA_nil {cs : List AV} : fillA cs [] = some cs := rfl
theorem fillA_cons {cs : List AV} {off size : Nat} {v : AV} {r : List (Nat × Nat × AV)} : fillA cs ((off, size, v) :: r) = if v.cells.length = size ∧ off + size ≤ cs.length ∧ v.boxable = true then fillA (putR cs off v.cells) r else none := rfl
theorem aBuild_eq {z : List AV} {ps : List (Nat × Nat × AV)} : aBuild z ps = (fillA z ps).map AV.agg := by unfold aBuild; cases fillA z ps <;> rfl
theorem cells_int {k : IntKind} {a : Int} : (AV.int k a).cells = [.int k a] := rfl
theorem cells_agg {cs : List AV} : (AV.agg cs).cells = cs := rfl
theorem cells_sl {b g off len sz : Nat} : (AV.sl b g off len sz).cells = [.sl b g off len sz] := rfl
theorem cells_fsl {cs : List AV} {len sz : Nat} : (AV.fsl cs len sz).cells = [.fsl cs len sz] := rfl
theorem cells_nilsl : AV.nilsl.cells = [.nilsl] := rfl
theorem box_int {k : IntKind} {a : Int} : (AV.int k a).boxable = true := rfl
theorem box_agg {cs : List AV} : (AV.agg cs).boxable = true := rfl
theorem box_sl {b g off len sz : Nat} : (AV.sl b g off len sz).boxable = true := rfl
theorem box_fsl {cs : List AV} {len sz : Nat} : (AV.fsl cs len sz).boxable = true := rfl
theorem box_nilsl : AV.nilsl.boxable = true := rfl
theorem one_int {k : IntKind} {a : Int} : (AV.int k a).one = true := rfl
theorem one_sl {b g off len sz : Nat} : (AV.sl b g off len sz).one = true := rfl
theorem one_fsl {cs : List AV} {len sz : Nat} : (AV.fsl cs len sz).one = true := rfl
theorem one_nilsl : AV.nilsl.one = true := rfl
theorem putR_one {cs : List AV} {off : Nat} {v : AV} : putR cs off [v] = cs.set off v := rfl
theorem putR_many {cs : List AV} {off : Nat} {v w : AV} {vs : List AV} : putR cs off (v :: w :: vs) = cs.take off ++ (v :: w :: vs) ++ cs.drop (off + (v :: w :: vs).length) := rfl
def srcB (o : Option Blk) (g off len sz : Nat) : Option (List AV) :=
  match o with
  | some (.cells g' cs) => if g' = g ∧ off + len * sz ≤ cs.length then some ((cs.drop off).take (len * sz)) else none
  | _ => none
theorem srcB_some {g g' off len sz : Nat} {cs : List AV} : srcB (some (.cells g' cs)) g off len sz = if g' = g ∧ off + len * sz ≤ cs.length then some ((cs.drop off).take (len * sz)) else none := rfl
theorem aAppend_nil {sz bytes b g off len : Nat} : wM P N (aAppend .dyn n sz bytes .nilsl (.sl b g off (len + 1) sz)) d r dead fs n T h Q =
    ∃ ys, srcB (h.get b) g off (len + 1) sz = some ys ∧ ((len + 1) * bytes ≤ 1099511627776 ∧ len + 1 ≤ 1099511627776) ∧ ys.all AV.one = true ∧ wN P N ys (.sl n 0 0 (len + 1) sz) d r dead fs n T h Q := by
  simp only [aAppend, aSrc, if_true, slLen, Nat.zero_add, wM_cells, wM_ite]
  apply propext; constructor
  · rintro ⟨cs, hb, h1, h2, h3⟩
    rw [hb, srcB_some, if_pos ⟨rfl, h1⟩]
    exact ⟨_, rfl, ⟨h2.1, h2.2.1⟩, h2.2.2, by rw [wM_new rfl] at h3; exact h3⟩
  · rintro ⟨ys, hy, h2, h3, h4⟩
    unfold srcB at hy
    split at hy
    · rename_i g' cs hb
      split at hy
      · rename_i e
        obtain ⟨rfl, e⟩ := e
        cases hy
        exact ⟨cs, hb, e, ⟨h2.1, h2.2, h3⟩, by rw [wM_new rfl]; exact h4⟩
      · cases hy
    · cases hy
theorem aAppend_sl {sz bytes b g off len b2 g2 off2 len2 : Nat} : wM P N (aAppend .dyn n sz bytes (.sl b2 g2 off2 len2 sz) (.sl b g off len sz)) d r dead fs n T h Q =
    ∃ ys zs, srcB (h.get b) g off len sz = some ys ∧ srcB (h.get b2) g2 off2 len2 sz = some zs ∧ ((len2 + len) * bytes ≤ 1099511627776 ∧ len2 + len ≤ 1099511627776) ∧ ys.all AV.one = true ∧
      wB P N (some (.cells (g2 + 1) (zs ++ ys))) b2 (.sl b2 (g2 + 1) 0 (len2 + len) sz) d r dead fs n T h Q := by
  simp only [aAppend, aSrc, if_true, slLen, wM_cells, wM_ite, wM_put]
  apply propext; constructor
  · rintro ⟨cs, hb, h1, h2, cs2, hb2, h3, h4⟩
    rw [hb, hb2, srcB_some, srcB_some, if_pos ⟨rfl, h1⟩, if_pos ⟨rfl, h3⟩]
    exact ⟨_, _, rfl, rfl, ⟨h2.1, h2.2.1⟩, h2.2.2, h4⟩
  · rintro ⟨ys, zs, hy, hz, h2, h3, h4⟩
    unfold srcB at hy hz
    split at hy
    · rename_i g' cs hb
      split at hy
      · rename_i e
        obtain ⟨rfl, e⟩ := e
        cases hy
        split at hz
        · rename_i g3 cs2 hb2
          split at hz
          · rename_i e2
            obtain ⟨rfl, e2⟩ := e2
            cases hz
            exact ⟨cs, hb, e, ⟨h2.1, h2.2, h3⟩, cs2, hb2, e2, h4⟩
          · cases hz
        · cases hz
      · cases hy
    · cases hy
end
def Fresh (n : Nat) (h : Heap) : Prop := ∀ b, n ≤ b → h.get b = none
theorem Fresh.e {n : Nat} : Fresh n .e := fun b _ => by simp [Tr.get]
theorem Fresh.le {n m : Nat} {h : Heap} (hf : Fresh n h) (hl : n ≤ m) : Fresh m h := fun b hb => hf b (Nat.le_trans hl hb)
theorem Fresh.set {n k : Nat} {h : Heap} {x : Blk} (hf : Fresh n h) (hk : k < 1099511627775) (hl : k < n) : Fresh n (h.set k x) := fun b hb => by
  rw [get_ne hk (by omega)]; exact hf b hb
end Go.AM
set_option linter.unusedSimpArgs false
set_option linter.unusedVariables false
namespace Go.AM
variable {P : Program}
def FrzTo (h : Heap) (x y : AV) : Prop := ∀ (c : Ctx) (w : World) (v : Value), HRel c h w → VRel c w x v → VRel (lent c) w y v
def FrzL (h : Heap) : List AV → List AV → Prop
  | [], [] => True
  | x :: xs, y :: ys => FrzTo h x y ∧ FrzL h xs ys
  | _, _ => False
variable {h : Heap}
theorem FrzTo.same (x : AV) : FrzTo h x x := fun c w v _ hv => VRel.mono (lent_ext c w) _ _ hv
theorem FrzL.same : ∀ (xs : List AV), FrzL h xs xs
  | [] => trivial
  | x :: xs => ⟨.same x, FrzL.same xs⟩
theorem FrzL.length : ∀ {xs ys : List AV}, FrzL h xs ys → ys.length = xs.length
  | [], [], _ => rfl
  | [], _ :: _, hh => hh.elim
  | _ :: _, [], hh => hh.elim
  | x :: xs, y :: ys, hh => by simp [FrzL.length hh.2]
theorem FrzL.append : ∀ {xs ys us vs : List AV}, FrzL h xs ys → FrzL h us vs → FrzL h (xs ++ us) (ys ++ vs)
  | [], [], _, _, _, h2 => h2
  | [], _ :: _, _, _, hh, _ => hh.elim
  | _ :: _, [], _, _, hh, _ => hh.elim
  | x :: xs, y :: ys, _, _, hh, h2 => ⟨hh.1, FrzL.append hh.2 h2⟩
theorem FrzL.pre {c : Ctx} {w : World} (H : HRel c h w) : ∀ {xs ys : List AV} {vs : List Value}, FrzL h xs ys → VPre c w xs vs → VPre (lent c) w ys vs
  | [], [], _, _, _ => by simp [VPre]
  | [], _ :: _, _, hh, _ => hh.elim
  | _ :: _, [], _, hh, _ => hh.elim
  | x :: xs, y :: ys, vs, hh, hv => by
    simp only [VPre] at hv ⊢
    obtain ⟨v, vs', rfl, g1, g2⟩ := hv
    exact ⟨v, vs', rfl, hh.1 c w v H g1, FrzL.pre H hh.2 g2⟩
theorem FrzL.rels {c : Ctx} {w : World} (H : HRel c h w) : ∀ {xs ys : List AV} {vs : List Value}, FrzL h xs ys → VRels c w xs vs → VRels (lent c) w ys vs
  | [], [], _, _, hv => by simpa [VRels] using hv
  | [], _ :: _, _, hh, _ => hh.elim
  | _ :: _, [], _, hh, _ => hh.elim
  | x :: xs, y :: ys, vs, hh, hv => by
    simp only [VRels] at hv ⊢
    obtain ⟨v, vs', rfl, g1, g2⟩ := hv
    exact ⟨v, vs', rfl, hh.1 c w v H g1, FrzL.rels H hh.2 g2⟩
theorem FrzTo.nil {sz : Nat} : FrzTo h .nilsl (.fsl [] 0 sz) := fun c w v _ hv => by
  simp only [VRel] at hv ⊢
  exact .inl ⟨⟨none, hv⟩, by simp⟩
theorem FrzTo.agg {xs ys : List AV} (hL : FrzL h xs ys) : FrzTo h (.agg xs) (.agg ys) := fun c w v H hv => by
  simp only [VRel] at hv ⊢
  obtain ⟨vs, rfl, hv⟩ := hv
  exact ⟨vs, rfl, hL.rels H hv⟩
theorem FrzTo.tup {xs ys : List AV} (hL : FrzL h xs ys) : FrzTo h (.tup xs) (.tup ys) := fun c w v H hv => by
  simp only [VRel] at hv ⊢
  obtain ⟨vs, rfl, hv⟩ := hv
  exact ⟨vs, rfl, hL.rels H hv⟩
theorem FrzTo.sl {b g off len sz : Nat} {cs ys : List AV} (hb : h.get b = some (.cells g cs)) (hl : off + len * sz ≤ cs.length) (hL : FrzL h ((cs.drop off).take (len * sz)) ys) :
    FrzTo h (.sl b g off len sz) (.fsl ys len sz) := fun c w v H hv => by
  have hlen := hL.length
  simp only [VRel] at hv
  rcases hv with ⟨hp, rfl, rfl, rfl⟩ | ⟨cb, base, o, cap, C, e, fr, hp, rfl, hlc, hC, hcap⟩
  · have hys : ys = [] := by
      apply List.eq_nil_of_length_eq_zero
      rw [hlen]; simp
    subst hys
    simp only [VRel]; exact .inl (by simp)
  · obtain ⟨C', e', fr', hO, hC', hfr, hbs, hpre⟩ := H.here hb hp
    rw [hC] at hC'; cases hC'
    by_cases h0 : cap = 0
    · have hl0 : len = 0 := by omega
      subst hl0
      have hys : ys = [] := by
        apply List.eq_nil_of_length_eq_zero
        rw [hlen]; simp
      subst hys
      simp only [VRel]
      exact .inr ⟨cb, o, cap, C, e, fr, rfl, hlc, by simp, .inr hO, hC, by simp [VPre]⟩
    · obtain ⟨rfl, hbd⟩ := hcap.resolve_left h0
      have hp2 := VPre_take (len * sz) (VPre_drop off hpre)
      rw [List.drop_drop] at hp2
      simp only [VRel]
      exact .inr ⟨cb, base + off, cap, C, e, fr, rfl, hlc, by rw [hlen]; simp; omega, .inr hO, hC, hL.pre H hp2⟩
theorem PSpec.of_frz {f : Nat} {sf : SFn} {args : List AV} {v : AV} (n : Nat) (hok : okFn P f sf = true) (hl : Nat.ble args.length sf.n = true) (ha : noRefs args = true) (hv : noRef v = true)
    (hw : wS P ⟨sf.n, 0⟩ sf.body [] n (argT 0 args) .e fun e T h _ => (e = .normal ∨ e = .ret) ∧ ∃ vs, resV T h sf.res = some vs ∧ FrzTo h (resOf vs) v) : PSpec P f args v :=
  PSpec.of_W2 hok (Nat.le_of_ble_eq_true hl) ha hv ((wpC.toW hw).mono fun e B ⟨_, h1, vs, h2, h3⟩ => ⟨h1, vs, h2, Rn.of_frz hv h3⟩)
def Row (h : Heap) (ok : Nat → Prop) (v : AV) (cs : List AV) (len sz : Nat) : Prop :=
  (v = .nilsl ∧ cs = [] ∧ len = 0) ∨ ∃ b g, v = .sl b g 0 len sz ∧ h.get b = some (.cells g cs) ∧ cs.length = len * sz ∧ ok b
theorem Row.nil {ok : Nat → Prop} {sz : Nat} : Row h ok .nilsl [] 0 sz := .inl ⟨rfl, rfl, rfl⟩
theorem Row.keep {h h' : Heap} {ok ok' : Nat → Prop} {v : AV} {cs : List AV} {len sz : Nat} (hr : Row h ok v cs len sz) (hk : ∀ b, ok b → h.get b ≠ none → h'.get b = h.get b ∧ ok' b) : Row h' ok' v cs len sz := by
  rcases hr with hr | ⟨b, g, h1, h2, h3, h4⟩
  · exact .inl hr
  · obtain ⟨k1, k2⟩ := hk b h4 (by rw [h2]; simp)
    exact .inr ⟨b, g, h1, by rw [k1]; exact h2, h3, k2⟩
theorem Row.frz {ok : Nat → Prop} {v : AV} {cs ys : List AV} {len sz : Nat} (hr : Row h ok v cs len sz) (hL : FrzL h cs ys) : FrzTo h v (.fsl ys len sz) := by
  rcases hr with ⟨rfl, rfl, rfl⟩ | ⟨b, g, rfl, h2, h3, h4⟩
  · cases ys with
    | nil => exact FrzTo.nil
    | cons y ys => exact hL.elim
  · refine FrzTo.sl h2 (by omega) ?_
    rw [List.drop_zero, ← h3, List.take_length]; exact hL
theorem Row.len {ok : Nat → Prop} {v : AV} {cs : List AV} {len sz : Nat} (hr : Row h ok v cs len sz) : cs.length = len * sz := by
  rcases hr with ⟨_, rfl, rfl⟩ | ⟨_, _, _, _, h3, _⟩
  · simp
  · exact h3
section
variable {N : NM} {n : Nat} {d : Option Nat} {af dead : List Nat} {r : List SOper} {T : Tmps} {Q : QC} {fs : List Fr}
end
end Go.AM
set_option linter.unusedSimpArgs false
set_option linter.unusedVariables false
namespace Go.AM
variable {P : Program}
def blkOf : AV → Option Nat
  | .sl b _ _ _ _ => some b
  | _ => none
structure Mat (h : Heap) (n lo : Nat) (v : AV) (rows : List AV) (L : List (List Int)) : Prop where
  len : rows.length = L.length
  out : Row h (fun b => blkOf v = some b ∧ lo < b ∧ b < n) v rows rows.length 1
  row : ∀ (j : Nat) (r : AV) (l : List Int), rows[j]? = some r → L[j]? = some l → Row h (fun b => lo < b ∧ b < n ∧ blkOf v ≠ some b) r (l.map (.int .i64)) l.length 1
theorem Mat.nil {h : Heap} {n lo : Nat} : Mat h n lo .nilsl [] [] := ⟨rfl, .nil, fun j r l hr => by simp at hr⟩
theorem Mat.keep {h h' : Heap} {n n' lo : Nat} {v : AV} {rows : List AV} {L : List (List Int)} (m : Mat h n lo v rows L) (hn : n ≤ n') (hk : ∀ b, lo < b → b < n → h'.get b = h.get b) : Mat h' n' lo v rows L :=
  ⟨m.len, m.out.keep fun b hb _ => ⟨hk b hb.2.1 hb.2.2, hb.1, hb.2.1, by omega⟩, fun j r l h1 h2 => (m.row j r l h1 h2).keep fun b hb _ => ⟨hk b hb.1 hb.2.1, hb.1, by omega, hb.2.2⟩⟩
theorem Mat.frzL {h : Heap} {n lo : Nat} {v : AV} {rows : List AV} {L : List (List Int)} (m : Mat h n lo v rows L) : FrzL h rows (L.map fun l => .fsl (l.map (.int .i64)) l.length 1) := by
  have key : ∀ (rows : List AV) (L : List (List Int)), rows.length = L.length → (∀ (j : Nat) (r : AV) (l : List Int), rows[j]? = some r → L[j]? = some l → FrzTo h r (.fsl (l.map (.int .i64)) l.length 1)) →
      FrzL h rows (L.map fun l => .fsl (l.map (.int .i64)) l.length 1) := by
    intro rows
    induction rows with
    | nil => intro L hl _; cases L with | nil => trivial | cons a L => simp at hl
    | cons r rows ih =>
      intro L hl hh
      cases L with
      | nil => simp at hl
      | cons a L => exact ⟨hh 0 r a rfl rfl, ih L (by simpa using hl) fun j r l h1 h2 => hh (j + 1) r l (by simpa using h1) (by simpa using h2)⟩
  exact key rows L m.len fun j r l h1 h2 => (m.row j r l h1 h2).frz (FrzL.same _)
theorem Mat.frz {h : Heap} {n lo : Nat} {v : AV} {rows : List AV} {L : List (List Int)} (m : Mat h n lo v rows L) : FrzTo h v (.fsl (L.map fun l => .fsl (l.map (.int .i64)) l.length 1) L.length 1) := by
  have := m.out.frz m.frzL
  rwa [m.len] at this
theorem Row.one {h : Heap} {ok : Nat → Prop} {v : AV} {cs : List AV} {len sz : Nat} (hr : Row h ok v cs len sz) : v.one = true := by
  rcases hr with ⟨rfl, _⟩ | ⟨_, _, rfl, _⟩ <;> rfl
theorem Row.boxable {h : Heap} {ok : Nat → Prop} {v : AV} {cs : List AV} {len sz : Nat} (hr : Row h ok v cs len sz) : v.boxable = true := by
  rcases hr with ⟨rfl, _⟩ | ⟨_, _, rfl, _⟩ <;> rfl
section
variable {N : NM} {n : Nat} {d : Option Nat} {dead : List Nat} {r : List SOper} {T : Tmps} {Q : QC} {fs : List Fr}
end
end Go.AM
set_option linter.unusedSimpArgs false
set_option linter.unusedVariables false
namespace Go.AM
variable {P : Program}
abbrev HL := List (Nat × Blk)
def hp : HL → Heap
  | [] => .e
  | p :: r => (hp r).set p.1 p.2
theorem hp_nil : hp [] = .e := rfl
theorem hp_cons {b : Nat} {x : Blk} {r : HL} : hp ((b, x) :: r) = (hp r).set b x := rfl
theorem get_e {b : Nat} : Tr.get (α := Blk) .e b = none := by simp [Tr.get]
def lkS : List (Nat × Src) → Nat → Option Src
  | [], _ => none
  | (b, s) :: r, k => if k = b then some s else lkS r k
def srcNew (s : Src) : List (Nat × Src) → Bool
  | [] => true
  | (_, t) :: r => (match s, t with | .blk b _, .blk b' _ => !Nat.beq b b' | _, _ => true) && srcNew s r
def okPs (m : Nat) : List (Nat × Src) → HL → Bool
  | [], [] => true
  | (b, s) :: r, (b', _) :: l => Nat.beq b b' && Nat.blt b 1099511627775 && (Nat.blt b m || ((match s with | .blk k _ => Nat.ble m k | .nil => true) && srcNew s r)) && (r.all fun p => !Nat.beq p.1 b) && okPs m r l
  | _, _ => false
def ow (m : Nat) (ps : List (Nat × Src)) : Nat → Option Src := fun b => if b < m then none else lkS ps b
def RB (m : Nat) (π : Nat → Option Src) (h : Heap) : HL → Prop
  | [] => True
  | (b', x) :: r => ((b' < m ∧ BRn m π h (some (.blk b' x.gen)) x) ∨ (m ≤ b' ∧ x.gen = 0 ∧ (∀ g, x ≠ .dead g) ∧ BRn m π h (π b') x)) ∧ RB m π h r
section
variable {m : Nat} {π : Nat → Option Src} {h : Heap}
theorem hp_get : ∀ {L : HL} {ps : List (Nat × Src)}, okPs m ps L = true → ∀ {b : Nat} {x : Blk}, (hp L).get b = some x → (b, x) ∈ L
  | [], [], _, b, x, hx => by simp [hp, Tr.get] at hx
  | [], _ :: _, hh, _, _, _ => by simp [okPs] at hh
  | (b', x') :: L, [], hh, _, _, _ => by simp [okPs] at hh
  | (b', x') :: L, (k, s) :: ps, hh, b, x, hx => by
    simp only [okPs, Bool.and_eq_true, Nat.blt_eq, Nat.beq_eq] at hh
    obtain ⟨⟨⟨⟨rfl, h3⟩, _⟩, _⟩, h4⟩ := hh
    simp only [hp] at hx
    by_cases e : b = k
    · subst e
      rw [get_same h3] at hx; cases hx
      simp
    · rw [get_ne h3 e] at hx
      simp [hp_get h4 hx]
theorem hp_none : ∀ {L : HL} {ps : List (Nat × Src)}, okPs m ps L = true → ∀ {b : Nat}, (hp L).get b = none → lkS ps b = none
  | [], [], _, b, _ => rfl
  | [], _ :: _, hh, _, _ => by simp [okPs] at hh
  | (b', x') :: L, [], hh, _, _ => by simp [okPs] at hh
  | (b', x') :: L, (k, s) :: ps, hh, b, hx => by
    simp only [okPs, Bool.and_eq_true, Nat.blt_eq, Nat.beq_eq] at hh
    obtain ⟨⟨⟨⟨rfl, h3⟩, _⟩, _⟩, h4⟩ := hh
    simp only [hp] at hx
    by_cases e : b = k
    · subst e
      rw [get_same h3] at hx; cases hx
    · rw [get_ne h3 e] at hx
      simp only [lkS, if_neg e]
      exact hp_none h4 hx
theorem RB.mem : ∀ {L : HL}, RB m π h L → ∀ {b : Nat} {x : Blk}, (b, x) ∈ L → (b < m ∧ BRn m π h (some (.blk b x.gen)) x) ∨ (m ≤ b ∧ x.gen = 0 ∧ (∀ g, x ≠ .dead g) ∧ BRn m π h (π b) x)
  | [], _, _, _, hm => by cases hm
  | (b', x') :: L, hh, b, x, hm => by
    rcases List.mem_cons.1 hm with e | hm
    · cases e; exact hh.1
    · exact RB.mem hh.2 hm
theorem okPs_src : ∀ {ps : List (Nat × Src)} {L : HL}, okPs m ps L = true → ∀ {b b1 g : Nat}, m ≤ b → lkS ps b = some (.blk b1 g) → m ≤ b1
  | [], _, _, _, _, _, _, hs => by simp [lkS] at hs
  | _ :: _, [], hh, _, _, _, _, _ => by simp [okPs] at hh
  | (k, s) :: ps, (b', x') :: L, hh, b, b1, g, hb, hs => by
    simp only [okPs, Bool.and_eq_true, Bool.or_eq_true, Nat.blt_eq] at hh
    obtain ⟨⟨⟨_, h3⟩, _⟩, h4⟩ := hh
    simp only [lkS] at hs
    split at hs
    · rename_i e
      cases hs
      rcases h3 with h3 | h3
      · omega
      · simpa using h3.1
    · exact okPs_src h4 hb hs
theorem srcNew_ne : ∀ {ps : List (Nat × Src)} {b g b' g' k : Nat}, srcNew (.blk b g) ps = true → lkS ps k = some (.blk b' g') → b ≠ b'
  | [], _, _, _, _, _, _, hs => by simp [lkS] at hs
  | (j, s) :: ps, b, g, b', g', k, hh, hs => by
    simp only [srcNew, Bool.and_eq_true] at hh
    simp only [lkS] at hs
    split at hs
    · cases hs
      have := hh.1
      simp only [Bool.not_eq_true'] at this
      intro e; subst e; simp at this
    · exact srcNew_ne hh.2 hs
theorem okPs_inj : ∀ {ps : List (Nat × Src)} {L : HL}, okPs m ps L = true → ∀ {b1 b2 b g g2 : Nat}, m ≤ b1 → m ≤ b2 → lkS ps b1 = some (.blk b g) → lkS ps b2 = some (.blk b g2) → b1 = b2
  | [], _, _, _, _, _, _, _, _, _, hs, _ => by simp [lkS] at hs
  | _ :: _, [], hh, _, _, _, _, _, _, _, _, _ => by simp [okPs] at hh
  | (k, s) :: ps, (b', x') :: L, hh, b1, b2, b, g, g2, m1, m2, h1, h2 => by
    simp only [okPs, Bool.and_eq_true, Bool.or_eq_true, Nat.blt_eq] at hh
    obtain ⟨⟨⟨_, hn⟩, _⟩, h4⟩ := hh
    simp only [lkS] at h1 h2
    split at h1 <;> split at h2
    · rename_i e1 e2; rw [e1, e2]
    · rename_i e1 e2
      cases h1
      rcases hn with hn | hn
      · omega
      · exact absurd rfl (srcNew_ne hn.2 h2)
    · rename_i e1 e2
      cases h2
      rcases hn with hn | hn
      · omega
      · exact absurd rfl (srcNew_ne hn.2 h1)
    · exact okPs_inj h4 m1 m2 h1 h2
theorem lkS_mem : ∀ {ps : List (Nat × Src)} {L : HL}, okPs m ps L = true → ∀ {b : Nat} {s : Src}, lkS ps b = some s → ∃ x, (b, x) ∈ L
  | [], _, _, _, _, hs => by simp [lkS] at hs
  | _ :: _, [], hh, _, _, _ => by simp [okPs] at hh
  | (k, t) :: ps, (b', x') :: L, hh, b, s, hs => by
    simp only [okPs, Bool.and_eq_true, Nat.beq_eq] at hh
    obtain ⟨⟨⟨⟨rfl, _⟩, _⟩, _⟩, h4⟩ := hh
    simp only [lkS] at hs
    split at hs
    · rename_i e; subst e; exact ⟨x', by simp⟩
    · obtain ⟨x, hx⟩ := lkS_mem h4 hs
      exact ⟨x, by simp [hx]⟩
def RO (m : Nat) (L : HL) (h : Heap) : Prop := ∀ b, b < m → (∀ p ∈ L, p.1 ≠ b) → h.get b = none
theorem RO.zero {L : HL} : RO 0 L h := fun b hb => absurd hb (Nat.not_lt_zero _)
theorem RO.e {L : HL} : RO m L .e := fun b _ _ => get_e
theorem RO.set {L : HL} {k : Nat} {x : Blk} (hk : (Nat.blt k 1099511627775 && (Nat.ble m k || L.any fun p => Nat.beq p.1 k)) = true) (hr : RO m L h) : RO m L (h.set k x) := fun b hb hn => by
  simp only [Bool.and_eq_true, Bool.or_eq_true, Nat.blt_eq, Nat.ble_eq, List.any_eq_true, Nat.beq_eq] at hk
  obtain ⟨h1, h2⟩ := hk
  have : b ≠ k := by
    rintro rfl
    rcases h2 with h2 | ⟨p, hp, h2⟩
    · omega
    · exact hn p hp h2
  rw [get_ne h1 this]; exact hr b hb hn
def Rec (m : Nat) (T' : Tmps) (L : HL) (T : Tmps) (h : Heap) : Prop := ∃ ps, okPs m ps L = true ∧ RO m L h ∧ RB m (ow m ps) h L ∧ RT m (ow m ps) h T' T
theorem ow_ge {ps : List (Nat × Src)} {b : Nat} (hb : m ≤ b) : ow m ps b = lkS ps b := if_neg (by omega)
theorem Rec.maps {ps : List (Nat × Src)} {L : HL} (ho : okPs m ps L = true) (hb : RB m (ow m ps) h L) : Maps m (ow m ps) h := by
  refine ⟨fun b' b g hm hs => ?_, fun b1 b2 b g g2 m1 m2 h1 h2 => okPs_inj ho m1 m2 (by rw [← ow_ge m1]; exact h1) (by rw [← ow_ge m2]; exact h2)⟩
  rw [ow_ge hm] at hs
  refine ⟨?_, okPs_src ho hm hs⟩
  obtain ⟨x, hx⟩ := lkS_mem ho hs
  rcases hb.mem hx with ⟨q0, _⟩ | ⟨_, q1, q2, q3⟩
  · omega
  rw [ow_ge hm, hs] at q3
  cases x with
  | cells g' cs => obtain ⟨ds, _, k1, _⟩ := q3; exact ⟨_, k1, rfl, fun k => by simp⟩
  | map g' es => obtain ⟨ds, k1, _⟩ := q3; exact ⟨_, k1, rfl, fun k => by simp⟩
  | dead g' => exact absurd rfl (q2 g')
theorem Rec.heap {ps : List (Nat × Src)} {L : HL} (ho : okPs m ps L = true) (hb : RB m (ow m ps) h L) : RH m (ow m ps) h (hp L) := fun b' x' hx => hb.mem (hp_get ho hx)
theorem hp_mem : ∀ {L : HL} {ps : List (Nat × Src)}, okPs m ps L = true → ∀ {b : Nat}, (hp L).get b = none → ∀ p ∈ L, p.1 ≠ b
  | [], _, _, _, _, p, hp => by cases hp
  | (b', x') :: L, [], hh, _, _, _, _ => by simp [okPs] at hh
  | (b', x') :: L, (k, s) :: ps, hh, b, hx, p, hpm => by
    simp only [okPs, Bool.and_eq_true, Nat.blt_eq, Nat.beq_eq] at hh
    obtain ⟨⟨⟨⟨rfl, h3⟩, _⟩, _⟩, h4⟩ := hh
    simp only [hp] at hx
    by_cases e : b = k
    · subst e; rw [get_same h3] at hx; cases hx
    · rw [get_ne h3 e] at hx
      rcases List.mem_cons.1 hpm with rfl | hpm
      · exact fun e2 => e e2.symm
      · exact hp_mem h4 hx p hpm
theorem Rec.dom {ps : List (Nat × Src)} {L : HL} (ho : okPs m ps L = true) (hr : RO m L h) : RD m (ow m ps) h (hp L) := fun b' hx =>
  ⟨fun hlt => hr b' hlt (hp_mem ho hx), fun hge => by rw [ow_ge hge]; exact hp_none ho hx⟩
theorem W2.recL {sc : SCode} {n : Nat} {Q : SX → St → Prop} {T T' : Tmps} {L : HL} (hr : Rec m T' L T h) (hw : W2 P ⟨n, m⟩ sc Q ⟨T', hp L⟩) : W2 P ⟨n, m⟩ sc Q ⟨T, h⟩ := by
  obtain ⟨ps, ho, hro, hb, ht⟩ := hr
  exact W2.recast (N := ⟨n, m⟩) (Rec.maps ho hb) (Rec.heap ho hb) (Rec.dom ho hro) ht hw
theorem W2.post {sc : SCode} {k : Nat} {Q : SX → St → Prop} {A : St} (hw : W2 P ⟨k, m⟩ sc (fun e B => Q e B ∨ ∃ T' L, Rec m T' L B.T B.h ∧ Q e ⟨T', hp L⟩) A) : W2 P ⟨k, m⟩ sc Q A := by
  intro code hok c a w S Q' hQ
  refine hw code hok c a w S Q' ?_
  rintro e B c' a' w' (hq | ⟨T', L, ⟨ps, ho, hro, hb, ht⟩, hq⟩) S' E'
  · exact hQ e B c' a' w' hq S' E'
  · have M := Rec.maps ho hb
    exact hQ e ⟨T', hp L⟩ (nctx m (ow m ps) B.h c') a' w' hq ⟨(Rec.heap ho hb).hrel (Rec.dom ho hro) M S'.heap, fun i => ht i c' w' _ S'.heap M (S'.tmps i), S'.size, S'.defers⟩ (E'.trans (nctx_evo c' w'))
theorem RT.nil {T : Tmps} : RT m π h [] T := fun _ => Rn.any
theorem RT.cons {T' T : Tmps} {j : Nat} {v : AV} (hv : Rn m π h v (lk T j)) (hr : RT m π h T' T) : RT m π h ((j, v) :: T') T := by
  intro i
  rw [lk_cons]
  split
  · rename_i e; subst e; exact hv
  · exact hr i
theorem RT.cons' {T' T : Tmps} {j : Nat} {v u : AV} (hu : lk T j = u) (hv : Rn m π h v u) (hr : RT m π h T' T) : RT m π h ((j, v) :: T') T := RT.cons (hu ▸ hv) hr
theorem RB.nil : RB m π h [] := trivial
theorem RB.cells {b b' g : Nat} {cs ds : List AV} {r : HL} (hm : Nat.ble m b' = true) (hp : π b' = some (.blk b g)) (hg : h.get b = some (.cells g ds)) (hc : RnL m π h cs ds) (hr : RB m π h r) : RB m π h ((b', .cells 0 cs) :: r) :=
  ⟨.inr ⟨Nat.le_of_ble_eq_true hm, rfl, fun _ => by simp, by rw [hp]; exact ⟨ds, ds.length, hg, by rw [List.take_length]; exact hc⟩⟩, hr⟩
theorem RB.pre {b b' g : Nat} {cs ds : List AV} {r : HL} (k : Nat) (hm : Nat.ble m b' = true) (hp : π b' = some (.blk b g)) (hg : h.get b = some (.cells g ds)) (hc : RnL m π h cs (ds.take k)) (hr : RB m π h r) : RB m π h ((b', .cells 0 cs) :: r) :=
  ⟨.inr ⟨Nat.le_of_ble_eq_true hm, rfl, fun _ => by simp, by rw [hp]; exact ⟨ds, k, hg, hc⟩⟩, hr⟩
theorem RB.newnil {b' : Nat} {r : HL} (hm : Nat.ble m b' = true) (hp : π b' = some .nil) (hr : RB m π h r) : RB m π h ((b', .cells 0 []) :: r) := ⟨.inr ⟨Nat.le_of_ble_eq_true hm, rfl, fun _ => by simp, by rw [hp]; rfl⟩, hr⟩
theorem RB.map {b b' g : Nat} {es fs : List (AV × AV)} {r : HL} (hm : Nat.ble m b' = true) (hp : π b' = some (.blk b g)) (hg : h.get b = some (.map g fs)) (hc : RnM m π h es fs) (hr : RB m π h r) : RB m π h ((b', .map 0 es) :: r) :=
  ⟨.inr ⟨Nat.le_of_ble_eq_true hm, rfl, fun _ => by simp, by rw [hp]; exact ⟨fs, hg, hc⟩⟩, hr⟩
theorem RB.cellsB {b g : Nat} {cs ds : List AV} {r : HL} (hm : Nat.blt b m = true) (hg : h.get b = some (.cells g ds)) (hc : RnL m π h cs ds) (hr : RB m π h r) : RB m π h ((b, .cells g cs) :: r) :=
  ⟨.inl ⟨by simpa using hm, ds, ds.length, hg, by rw [List.take_length]; exact hc⟩, hr⟩
theorem RB.mapB {b g : Nat} {es fs : List (AV × AV)} {r : HL} (hm : Nat.blt b m = true) (hg : h.get b = some (.map g fs)) (hc : RnM m π h es fs) (hr : RB m π h r) : RB m π h ((b, .map g es) :: r) :=
  ⟨.inl ⟨by simpa using hm, fs, hg, hc⟩, hr⟩
theorem lkS_new {s : Src} : ∀ {ps : List (Nat × Src)}, srcNew s ps = true → ∀ b' g', lkS ps b' = some g' → (match s, g' with | .blk b _, .blk b2 _ => b ≠ b2 | _, _ => True)
  | [], _, b', g', hs => by simp [lkS] at hs
  | (j, t) :: ps, hh, b', g', hs => by
    simp only [srcNew, Bool.and_eq_true] at hh
    simp only [lkS] at hs
    split at hs
    · cases hs
      have := hh.1
      cases s <;> cases t <;> simp_all
      intro e; subst e; simp at this
    · exact lkS_new hh.2 b' g' hs
theorem RnL.nil {m : Nat} {π : Nat → Option Src} {h : Heap} : RnL m π h [] [] := trivial
theorem RnL.cons {m : Nat} {π : Nat → Option Src} {h : Heap} {x y : AV} {xs ys : List AV} (h1 : Rn m π h x y) (h2 : RnL m π h xs ys) : RnL m π h (x :: xs) (y :: ys) := ⟨h1, h2⟩
theorem Rn.fz {ps : List (Nat × Src)} {b g len sz : Nat} {cs ds : List AV} (hb : h.get b = some (.cells g ds)) (hn : srcNew (.blk b g) ps = true) (hm : Nat.ble m b = true) (hl : ds.length = len * sz)
    (hL : RnL m (ow m ps) h cs ds) : Rn m (ow m ps) h (.fsl cs len sz) (.sl b g 0 len sz) := by
  refine Rn.frz hb (by simpa using hm) (fun b' g' hb' e => ?_) (by omega) ?_
  · rw [ow_ge hb'] at e; exact lkS_new hn b' _ e rfl
  · rw [List.drop_zero, ← hl, List.take_length]; exact hL
theorem Rn.fzm {ps : List (Nat × Src)} {b g len sz k : Nat} {cs ds : List AV} (hb : h.get b = some (.cells g ds)) (hn : srcNew (.blk b g) ps = true) (hm : Nat.ble m b = true) (hk : k = len) (hl : ds.length = len * sz)
    (hL : RnL m (ow m ps) h cs ds) : Rn m (ow m ps) h (.fsl cs k sz) (.sl b g 0 len sz) := by subst hk; exact Rn.fz hb hn hm hl hL
theorem Rn.fz0 {b g len sz : Nat} {cs ds : List AV} (hb : h.get b = some (.cells g ds)) (hl : ds.length = len * sz)
    (hL : RnL 0 π0 h cs ds) : Rn 0 π0 h (.fsl cs len sz) (.sl b g 0 len sz) := by
  refine Rn.frz hb (Nat.zero_le _) (fun b' g' _ e => by simp [π0] at e) (by omega) ?_
  rw [List.drop_zero, ← hl, List.take_length]; exact hL
end
theorem Rn.slot {m : Nat} {π : Nat → Option Src} {h : Heap} {T : Tmps} {j : Nat} {v : AV} (hv : lk T j = v) (hn : noRef v = true) : Rn m π h v (lk T j) := by rw [hv]; exact Rn.same hn
section
variable {m : Nat} {π : Nat → Option Src} {h : Heap}
theorem Rn.x1 {b' b g off len sz : Nat} (hm : Nat.ble m b' = true) (hp : π b' = some (.blk b g)) : Rn m π h (.sl b' 0 off len sz) (.sl b g off len sz) := Rn.sl (Nat.le_of_ble_eq_true hm) hp
theorem Rn.x2 {b' b g off : Nat} (hm : Nat.ble m b' = true) (hp : π b' = some (.blk b g)) : Rn m π h (.ptr b' 0 off) (.ptr b g off) := Rn.ptr (Nat.le_of_ble_eq_true hm) hp
theorem Rn.x3 {b' b g : Nat} (hm : Nat.ble m b' = true) (hp : π b' = some (.blk b g)) : Rn m π h (.map b' 0) (.map b g) := Rn.map (Nat.le_of_ble_eq_true hm) hp
theorem Rn.x4 {b' sz : Nat} (hm : Nat.ble m b' = true) (hp : π b' = some .nil) : Rn m π h (.sl b' 0 0 0 sz) .nilsl := Rn.slnil (Nat.le_of_ble_eq_true hm) hp
theorem Rn.x5 {b g off len sz : Nat} (hm : Nat.ble (b + 1) m = true) : Rn m π h (.sl b g off len sz) (.sl b g off len sz) := Rn.slB (Nat.le_of_ble_eq_true hm)
theorem Rn.x6 {b g off : Nat} (hm : Nat.ble (b + 1) m = true) : Rn m π h (.ptr b g off) (.ptr b g off) := Rn.ptrB (Nat.le_of_ble_eq_true hm)
theorem Rn.x7 {b g : Nat} (hm : Nat.ble (b + 1) m = true) : Rn m π h (.map b g) (.map b g) := Rn.mapB (Nat.le_of_ble_eq_true hm)
end
section
variable {k m n : Nat} {T : Tmps} {h : Heap} {Q : QC} {fs : List Fr} {α : Type} {env : α → Tmps} {H : α → HL} {I : α → Prop} {μ : α → Nat} {a : α}
def loopR (P : Program) (k m : Nat) {α : Type} (env : α → Tmps) (H : α → HL) (I : α → Prop) (μ : α → Nat) (a : α) (fs : List Fr) (Q : QC) : QC := fun e T h n =>
  match e with
  | .normal => ∃ a', μ a' < μ a ∧ I a' ∧ Rec m (env a') (H a') T h
  | e => wX P ⟨k, m⟩ e fs n T h Q
theorem loopR_normal : loopR P k m env H I μ a fs Q .normal T h n = ∃ a', μ a' < μ a ∧ I a' ∧ Rec m (env a') (H a') T h := rfl
theorem loopR_exit {i : Nat} : loopR P k m env H I μ a fs Q (.exit i) T h n = wX P ⟨k, m⟩ (.exit i) fs n T h Q := rfl
theorem loopR_ret : loopR P k m env H I μ a fs Q .ret T h n = wX P ⟨k, m⟩ .ret fs n T h Q := rfl
theorem wS_loopR {b : SCode} (n0 : Nat) (env : α → Tmps) (H : α → HL) (I : α → Prop) (μ : α → Nat) (a0 : α)
    (h0 : Rec m (env a0) (H a0) T h) (hI : I a0) (round : ∀ a, I a → wS P ⟨k, m⟩ b [] n0 (env a) (hp (H a)) (loopR P k m env H I μ a fs Q)) : wS P ⟨k, m⟩ (.loop b) fs n T h Q := by
  show W2 P ⟨k, m⟩ (.loop b) (fun e B => ∃ n, ct P ⟨k, m⟩ fs Q e B.T B.h n) ⟨T, h⟩
  refine W2.loop (fun q B => ∃ a, μ a = q ∧ I a ∧ Rec m (env a) (H a) B.T B.h) (μ a0) ⟨a0, rfl, hI, h0⟩ ?_
  rintro q B ⟨a, rfl, hi, hr⟩
  refine W2.recL hr ((wpC.toW (round a hi)).mono ?_)
  rintro e C ⟨n2, hq⟩
  cases e with
  | normal => obtain ⟨a', h1, h2, h3⟩ := hq; exact ⟨μ a', h1, a', rfl, h2, h3⟩
  | exit i => exact ⟨n2, hq⟩
  | ret => exact ⟨n2, hq⟩
def loopX (P : Program) (k m : Nat) {α β : Type} (env : α → Tmps) (H : α → HL) (I : α → Prop) (μ : α → Nat) (i : Nat) (T1 : β → Tmps) (L1 : β → HL) (J : β → Prop) (a : α) (fs : List Fr) (Q : QC) : QC := fun e T h n =>
  match e with
  | .normal => ∃ a', μ a' < μ a ∧ I a' ∧ Rec m (env a') (H a') T h
  | .exit j => if j = i then ∃ b, J b ∧ Rec m (T1 b) (L1 b) T h else wX P ⟨k, m⟩ (.exit j) fs n T h Q
  | .ret => wX P ⟨k, m⟩ .ret fs n T h Q
section
variable {β : Type} {i : Nat} {T1 : β → Tmps} {L1 : β → HL} {J : β → Prop}
theorem loopX_normal : loopX P k m env H I μ i T1 L1 J a fs Q .normal T h n = ∃ a', μ a' < μ a ∧ I a' ∧ Rec m (env a') (H a') T h := rfl
theorem loopX_exit {j : Nat} : loopX P k m env H I μ i T1 L1 J a fs Q (.exit j) T h n = if j = i then ∃ b, J b ∧ Rec m (T1 b) (L1 b) T h else wX P ⟨k, m⟩ (.exit j) fs n T h Q := rfl
theorem loopX_ret : loopX P k m env H I μ i T1 L1 J a fs Q .ret T h n = wX P ⟨k, m⟩ .ret fs n T h Q := rfl
end
theorem wS_loopX {b : SCode} {β : Type} (n0 : Nat) (env : α → Tmps) (H : α → HL) (I : α → Prop) (μ : α → Nat) (a0 : α) (i n1 : Nat) (T1 : β → Tmps) (L1 : β → HL) (J : β → Prop)
    (h0 : Rec m (env a0) (H a0) T h) (hI : I a0) (round : ∀ a, I a → wS P ⟨k, m⟩ b [] n0 (env a) (hp (H a)) (loopX P k m env H I μ i T1 L1 J a fs Q))
    (cont : ∀ b, J b → wX P ⟨k, m⟩ (.exit i) fs n1 (T1 b) (hp (L1 b)) Q) : wS P ⟨k, m⟩ (.loop b) fs n T h Q := by
  show W2 P ⟨k, m⟩ (.loop b) (fun e B => ∃ n, ct P ⟨k, m⟩ fs Q e B.T B.h n) ⟨T, h⟩
  refine W2.post ?_
  refine W2.loop (fun q B => ∃ a, μ a = q ∧ I a ∧ Rec m (env a) (H a) B.T B.h) (μ a0) ⟨a0, rfl, hI, h0⟩ ?_
  rintro q B ⟨a, rfl, hi, hr⟩
  refine W2.recL hr ((wpC.toW (round a hi)).mono ?_)
  rintro e C ⟨n2, hq⟩
  cases e with
  | normal => obtain ⟨a', h1, h2, h3⟩ := hq; exact ⟨μ a', h1, a', rfl, h2, h3⟩
  | exit j =>
    replace hq : loopX P k m env H I μ i T1 L1 J a fs Q (.exit j) C.T C.h n2 := hq
    rw [loopX_exit] at hq
    split at hq
    · rename_i e; subst e
      obtain ⟨b, hJ, hr⟩ := hq
      exact .inr ⟨_, _, hr, n1, cont b hJ⟩
    · exact .inl ⟨n2, hq⟩
  | ret => exact .inl ⟨n2, hq⟩
end
section
variable {N : NM} {n : Nat} {d : Option Nat} {af dead : List Nat} {r : List SOper} {T : Tmps} {h : Heap} {Q : QC} {fs : List Fr}
def wA (P : Program) (N : NM) (zs ys : Option (List AV)) (g len2 len sz bytes b : Nat) (d : Option Nat) (ops : List SOper) (dead : List Nat) (fs : List Fr) (n : Nat) (T : Tmps) (h : Heap) (Q : QC) : Prop :=
  ∃ y z, ys = some y ∧ zs = some z ∧ ((len2 + len) * bytes ≤ 1099511627776 ∧ len2 + len ≤ 1099511627776) ∧ y.all AV.one = true ∧
      wB P N (some (.cells (g + 1) (z ++ y))) b (.sl b (g + 1) 0 (len2 + len) sz) d ops dead fs n T h Q
theorem aAppend_slW {sz bytes b g off len b2 g2 off2 len2 : Nat} : wM P N (aAppend .dyn n sz bytes (.sl b2 g2 off2 len2 sz) (.sl b g off len sz)) d r dead fs n T h Q =
    wA P N (srcB (h.get b2) g2 off2 len2 sz) (srcB (h.get b) g off len sz) g2 len2 len sz bytes b2 d r dead fs n T h Q := by
  rw [aAppend_sl]
  apply propext; constructor
  · rintro ⟨ys, zs, h1, h2, h3, h4, h5⟩; exact ⟨ys, zs, h1, h2, h3, h4, h5⟩
  · rintro ⟨ys, zs, h1, h2, h3, h4, h5⟩; exact ⟨ys, zs, h1, h2, h3, h4, h5⟩
theorem wA_some {zs ys : List AV} {g len2 len sz bytes b : Nat} (h1 : (len2 + len) * bytes ≤ 1099511627776) (h2 : len2 + len ≤ 1099511627776) :
    wA P N (some zs) (some ys) g len2 len sz bytes b d r dead fs n T h Q = if ys.all AV.one = true then wB P N (some (.cells (g + 1) (zs ++ ys))) b (.sl b (g + 1) 0 (len2 + len) sz) d r dead fs n T h Q else False := by
  by_cases ho : ys.all AV.one = true
  · rw [if_pos ho]; apply propext; constructor
    · rintro ⟨y, z, e1, e2, _, _, h5⟩; cases e1; cases e2; exact h5
    · intro h5; exact ⟨ys, zs, rfl, rfl, ⟨h1, h2⟩, ho, h5⟩
  · rw [if_neg ho]; apply propext; constructor
    · rintro ⟨y, z, e1, e2, _, h4, h5⟩; cases e1; exact ho h4
    · exact fun h => h.elim
theorem srcB_all {g len sz : Nat} {cs : List AV} (hl : cs.length = len * sz) : srcB (some (.cells g cs)) g 0 len sz = some cs := by
  rw [srcB_some, if_pos ⟨rfl, by omega⟩, List.drop_zero, ← hl, List.take_length]
end
end Go.AM
set_option linter.unusedVariables false
namespace Go.AM
theorem words : type_of% @wS_skip ∧ type_of% @wS_ret ∧ type_of% @wS_exit ∧ type_of% @wS_region ∧ type_of% @wS_seq ∧ type_of% @wS_cond ∧ type_of% @wS_block ∧ type_of% @wC_true ∧ type_of% @wC_false ∧ type_of% @wC_bool ∧ type_of% @wX_nil ∧ type_of% @wX_sq ∧ type_of% @wX_sq_ret ∧ type_of% @wX_sq_exit ∧ type_of% @wX_blk ∧ type_of% @wX_blk_ret ∧ type_of% @wX_blk_exit ∧ type_of% @loopQ_normal ∧ type_of% @loopQ_exit ∧ type_of% @loopQ_ret ∧ type_of% @ev_t ∧ type_of% @ev_c ∧ type_of% @ev_f ∧ type_of% @lk_nil ∧ type_of% @lk_cons ∧ type_of% @up_cons ∧ type_of% @up_nil ∧ type_of% @rm_nil ∧ type_of% @rm_no ∧ type_of% @rm_cons ∧ type_of% @putD_some ∧ type_of% @putD_none ∧ type_of% @argT_nil ∧ type_of% @argT_cons ∧ type_of% @evs_nil ∧ type_of% @evs_cons ∧ type_of% @evo_none ∧ type_of% @evo_some ∧ type_of% @evParts_nil ∧ type_of% @evParts_cons ∧ type_of% @wR_nil ∧ type_of% @wR_guard ∧ type_of% @wG_bool ∧ type_of% @wG_skip ∧ type_of% @wR_mov ∧ type_of% @wR_mkfn ∧ type_of% @wR_pick ∧ type_of% @wR_build ∧ type_of% @wR_nilchk ∧ type_of% @wR_bin ∧ type_of% @wR_eq ∧ type_of% @wR_un ∧ type_of% @wR_conv ∧ type_of% @wR_convS ∧ type_of% @wR_slice ∧ type_of% @wR_faddr ∧ type_of% @wR_field ∧ type_of% @wR_iaddr ∧ type_of% @wR_index ∧ type_of% @wR_extract ∧ type_of% @wR_maxmin ∧ type_of% @wR_alloc ∧ type_of% @wR_box ∧ type_of% @wR_bslice ∧ type_of% @wR_load ∧ type_of% @wR_store ∧ type_of% @wR_mkmap ∧ type_of% @wR_mkslice ∧ type_of% @wR_lookup ∧ type_of% @wR_mupd ∧ type_of% @wR_len ∧ type_of% @wR_append ∧ type_of% @wR_copy ∧ type_of% @wR_call ∧ type_of% @wO_some ∧ type_of% @wO_pos ∧ type_of% @wO_neg ∧ type_of% @wM_ret ∧ type_of% @wB_some ∧ type_of% @aLoad_ptr ∧ type_of% @aLoad_fptr1 ∧ type_of% @aLoad_fptrN ∧ type_of% @aStore_ptr ∧ type_of% @aLenC_str ∧ type_of% @aLenC_sl ∧ type_of% @aLenC_fsl ∧ type_of% @aLenC_nilsl ∧ type_of% @aLenC_esl ∧ type_of% @ldB_some1 ∧ type_of% @ldB_someN ∧ type_of% @stB_some ∧ type_of% @aBin_add ∧ type_of% @aBin_sub ∧ type_of% @aBin_mul ∧ type_of% @aBin_quo ∧ type_of% @aBin_rem ∧ type_of% @aBin_eql ∧ type_of% @aBin_neq ∧ type_of% @aBin_lss ∧ type_of% @aBin_leq ∧ type_of% @aBin_gtr ∧ type_of% @aBin_geq ∧ type_of% @aUn_not ∧ type_of% @aUn_neg ∧ type_of% @aConv_int ∧ type_of% @aPick_true ∧ type_of% @aPick_false ∧ type_of% @aPick_bool ∧ type_of% @aExtract_tup ∧ type_of% @get_zero ∧ type_of% @get_succ ∧ type_of% @wr_i64 ∧ type_of% @wr_u8 ∧ type_of% @wr_u16 ∧ type_of% @wr_u32 ∧ type_of% @wr_u64 ∧ type_of% @wr_i32 ∧ type_of% @aIAddr_fsl ∧ type_of% @aIAddr_sl ∧ type_of% @aIAddr_ptr ∧ type_of% @aIAddr_fptr ∧ type_of% @aFAddr_ptr ∧ type_of% @aFAddr_fptr ∧ type_of% @aField_none ∧ type_of% @aField_some ∧ type_of% @List.elem_cons.{0} ∧ type_of% @List.elem_nil.{0} ∧ type_of% @Bool.false_eq_true ∧ type_of% @Bool.true_eq_false ∧ type_of% @List.getElem?_cons_zero.{0} ∧ type_of% @List.getElem?_cons_succ.{0} ∧ type_of% @decide_eq_true_eq ∧ type_of% @decide_eq_false_iff_not ∧ type_of% @decide_true ∧ type_of% @decide_false ∧ type_of% @Bool.not_true ∧ type_of% @Bool.not_false ∧ type_of% @Bool.not_eq_true' ∧ type_of% @Bool.not_eq_eq_eq_not ∧ type_of% @List.nil_append.{0} ∧ type_of% @List.append_nil.{0} ∧ type_of% @List.cons_append.{0} ∧ type_of% @and_true ∧ type_of% @true_and ∧ type_of% @Int.natCast_nonneg ∧ type_of% @Int.toNat_natCast ∧ type_of% @Nat.mul_one ∧ type_of% @Nat.zero_add ∧ type_of% @Int.toNat_zero ∧ type_of% @unQ_normal ∧ type_of% @unQ_exit ∧ type_of% @unQ_ret ∧ type_of% @aIndex_arr :=
  ⟨@wS_skip, @wS_ret, @wS_exit, @wS_region, @wS_seq, @wS_cond, @wS_block, @wC_true, @wC_false, @wC_bool, @wX_nil, @wX_sq, @wX_sq_ret, @wX_sq_exit, @wX_blk, @wX_blk_ret, @wX_blk_exit, @loopQ_normal, @loopQ_exit, @loopQ_ret, @ev_t, @ev_c, @ev_f, @lk_nil, @lk_cons, @up_cons, @up_nil, @rm_nil, @rm_no, @rm_cons, @putD_some, @putD_none, @argT_nil, @argT_cons, @evs_nil, @evs_cons, @evo_none, @evo_some, @evParts_nil, @evParts_cons, @wR_nil, @wR_guard, @wG_bool, @wG_skip, @wR_mov, @wR_mkfn, @wR_pick, @wR_build, @wR_nilchk, @wR_bin, @wR_eq, @wR_un, @wR_conv, @wR_convS, @wR_slice, @wR_faddr, @wR_field, @wR_iaddr, @wR_index, @wR_extract, @wR_maxmin, @wR_alloc, @wR_box, @wR_bslice, @wR_load, @wR_store, @wR_mkmap, @wR_mkslice, @wR_lookup, @wR_mupd, @wR_len, @wR_append, @wR_copy, @wR_call, @wO_some, @wO_pos, @wO_neg, @wM_ret, @wB_some, @aLoad_ptr, @aLoad_fptr1, @aLoad_fptrN, @aStore_ptr, @aLenC_str, @aLenC_sl, @aLenC_fsl, @aLenC_nilsl, @aLenC_esl, @ldB_some1, @ldB_someN, @stB_some, @aBin_add, @aBin_sub, @aBin_mul, @aBin_quo, @aBin_rem, @aBin_eql, @aBin_neq, @aBin_lss, @aBin_leq, @aBin_gtr, @aBin_geq, @aUn_not, @aUn_neg, @aConv_int, @aPick_true, @aPick_false, @aPick_bool, @aExtract_tup, @get_zero, @get_succ, @wr_i64, @wr_u8, @wr_u16, @wr_u32, @wr_u64, @wr_i32, @aIAddr_fsl, @aIAddr_sl, @aIAddr_ptr, @aIAddr_fptr, @aFAddr_ptr, @aFAddr_fptr, @aField_none, @aField_some, @List.elem_cons.{0}, @List.elem_nil.{0}, @Bool.false_eq_true, @Bool.true_eq_false, @List.getElem?_cons_zero.{0}, @List.getElem?_cons_succ.{0}, @decide_eq_true_eq, @decide_eq_false_iff_not, @decide_true, @decide_false, @Bool.not_true, @Bool.not_false, @Bool.not_eq_true', @Bool.not_eq_eq_eq_not, @List.nil_append.{0}, @List.append_nil.{0}, @List.cons_append.{0}, @and_true, @true_and, @Int.natCast_nonneg, @Int.toNat_natCast, @Nat.mul_one, @Nat.zero_add, @Int.toNat_zero, @unQ_normal, @unQ_exit, @unQ_ret, @aIndex_arr⟩
theorem wordsN : type_of% @aBox_new ∧ type_of% @aMakeSlice_new ∧ type_of% @aBuildSlice_new ∧ type_of% @aBuild_eq ∧ type_of% @Option.map_some.{0, 0} ∧ type_of% @wL_some ∧ type_of% @wN_go ∧ type_of% @wB_go ∧ type_of% @get_same ∧ type_of% @get_ne ∧ type_of% @fillA_nil ∧ type_of% @fillA_cons ∧ type_of% @cells_int ∧ type_of% @cells_agg ∧ type_of% @cells_sl ∧ type_of% @cells_fsl ∧ type_of% @cells_nilsl ∧ type_of% @box_int ∧ type_of% @box_agg ∧ type_of% @box_sl ∧ type_of% @box_fsl ∧ type_of% @box_nilsl ∧ type_of% @one_int ∧ type_of% @one_sl ∧ type_of% @one_fsl ∧ type_of% @one_nilsl ∧ type_of% @putR_one ∧ type_of% @List.set_cons_zero.{0} ∧ type_of% @List.set_cons_succ.{0} ∧ type_of% @List.length_cons.{0} ∧ type_of% @List.length_nil.{0} ∧ type_of% @List.all_cons.{0} ∧ type_of% @List.all_nil.{0} ∧ type_of% @Bool.and_true ∧ type_of% @Bool.true_and ∧ type_of% @List.drop_zero.{0} ∧ type_of% @List.drop_succ_cons.{0} ∧ type_of% @List.take_succ_cons.{0} ∧ type_of% @List.take_zero.{0} ∧ type_of% @List.head?_cons.{0} ∧ type_of% @putR_many ∧ type_of% @Nat.le_refl ∧ type_of% @Int.cast_ofNat_Int ∧ type_of% @Int.natCast_zero ∧ type_of% @Int.natCast_one :=
  ⟨@aBox_new, @aMakeSlice_new, @aBuildSlice_new, @aBuild_eq, @Option.map_some.{0, 0}, @wL_some, @wN_go, @wB_go, @get_same, @get_ne, @fillA_nil, @fillA_cons, @cells_int, @cells_agg, @cells_sl, @cells_fsl, @cells_nilsl, @box_int, @box_agg, @box_sl, @box_fsl, @box_nilsl, @one_int, @one_sl, @one_fsl, @one_nilsl, @putR_one, @List.set_cons_zero.{0}, @List.set_cons_succ.{0}, @List.length_cons.{0}, @List.length_nil.{0}, @List.all_cons.{0}, @List.all_nil.{0}, @Bool.and_true, @Bool.true_and, @List.drop_zero.{0}, @List.drop_succ_cons.{0}, @List.take_succ_cons.{0}, @List.take_zero.{0}, @List.head?_cons.{0}, @putR_many, @Nat.le_refl, @Int.cast_ofNat_Int, @Int.natCast_zero, @Int.natCast_one⟩
theorem wordsR : type_of% @hp_nil ∧ type_of% @hp_cons ∧ type_of% @get_e ∧ type_of% @loopR_normal ∧ type_of% @loopR_exit ∧ type_of% @loopR_ret ∧ type_of% @loopX_normal ∧ type_of% @loopX_exit ∧ type_of% @loopX_ret ∧ type_of% @aAppend_slW ∧ type_of% @wA_some ∧ type_of% @srcB_all ∧ type_of% @Int.ofNat_lt ∧ type_of% @Int.ofNat_le ∧ type_of% @Int.ofNat_inj ∧ type_of% @Int.natCast_pos ∧ type_of% @Int.natCast_add ∧ type_of% @List.length_map.{0, 0} ∧ type_of% @List.length_append.{0} ∧ type_of% @List.take_length.{0} ∧ type_of% @Nat.zero_mul ∧ type_of% @Nat.one_mul ∧ type_of% @Nat.add_zero ∧ type_of% @Int.zero_add ∧ type_of% @Nat.not_lt_zero ∧ type_of% @Int.le_refl ∧ type_of% @not_true ∧ type_of% @not_false_iff ∧ type_of% @Nat.lt_irrefl ∧ type_of% @Int.lt_irrefl :=
  ⟨@hp_nil, @hp_cons, @get_e, @loopR_normal, @loopR_exit, @loopR_ret, @loopX_normal, @loopX_exit, @loopX_ret, @aAppend_slW, @wA_some, @srcB_all, @Int.ofNat_lt, @Int.ofNat_le, @Int.ofNat_inj, @Int.natCast_pos, @Int.natCast_add, @List.length_map.{0, 0}, @List.length_append.{0}, @List.take_length.{0}, @Nat.zero_mul, @Nat.one_mul, @Nat.add_zero, @Int.zero_add, @Nat.not_lt_zero, @Int.le_refl, @not_true, @not_false_iff, @Nat.lt_irrefl, @Int.lt_irrefl⟩
end Go.AM
set_option linter.unusedSimpArgs false
set_option linter.unusedVariables false
namespace Go.AM
variable {P : Program}
section
variable {N : NM} {n : Nat} {d : Option Nat} {dead : List Nat} {r : List SOper} {T : Tmps} {h : Heap} {Q : QC} {fs : List Fr}
theorem aAppend_slF {sz bytes len b2 g2 off2 len2 : Nat} {cs : List AV} : wM P N (aAppend .dyn n sz bytes (.sl b2 g2 off2 len2 sz) (.fsl cs len sz)) d r dead fs n T h Q =
    wA P N (srcB (h.get b2) g2 off2 len2 sz) (some cs) g2 len2 len sz bytes b2 d r dead fs n T h Q := by
  simp only [aAppend, aSrc, if_true, slLen, wM_cells, wM_ite, wM_put]
  apply propext; constructor
  · rintro ⟨h2, cs2, hb2, h3, h4⟩
    rw [hb2, srcB_some, if_pos ⟨rfl, h3⟩]
    exact ⟨_, _, rfl, rfl, ⟨h2.1, h2.2.1⟩, h2.2.2, h4⟩
  · rintro ⟨ys, zs, hy, hz, h2, h3, h4⟩
    cases hy
    unfold srcB at hz
    split at hz
    · rename_i g3 cs2 hb2
      split at hz
      · rename_i e2
        obtain ⟨rfl, e2⟩ := e2
        cases hz
        exact ⟨⟨h2.1, h2.2, h3⟩, cs2, hb2, e2, h4⟩
      · cases hz
    · cases hz
theorem aAppend_slN {sz bytes b2 g2 off2 len2 : Nat} : wM P N (aAppend .dyn n sz bytes (.sl b2 g2 off2 len2 sz) .nilsl) d r dead fs n T h Q =
    wA P N (srcB (h.get b2) g2 off2 len2 sz) (some []) g2 len2 0 sz bytes b2 d r dead fs n T h Q := by
  simp only [aAppend, aSrc, if_true, slLen, wM_cells, wM_ite, wM_put]
  apply propext; constructor
  · rintro ⟨h2, cs2, hb2, h3, h4⟩
    rw [hb2, srcB_some, if_pos ⟨rfl, h3⟩]
    exact ⟨_, _, rfl, rfl, ⟨h2.1, h2.2.1⟩, h2.2.2, h4⟩
  · rintro ⟨ys, zs, hy, hz, h2, h3, h4⟩
    cases hy
    unfold srcB at hz
    split at hz
    · rename_i g3 cs2 hb2
      split at hz
      · rename_i e2
        obtain ⟨rfl, e2⟩ := e2
        cases hz
        exact ⟨⟨h2.1, h2.2, h3⟩, cs2, hb2, e2, h4⟩
      · cases hz
    · cases hz
end
theorem aSlice_fslH {cs : List AV} {len sz : Nat} {k : IntKind} {b : Int} : aSliceC (some sz) (.fsl cs len sz) none (some (.int k b)) none =
    if 0 ≤ b ∧ b ≤ len then some (.fsl (cs.take (b.toNat * sz)) b.toNat sz) else none := by
  simp only [aSliceC, if_true, aSlice, bnd, Int.le_refl, true_and, Int.toNat_zero, Nat.zero_mul, List.drop_zero, Nat.sub_zero]
theorem aSlice_fslB {cs : List AV} {len sz : Nat} {k k2 : IntKind} {a b : Int} : aSliceC (some sz) (.fsl cs len sz) (some (.int k a)) (some (.int k2 b)) none =
    if 0 ≤ a ∧ a ≤ b ∧ b ≤ len then some (.fsl ((cs.drop (a.toNat * sz)).take ((b.toNat - a.toNat) * sz)) (b.toNat - a.toNat) sz) else none := by
  simp only [aSliceC, if_true, aSlice, bnd]
end Go.AM
set_option linter.unusedSimpArgs false
set_option linter.unusedVariables false
namespace Go.AM
variable {P : Program}
def HM.tch {α : Type} (B : Nat → Prop) : HM α → Prop
  | .ret _ => True
  | .fail => True
  | .look b k => B b ∧ ∀ x, (k x).tch B
  | .put b _ k => B b ∧ k.tch B
theorem HM.tch_fp {α : Type} {B : Nat → Prop} (m : HM α) : m.tch B → ∀ h b, b ∈ (m.fp h).1 ∨ b ∈ (m.fp h).2 → B b := by
  induction m with
  | ret a => intro _ h b hb; simp [HM.fp] at hb
  | fail => intro _ h b hb; simp [HM.fp] at hb
  | look b k ih =>
    rintro ⟨h1, h2⟩ h b' hb
    simp only [HM.fp, List.mem_cons] at hb
    rcases hb with (rfl | hb) | hb
    · exact h1
    · exact ih _ (h2 _) h b' (.inl hb)
    · exact ih _ (h2 _) h b' (.inr hb)
  | put b x k ih =>
    rintro ⟨h1, h2⟩ h b' hb
    simp only [HM.fp, List.mem_cons] at hb
    rcases hb with hb | rfl | hb
    · exact ih h2 _ b' (.inl hb)
    · exact h1
    · exact ih h2 _ b' (.inr hb)
theorem HM.tch_bind {α β : Type} {B : Nat → Prop} {m : HM α} {f : α → HM β} (h1 : m.tch B) (h2 : ∀ a, (f a).tch B) : (m.bind f).tch B := by
  induction m with
  | ret a => exact h2 a
  | fail => trivial
  | look b k ih => exact ⟨h1.1, fun x => ih x (h1.2 x)⟩
  | put b x k ih => exact ⟨h1.1, ih h1.2⟩
theorem tch_opt {α : Type} {B : Nat → Prop} (o : Option α) : (HM.opt o).tch B := by cases o <;> trivial
theorem tch_cells {α : Type} {B : Nat → Prop} {b g : Nat} {k : List AV → HM α} (hb : B b) (hk : ∀ cs, (k cs).tch B) : (HM.cells b g k).tch B := by
  refine ⟨hb, fun x => ?_⟩
  match x with
  | some (.cells g' cs) =>
    simp only
    cases Nat.beq g' g <;> first | exact trivial | exact hk cs
  | some (.map _ _) => trivial
  | some (.dead _) => trivial
  | none => trivial
theorem tch_new {α : Type} {B : Nat → Prop} {i : Nat} {x : Nat → Blk} {k : Nat → Nat → HM α} (hb : B i) (hk : ∀ b g, (k b g).tch B) : (HM.new .dyn i x k).tch B := by
  refine ⟨hb, fun y => ?_⟩
  match y with
  | none => exact ⟨hb, hk _ _⟩
  | some z => trivial
def blks : AV → Option (List Nat)
  | .ptr b _ _ => some [b]
  | .sl b _ _ _ _ => some [b]
  | .map b _ => some [b]
  | .any => none
  | .agg _ => none
  | .tup [] => some []
  | .tup _ => none
  | .fn _ _ _ => none
  | .ifc _ _ => none
  | _ => some []
def Pts (v : AV) (bs : List Nat) : Prop := ∃ cs, blks v = some cs ∧ ∀ b ∈ cs, b ∈ bs
theorem Pts.mono {v : AV} {bs cs : List Nat} (h : Pts v bs) (hs : ∀ b ∈ bs, b ∈ cs) : Pts v cs := by
  obtain ⟨ds, h1, h2⟩ := h
  exact ⟨ds, h1, fun b hb => hs b (h2 b hb)⟩
abbrev Abs := List (Nat × Option (List Nat))
def absT (T : Tmps) : Abs → Nat → Option (List Nat)
  | [], i => blks (lk T i)
  | (j, a) :: r, i => bif Nat.beq j i then a else absT T r i
def absO (T : Tmps) (A : Abs) : Opd → Option (List Nat)
  | .t i => absT T A i
  | .c v => blks v
  | _ => none
def SOp.absV (i : Nat) (ax : Opd → Option (List Nat)) : SOp → Option (List Nat)
  | .mov x => ax x
  | .slice _ x _ _ _ => ax x
  | .iaddr _ _ x _ => ax x
  | .faddr _ x => ax x
  | .alloc .dyn _ => some [i]
  | .box .dyn _ => some [i]
  | .bslice false .dyn _ _ _ _ => some [i]
  | .mkslice .dyn _ _ _ _ _ => some [i]
  | .mkmap .dyn => some [i]
  | .append .dyn _ _ x _ => (ax x).map fun bs => i :: bs
  | _ => none
def SOp.touch (i : Nat) (ax : Opd → Option (List Nat)) : SOp → Option (List Nat)
  | .load _ x => ax x
  | .store _ x _ => ax x
  | .len _ x => ax x
  | .alloc .dyn _ => some [i]
  | .box .dyn _ => some [i]
  | .bslice _ .dyn _ _ _ _ => some [i]
  | .mkslice .dyn _ _ _ _ _ => some [i]
  | .mkmap .dyn => some [i]
  | .append .dyn _ _ x y => match ax x, ax y with
    | some a, some b => some (i :: (a ++ b))
    | _, _ => none
  | .copy _ x y => match ax x, ax y with
    | some a, some b => some (a ++ b)
    | _, _ => none
  | .lookup _ _ _ _ x _ => ax x
  | .mupd _ _ x _ _ => ax x
  | s => bif Nat.beq s.cls 0 then some [] else none
def touches (n : Nat) (T : Tmps) : List SOper → Abs → List (Option (List Nat))
  | [], _ => []
  | s :: r, A => s.op.touch n (absO T A) :: touches (n + 1) T r (match s.dst with | some d => (d, s.op.absV n (absO T A)) :: A | none => A)
def pairsOK (ts : List (Option (List Nat))) (ps : List (Nat × Nat)) : Bool :=
  ps.all fun p => match ts.getD p.1 none, ts.getD p.2 none with
    | some a, some b => a.all fun x => !b.elem x
    | _, _ => false
section
variable {i : Nat} {T : Tmps} {ax : Opd → Option (List Nat)} {B : Nat → Prop}
theorem tch_load {n : Option Nat} {v : AV} {bs : List Nat} (h : Pts v bs) : (aLoad n v).tch (· ∈ bs) := by
  obtain ⟨cs, h1, h2⟩ := h
  unfold aLoad
  split
  · simp only [blks, Option.some.injEq] at h1
    subst h1
    refine tch_cells (h2 _ (by simp)) fun cs => ?_
    split
    · exact tch_opt _
    · split <;> trivial
  · split
    · exact tch_opt _
    · split <;> trivial
  · trivial
theorem tch_store {n : Nat} {v u : AV} {bs : List Nat} (h : Pts v bs) : (aStore n v u).tch (· ∈ bs) := by
  obtain ⟨cs, h1, h2⟩ := h
  unfold aStore
  split
  · simp only [blks, Option.some.injEq] at h1
    subst h1
    have hb := h2 _ (List.mem_singleton.2 rfl)
    refine tch_cells hb fun cs => ?_
    split
    · exact ⟨hb, trivial⟩
    · trivial
  · trivial
theorem tch_len {k : Nat} {v : AV} {bs : List Nat} (h : Pts v bs) : (aLenC k v).tch (· ∈ bs) := by
  obtain ⟨cs, h1, h2⟩ := h
  unfold aLenC
  split
  · unfold aLen
    split <;> try trivial
    simp only [blks, Option.some.injEq] at h1
    subst h1
    refine ⟨h2 _ (by simp), fun y => ?_⟩
    match y with
    | some (.map g' es) =>
      simp only
      generalize Nat.beq g' _ = t
      cases t <;> trivial
    | some (.cells _ _) => trivial
    | some (.dead _) => trivial
    | none => trivial
  · trivial
theorem tch_src {sz : Nat} {v : AV} {bs : List Nat} {k : List AV → Nat → HM AV} (h : Pts v bs) (hs : ∀ b ∈ bs, B b) (hk : ∀ ys n, (k ys n).tch B) : (aSrc sz v k).tch B := by
  obtain ⟨cs, h1, h2⟩ := h
  unfold aSrc
  split
  · simp only [blks, Option.some.injEq] at h1
    subst h1
    split
    · refine tch_cells (hs _ (h2 _ (by simp))) fun cs => ?_
      split
      · exact hk _ _
      · trivial
    · trivial
  · split
    · exact hk _ _
    · trivial
  · exact hk _ _
  · exact hk _ _
  · exact hk _ _
  · split
    · exact hk _ _
    · trivial
  · trivial
theorem tch_append {sz bytes : Nat} {x y : AV} {a b : List Nat} (hx : Pts x a) (hy : Pts y b) : (aAppend .dyn i sz bytes x y).tch (· ∈ i :: (a ++ b)) := by
  unfold aAppend
  refine tch_src hy (fun c hc => by simp [hc]) fun ys n => ?_
  split
  · obtain ⟨cs, h1, h2⟩ := hx
    split
    · split
      · trivial
      · exact tch_new (by simp) fun _ _ => trivial
    · split
      · trivial
      · exact tch_new (by simp) fun _ _ => trivial
    · split <;> trivial
    · simp only [blks, Option.some.injEq] at h1
      subst h1
      have hb := h2 _ (List.mem_singleton.2 rfl)
      split
      · refine tch_cells (by simp [hb]) fun cs => ?_
        split
        · exact ⟨by simp [hb], trivial⟩
        · trivial
      · trivial
    · trivial
  · trivial
theorem tch_copy {sz : Nat} {x y : AV} {a b : List Nat} (hx : Pts x a) (hy : Pts y b) : (aCopy sz x y).tch (· ∈ a ++ b) := by
  obtain ⟨cs, h1, h2⟩ := hx
  unfold aCopy
  split
  · simp only [blks, Option.some.injEq] at h1
    subst h1
    have hb := h2 _ (List.mem_singleton.2 rfl)
    split
    · refine tch_src hy (fun c hc => by simp [hc]) fun ys n => ?_
      refine tch_cells (by simp [hb]) fun cs => ?_
      split
      · exact ⟨by simp [hb], trivial⟩
      · trivial
    · trivial
  · exact tch_src hy (fun c hc => by simp [hc]) fun ys n => trivial
  · exact tch_src hy (fun c hc => by simp [hc]) fun ys n => trivial
  · trivial
theorem tch_entries {α : Type} {b g : Nat} {k : List (AV × AV) → HM α} (hb : B b) (hk : ∀ es, (k es).tch B) : (HM.entries b g k).tch B := by
  refine ⟨hb, fun x => ?_⟩
  match x with
  | some (.map g' es) =>
    simp only
    cases Nat.beq g' g <;> first | exact trivial | exact hk es
  | some (.cells _ _) => trivial
  | some (.dead _) => trivial
  | none => trivial
theorem tch_lookup {row ok : Bool} {ks : List LK} {z x k : AV} {bs : List Nat} (h : Pts x bs) : (aLookup row ks z ok x k).tch (· ∈ bs) := by
  obtain ⟨cs, h1, h2⟩ := h
  unfold aLookup
  split
  · split
    · trivial
    · simp only [blks, Option.some.injEq] at h1
      subst h1
      refine tch_entries (h2 _ (by simp)) fun es => ?_
      split <;> trivial
    · split <;> trivial
    · trivial
  · trivial
theorem tch_mupd {row : Bool} {ks : List LK} {x k v : AV} {bs : List Nat} (h : Pts x bs) : (aMapUpd row ks x k v).tch (· ∈ bs) := by
  obtain ⟨cs, h1, h2⟩ := h
  unfold aMapUpd
  split
  · split
    · simp only [blks, Option.some.injEq] at h1
      subst h1
      have hb := h2 _ (List.mem_singleton.2 rfl)
      refine tch_entries hb fun es => ?_
      split
      · exact ⟨hb, trivial⟩
      · exact ⟨hb, trivial⟩
      · trivial
    · trivial
  · trivial
theorem tch_hval {m : HM AV} (h : m.tch B) : (hval m).tch B := HM.tch_bind h fun _ => trivial
theorem touch_op {s : SOp} {ts : List Nat} (hax : ∀ x bs, ax x = some bs → Pts (ev T x) bs) (h : s.touch i ax = some ts) : s.cls ≠ 0 → (aop i T s).tch (· ∈ ts) ∧ ∀ m x asx, s ≠ .call m x asx := by
  intro h0
  have new1 : ∀ {x : Nat → Blk} {r : Nat → Nat → AV}, (HM.new .dyn i x fun b g => .ret (r b g)).tch (· ∈ [i]) := fun {x r} => tch_new (by simp) fun _ _ => trivial
  cases s <;> try (exact absurd rfl h0)
  · rename_i s z
    cases s <;> simp only [SOp.touch, SOp.cls, show Nat.beq 2 0 = false from rfl, cond_false, reduceCtorEq, Option.some.injEq] at h
    subst h
    refine ⟨tch_hval ?_, fun _ _ _ => by simp⟩
    unfold aBox; split
    · exact new1
    · trivial
  · rename_i s z
    cases s <;> simp only [SOp.touch, SOp.cls, show Nat.beq 2 0 = false from rfl, cond_false, reduceCtorEq, Option.some.injEq] at h
    subst h
    refine ⟨tch_hval ?_, fun _ _ _ => by simp⟩
    unfold aBox; split
    · exact new1
    · trivial
  · rename_i fz s sz len z ps
    cases s <;> simp only [SOp.touch, SOp.cls, show Nat.beq 2 0 = false from rfl, cond_false, reduceCtorEq, Option.some.injEq] at h
    subst h
    refine ⟨tch_hval ?_, fun _ _ _ => by simp⟩
    unfold aBuildSlice
    split
    · split
      · split
        · split <;> trivial
        · exact new1
      · trivial
    · trivial
  · exact ⟨tch_hval (tch_load (hax _ _ h)), fun _ _ _ => by simp⟩
  · exact ⟨tch_hval (tch_store (hax _ _ h)), fun _ _ _ => by simp⟩
  · simp only [SOp.touch, SOp.cls, show Nat.beq 1 0 = false from rfl, cond_false, reduceCtorEq] at h
  · rename_i s
    cases s <;> simp only [SOp.touch, SOp.cls, show Nat.beq 2 0 = false from rfl, cond_false, reduceCtorEq, Option.some.injEq] at h
    subst h
    exact ⟨tch_hval new1, fun _ _ _ => by simp⟩
  · rename_i s sz b z l c
    cases s <;> simp only [SOp.touch, SOp.cls, show Nat.beq 2 0 = false from rfl, cond_false, reduceCtorEq, Option.some.injEq] at h
    subst h
    refine ⟨tch_hval ?_, fun _ _ _ => by simp⟩
    unfold aMakeSlice
    split
    · split
      · exact new1
      · trivial
    · trivial
  · exact ⟨tch_hval (tch_lookup (hax _ _ h)), fun _ _ _ => by simp⟩
  · exact ⟨tch_hval (tch_mupd (hax _ _ h)), fun _ _ _ => by simp⟩
  · exact ⟨tch_hval (tch_len (hax _ _ h)), fun _ _ _ => by simp⟩
  · rename_i s sz b x y
    cases s <;> simp only [SOp.touch, SOp.cls, show Nat.beq 2 0 = false from rfl, cond_false, reduceCtorEq] at h
    split at h
    · rename_i a b ha hb
      cases h
      exact ⟨tch_hval (tch_append (hax _ _ ha) (hax _ _ hb)), fun _ _ _ => by simp⟩
    · cases h
  · rename_i sz x y
    simp only [SOp.touch] at h
    split at h
    · rename_i a b ha hb
      cases h
      exact ⟨tch_hval (tch_copy (hax _ _ ha) (hax _ _ hb)), fun _ _ _ => by simp⟩
    · cases h
  · rename_i m x asx
    exfalso
    simp only [SOp.touch] at h
    have : Nat.beq (SOp.call m x asx).cls 0 = false := by cases m <;> rfl
    rw [this] at h; cases h
theorem touch_sound {s : SOper} {h h1 : Heap} {v : AV} {f : FP} {ts : List Nat} (hax : ∀ x bs, ax x = some bs → Pts (ev T x) bs) (ht : s.op.touch i ax = some ts) (hs : StepV P i s T h v h1 f) :
    f.all = false ∧ ∀ b, b ∈ f.R ∨ b ∈ f.W → b ∈ ts := by
  by_cases h0 : s.op.cls = 0
  · obtain ⟨k1, k2, k3⟩ := hs.cls (by omega)
    exact ⟨k1, fun b hb => by rw [k2, k3 h0] at hb; simp at hb⟩
  obtain ⟨t1, t2⟩ := touch_op hax ht h0
  have key : ∀ {s' : SOp}, s' = s.op → StepX P i s' T h v h1 f → f.all = false ∧ ∀ b, b ∈ f.R ∨ b ∈ f.W → b ∈ ts := by
    rintro s' rfl ⟨out, h2, hm, ho⟩
    have fin : f = fpOf ((aop i T s.op).fp h) → f.all = false ∧ ∀ b, b ∈ f.R ∨ b ∈ f.W → b ∈ ts := by
      rintro rfl; exact ⟨rfl, fun b hb => HM.tch_fp _ t1 h b hb⟩
    match out, ho with
    | .val u, ho => exact fin ho.2.2
    | .call .pure f' args, ho => exact fin ho.2.2
    | .call .borrow f' args, ho => exact fin ho.2.2.2
    | .call .heap f' args, ho =>
      exfalso
      cases hso : s.op with
      | call m x asx => exact t2 m x asx hso
      | _ =>
        rw [hso] at hm
        first
          | (obtain ⟨u, hu, he⟩ := run_lift hm; cases he)
          | (obtain ⟨u, h3, hu, he⟩ := run_hval hm; cases he)
          | (simp [aop, HM.run] at hm)
  unfold StepV at hs
  split at hs
  · exact key rfl hs
  · obtain ⟨t, _, hs⟩ := hs
    split at hs
    · exact key rfl hs
    · obtain ⟨_, _, rfl⟩ := hs; exact ⟨rfl, fun b hb => by simp at hb⟩
theorem Pts.slice {n : Option Nat} {x v : AV} {l h m : Option AV} {bs : List Nat} (hx : Pts x bs) (hv : aSliceC n x l h m = some v) : Pts v bs := by
  obtain ⟨cs, h1, h2⟩ := hx
  have key : aSlice x l h m = some v → Pts v bs := by
    intro hv
    unfold aSlice at hv
    have nil : ∀ {v : AV}, blks v = some [] → Pts v bs := fun h => ⟨[], h, fun b hb => by cases hb⟩
    split at hv
    · cases hv
    · split at hv
      · split at hv
        · split at hv
          · split at hv <;> first | (cases hv; exact nil rfl) | cases hv
          · cases hv
        · cases hv
      · cases hv
      · split at hv
        · split at hv
          · cases hv
          · split at hv
            · cases hv; exact ⟨cs, h1, h2⟩
            · cases hv
        · split at hv
          · cases hv
          · split at hv
            · cases hv; exact nil rfl
            · cases hv
        · split at hv
          · cases hv
          · split at hv
            · cases hv; exact nil rfl
            · cases hv
        · split at hv
          · cases hv
          · split at hv
            · cases hv; exact nil rfl
            · cases hv
        · split at hv
          · cases hv
          · split at hv
            · cases hv; exact nil rfl
            · cases hv
        · cases hv
  unfold aSliceC at hv
  split at hv <;> first | exact key hv | cases hv | (split at hv; exact key hv; cases hv)
theorem Pts.iaddr {a : Option Nat} {sz : Nat} {x j v : AV} {bs : List Nat} (hx : Pts x bs) (hv : aIAddr a sz x j = some v) : Pts v bs := by
  obtain ⟨cs, h1, h2⟩ := hx
  have nil : ∀ {v : AV}, blks v = some [] → Pts v bs := fun h => ⟨[], h, fun b hb => by cases hb⟩
  unfold aIAddr at hv
  split at hv
  · split at hv <;> first | (split at hv <;> first | (cases hv; first | exact ⟨cs, h1, h2⟩ | exact nil rfl) | cases hv) | cases hv
  · cases hv
theorem Pts.faddr {off : Nat} {x v : AV} {bs : List Nat} (hx : Pts x bs) (hv : aFAddr off x = some v) : Pts v bs := by
  obtain ⟨cs, h1, h2⟩ := hx
  have nil : ∀ {v : AV}, blks v = some [] → Pts v bs := fun h => ⟨[], h, fun b hb => by cases hb⟩
  unfold aFAddr at hv
  split at hv
  · cases hv; exact ⟨cs, h1, h2⟩
  · cases hv; exact nil rfl
  · cases hv
def HM.gives {α : Type} (R : α → Prop) : HM α → Prop
  | .ret a => R a
  | .fail => True
  | .look _ k => ∀ x, (k x).gives R
  | .put _ _ k => k.gives R
theorem HM.gives_run {α : Type} {R : α → Prop} (m : HM α) : m.gives R → ∀ h a h1, m.run h = some (a, h1) → R a := by
  induction m with
  | ret a => intro hr h b h1 hm; simp only [HM.run, Option.some.injEq, Prod.mk.injEq] at hm; rw [← hm.1]; exact hr
  | fail => intro _ h b h1 hm; simp [HM.run] at hm
  | look b k ih => intro hr h a h1 hm; exact ih _ (hr _) h a h1 hm
  | put b x k ih => intro hr h a h1 hm; exact ih hr _ a h1 (run_put hm).2
theorem gives_cells {α : Type} {R : α → Prop} {b g : Nat} {k : List AV → HM α} (hk : ∀ cs, (k cs).gives R) : (HM.cells b g k).gives R := by
  intro x
  match x with
  | some (.cells g' cs) =>
    simp only
    cases Nat.beq g' g <;> first | exact trivial | exact hk cs
  | some (.map _ _) => trivial
  | some (.dead _) => trivial
  | none => trivial
theorem gives_new {α : Type} {R : α → Prop} {i : Nat} {x : Nat → Blk} {k : Nat → Nat → HM α} (hk : (k i 0).gives R) : (HM.new .dyn i x k).gives R := by
  intro y
  match y with
  | none => exact hk
  | some z => trivial
theorem gives_src {R : AV → Prop} {sz : Nat} {v : AV} {k : List AV → Nat → HM AV} (hk : ∀ ys n, (k ys n).gives R) : (aSrc sz v k).gives R := by
  unfold aSrc
  split
  · split
    · refine gives_cells fun cs => ?_
      split
      · exact hk _ _
      · trivial
    · trivial
  · split
    · exact hk _ _
    · trivial
  · exact hk _ _
  · exact hk _ _
  · exact hk _ _
  · split
    · exact hk _ _
    · trivial
  · trivial
theorem gives_append {sz bytes : Nat} {x y : AV} {a : List Nat} (hx : Pts x a) : (aAppend .dyn i sz bytes x y).gives fun v => Pts v (i :: a) := by
  have nil : ∀ {v : AV}, blks v = some [] → Pts v (i :: a) := fun h => ⟨[], h, fun b hb => by cases hb⟩
  unfold aAppend
  refine gives_src fun ys n => ?_
  split
  · obtain ⟨cs, h1, h2⟩ := hx
    split
    · split
      · exact nil rfl
      · exact gives_new ⟨_, rfl, fun b hb => by simp at hb; simp [hb]⟩
    · split
      · exact nil rfl
      · exact gives_new ⟨_, rfl, fun b hb => by simp at hb; simp [hb]⟩
    · split
      · exact nil rfl
      · trivial
    · simp only [blks, Option.some.injEq] at h1
      subst h1
      split
      · refine gives_cells fun cs => ?_
        split
        · exact ⟨_, rfl, fun b hb => List.mem_cons_of_mem _ (h2 b hb)⟩
        · trivial
      · trivial
    · trivial
  · trivial
theorem absV_sound {s : SOper} {h h1 : Heap} {v : AV} {f : FP} {bs : List Nat} (hax : ∀ x bs, ax x = some bs → Pts (ev T x) bs) (ht : s.op.absV i ax = some bs) (hs : StepV P i s T h v h1 f) : Pts v bs := by
  have self : ∀ {v : AV}, blks v = some [i] → Pts v [i] := fun h => ⟨_, h, fun b hb => hb⟩
  have key : ∀ {s' : SOp}, s'.absV i ax = some bs → StepX P i s' T h v h1 f → Pts v bs := by
    rintro s' ht ⟨out, h2, hm, ho⟩
    have hv : ∀ {m : HM AV}, aop i T s' = hval m → (m.gives fun v => Pts v bs) → Pts v bs := by
      intro m e hg
      rw [e] at hm
      obtain ⟨u, h3, hu, he⟩ := run_hval hm
      cases he
      rw [ho.1]
      exact HM.gives_run _ hg _ _ _ hu
    have hl : ∀ {o : Option AV}, aop i T s' = lift o → (∀ u, o = some u → Pts u bs) → Pts v bs := by
      intro o e hg
      rw [e] at hm
      obtain ⟨u, hu, he⟩ := run_lift hm
      cases he
      rw [ho.1]
      exact hg _ hu
    cases s' <;> try (simp only [SOp.absV, reduceCtorEq] at ht; done)
    · simp only [aop, HM.run, Option.some.injEq, Prod.mk.injEq] at hm
      obtain ⟨rfl, rfl⟩ := hm
      rw [ho.1]; exact hax _ _ ht
    · rename_i s z
      cases s <;> simp only [SOp.absV, reduceCtorEq, Option.some.injEq] at ht
      subst ht
      refine hv rfl ?_
      unfold aBox; split
      · exact gives_new (self rfl)
      · trivial
    · rename_i s z
      cases s <;> simp only [SOp.absV, reduceCtorEq, Option.some.injEq] at ht
      subst ht
      refine hv rfl ?_
      unfold aBox; split
      · exact gives_new (self rfl)
      · trivial
    · rename_i fz s sz len z ps
      cases fz <;> cases s <;> simp only [SOp.absV, reduceCtorEq, Option.some.injEq] at ht
      subst ht
      refine hv rfl ?_
      unfold aBuildSlice
      split
      · split
        · rw [if_neg (by simp)]; exact gives_new (self rfl)
        · trivial
      · trivial
    · rename_i s
      cases s <;> simp only [SOp.absV, reduceCtorEq, Option.some.injEq] at ht
      subst ht
      exact hv rfl (gives_new (self rfl))
    · rename_i s sz b z l c
      cases s <;> simp only [SOp.absV, reduceCtorEq, Option.some.injEq] at ht
      subst ht
      refine hv rfl ?_
      unfold aMakeSlice
      split
      · split
        · exact gives_new (self rfl)
        · trivial
      · trivial
    · exact hl rfl fun u hu => (hax _ _ ht).slice hu
    · exact hl rfl fun u hu => (hax _ _ ht).faddr hu
    · exact hl rfl fun u hu => (hax _ _ ht).iaddr hu
    · rename_i s sz b x y
      cases s <;> simp only [SOp.absV, reduceCtorEq, Option.map_eq_some_iff] at ht
      obtain ⟨a, ha, rfl⟩ := ht
      exact hv rfl (gives_append (hax _ _ ha))
  unfold StepV at hs
  split at hs
  · exact key ht hs
  · obtain ⟨t, _, hs⟩ := hs
    split at hs
    · exact key ht hs
    · obtain ⟨rfl, _⟩ := hs; exact ⟨[], rfl, fun b hb => by cases hb⟩
end
def AbsOK (T0 : Tmps) (A : Abs) (T : Tmps) : Prop := ∀ j bs, absT T0 A j = some bs → Pts (lk T j) bs
theorem AbsOK.opd {T0 T : Tmps} {A : Abs} (h : AbsOK T0 A T) : ∀ x bs, absO T0 A x = some bs → Pts (ev T x) bs := by
  intro x bs hx
  cases x with
  | t i => exact h i bs hx
  | c v => exact ⟨bs, hx, fun b hb => hb⟩
  | f n => cases hx
  | g n => cases hx
theorem AbsOK.nil {T : Tmps} : AbsOK T [] T := fun j bs h => ⟨bs, h, fun b hb => hb⟩
theorem AbsOK.up {T0 T : Tmps} {A : Abs} {d : Nat} {v : AV} {a : Option (List Nat)} (h : AbsOK T0 A T) (hv : ∀ bs, a = some bs → Pts v bs) : AbsOK T0 ((d, a) :: A) (up T d v) := by
  intro j bs hj
  rw [lk_up]
  simp only [absT] at hj
  by_cases e : d = j
  · subst e
    have e1 : Nat.beq d d = true := by simp
    rw [e1] at hj
    rw [if_pos rfl]
    exact hv bs hj
  · have : Nat.beq d j = false := by rw [Bool.eq_false_iff]; simpa using e
    rw [this] at hj
    rw [if_neg (fun h => e h.symm)]
    exact h j bs hj
theorem wpRF_of {T0 : Tmps} : ∀ {r : List SOper} {n : Nat} {A : Abs} {T : Tmps} {h : Heap} {K : Tmps → Heap → Nat → Prop} (hA : AbsOK T0 A T) (K' : List FP → Tmps → Heap → Nat → Prop),
    (∀ fs T h n', fs.length = r.length → (∀ (j : Nat) ts, (touches n T0 r A).getD j none = some ts → (fs.getD j ⟨false, [], []⟩).all = false ∧ ∀ b, b ∈ (fs.getD j ⟨false, [], []⟩).R ∨ b ∈ (fs.getD j ⟨false, [], []⟩).W → b ∈ ts) → K T h n' → K' fs T h n') →
    wpR P n r T h K → wpRF P n r T h K'
  | [], n, A, T, h, K, hA, K', hK, hw => hK [] T h n rfl (fun j ts hj => by simp [touches] at hj) hw
  | s :: r, n, A, T, h, K, hA, K', hK, hw => by
    obtain ⟨v, h1, f, hs, hr⟩ := hw
    refine ⟨v, h1, f, hs, ?_⟩
    have hA2 : AbsOK T0 (match s.dst with | some d => (d, s.op.absV n (absO T0 A)) :: A | none => A) (putD T s.dst v) := by
      cases s.dst with
      | none => exact hA
      | some d => exact AbsOK.up hA fun bs hb => absV_sound hA.opd hb hs
    refine wpRF_of hA2 (fun fs T h n => K' (f :: fs) T h n) (fun fs T h n' hl hf hk => ?_) hr
    refine hK (f :: fs) T h n' (by simp [hl]) (fun j ts hj => ?_) hk
    cases j with
    | zero =>
      simp only [touches, List.getD_cons_zero] at hj ⊢
      exact touch_sound hA.opd hj hs
    | succ j =>
      simp only [touches, List.getD_cons_succ] at hj ⊢
      exact hf j ts hj
inductive PairsOK (n : Nat) (T : Tmps) (ops : List SOper) (ps : List (Nat × Nat)) : Prop
  | mk (h : pairsOK (touches n T ops []) ps = true)
theorem wS_regionP {N : NM} {ops : List SOper} {p : Nat × Nat} {ps : List (Nat × Nat)} {dead : List Nat} {fs : List Fr} {n : Nat} {T : Tmps} {h : Heap} {Q : QC} (hp : PairsOK n T ops (p :: ps)) :
    wS P N (.region ops (p :: ps) dead) fs n T h Q = wR P N ops dead fs n T h Q := by
  obtain ⟨hp⟩ := hp
  apply propext; constructor
  · intro hw
    have : ∀ {r : List SOper} {n : Nat} {T : Tmps} {h : Heap} {K : List FP → Tmps → Heap → Nat → Prop} {K' : Tmps → Heap → Nat → Prop}, (∀ fs T h n, K fs T h n → K' T h n) → wpRF P n r T h K → wpR P n r T h K' := by
      intro r
      induction r with
      | nil => intro n T h K K' hK hw; exact hK _ _ _ _ hw
      | cons s r ih =>
        rintro n T h K K' hK ⟨v, h1, f, hs, hr⟩
        exact ⟨v, h1, f, hs, ih (fun fs T h n hk => hK _ _ _ _ hk) hr⟩
    exact this (fun fs' T h n hk => hk.2) hw
  · intro hw
    refine wpRF_of AbsOK.nil _ (fun fs' T h n' hl hf hk => ⟨?_, hk⟩) hw
    rw [List.all_eq_true]
    intro q hq
    have := List.all_eq_true.1 hp q hq
    split at this
    · rename_i a b ha hb
      obtain ⟨f1, f2⟩ := hf _ _ ha
      obtain ⟨g1, g2⟩ := hf _ _ hb
      have hd : ∀ x y, x ∈ a → y ∈ b → x ≠ y := by
        rintro x y hx hy rfl
        have := List.all_eq_true.1 this x hx
        simp [hy] at this
      have dj : ∀ xs ys : List Nat, (∀ x ∈ xs, ∀ y ∈ ys, x ≠ y) → disj xs ys = true := by
        intro xs ys hh
        unfold disj
        rw [List.all_eq_true]
        intro x hx
        simp only [Bool.not_eq_true', List.contains_eq_mem, decide_eq_false_iff_not]
        intro hy
        exact hh x hx x hy rfl
      unfold FP.apart
      rw [f1, g1]
      simp only [Bool.and_eq_true]
      refine ⟨⟨dj _ _ fun x hx y hy => ?_, dj _ _ fun x hx y hy => ?_⟩, dj _ _ fun x hx y hy => ?_⟩
      · first | exact hd x y (f2 x (.inr hx)) (g2 y (.inl hy)) | exact fun e => hd y x (f2 y (.inl hy)) (g2 x (.inr hx)) e.symm
      · first | exact hd x y (f2 x (.inr hx)) (g2 y (.inr hy)) | exact fun e => hd y x (f2 y (.inr hy)) (g2 x (.inr hx)) e.symm
      · first | exact fun e => hd y x (f2 y (.inl hy)) (g2 x (.inr hx)) e.symm | exact fun e => hd y x (f2 y (.inr hy)) (g2 x (.inl hx)) e.symm | exact hd x y (f2 x (.inl hx)) (g2 y (.inr hy))
    · cases this
theorem FrzL.nil {h : Heap} : FrzL h [] [] := trivial
theorem FrzL.cons {h : Heap} {x y : AV} {xs ys : List AV} (h1 : FrzTo h x y) (h2 : FrzL h xs ys) : FrzL h (x :: xs) (y :: ys) := ⟨h1, h2⟩
end Go.AM
set_option linter.unusedSimpArgs false
set_option linter.unusedVariables false
namespace Go.AM
variable {P : Program}
def setL : HL → Heap → Heap
  | [], h => h
  | (k, x) :: r, h => (setL r h).set k x
theorem setL_nil {h : Heap} : setL [] h = h := rfl
theorem setL_cons {k : Nat} {x : Blk} {r : HL} {h : Heap} : setL ((k, x) :: r) h = (setL r h).set k x := rfl
theorem setL_get {b : Nat} {h : Heap} (hf : Fresh b h) : ∀ {L : HL}, (L.all fun p => Nat.ble b p.1 && Nat.blt p.1 1099511627775) = true → ∀ k, (setL L h).get k = if k < b then h.get k else (hp L).get k
  | [], _, k => by
    simp only [setL, hp]
    split
    · rfl
    · rw [hf k (by omega), get_e]
  | (j, x) :: r, hL, k => by
    simp only [List.all_cons, Bool.and_eq_true, Nat.ble_eq, Nat.blt_eq] at hL
    obtain ⟨⟨h1, h2⟩, h3⟩ := hL
    have ih := setL_get hf (L := r) (by simpa using h3) k
    simp only [setL, hp]
    by_cases e : k = j
    · subst e
      rw [get_same h2, get_same h2, if_neg (by omega)]
    · rw [get_ne h2 e, get_ne h2 e, ih]
theorem HSpec.of_O {f b : Nat} {args : List AV} {v : AV} {h : Heap} {L : HL} (hn : noRefs args = true) (hs : HSpec P f args .e v (hp L)) (hf : Fresh b h) (hL : (L.all fun p => Nat.ble b p.1 && Nat.blt p.1 1099511627775) = true) : HSpec P f args h v (setL L h) := by
  obtain ⟨hc, hs⟩ := hs
  refine ⟨hc, fun c w cargs H ha => ?_⟩
  refine (hs (only c.F) w cargs (HRel.only H.inF) (VRels.noRef (c := c) (c' := only c.F) (fun _ h => h) _ _ hn ha)).mono ?_
  rintro e w' ⟨cv, c', rfl, E, H', V⟩
  have hnewO : ∀ k, c'.O k → w.heap.size ≤ k := fun k hO => (E.own k hO).elim (fun h => h.elim) id
  have hnewF : ∀ k, c'.F k → c.F k ∨ w.heap.size ≤ k := fun k hF => (E.frzNew k hF).elim .inl fun h => h.elim (fun h => h.elim) .inr
  have hkeep : ∀ k, k < w.heap.size → w'.heap[k]? = w.heap[k]? := fun k hk => E.keep k hk (fun h => h)
  have hg := setL_get hf hL
  have hlow : ∀ k, (hp L).get k ≠ none → b ≤ k := fun k hk => by
    rcases Nat.lt_or_ge k b with h1 | h1
    · exfalso
      apply hk
      have : ∀ {M : HL}, (M.all fun p => Nat.ble b p.1 && Nat.blt p.1 1099511627775) = true → (hp M).get k = none := by
        intro M
        induction M with
        | nil => intro _; exact get_e
        | cons q M ih =>
          obtain ⟨j, x⟩ := q
          intro hM
          simp only [List.all_cons, Bool.and_eq_true, Nat.ble_eq, Nat.blt_eq] at hM
          rw [hp_cons, get_ne hM.1.2 (by omega)]; exact ih (by simpa using hM.2)
      exact this hL
    · exact h1
  have hrlow : ∀ k g, k < b → c'.ρ k g = none := fun k g hk => by
    have : (hp L).get k = none := by
      cases hq : (hp L).get k with
      | none => rfl
      | some x => exact absurd (hlow k (by rw [hq]; simp)) (by omega)
    exact H'.fresh k this g
  have hrhigh : ∀ k g, b ≤ k → c.ρ k g = none := fun k g hk => H.fresh k (hf k hk) g
  let c2 : Ctx := { ρ := fun k g => if k < b then c.ρ k g else c'.ρ k g, F := c'.F, O := fun k => c.O k ∨ c'.O k }
  have hr1 : ∀ k g, k < b → c2.ρ k g = c.ρ k g := fun k g hk => if_pos hk
  have hr2 : ∀ k g, b ≤ k → c2.ρ k g = c'.ρ k g := fun k g hk => if_neg (by omega)
  have hx1 : ∀ k g p, c.ρ k g = some p → c2.ρ k g = some p := fun k g p hp => by
    rcases Nat.lt_or_ge k b with h1 | h1
    · rw [hr1 k g h1]; exact hp
    · rw [hrhigh k g h1] at hp; cases hp
  have hx2 : ∀ k g p, c'.ρ k g = some p → c2.ρ k g = some p := fun k g p hp => by
    rcases Nat.lt_or_ge k b with h1 | h1
    · rw [hrlow k g h1] at hp; cases hp
    · rw [hr2 k g h1]; exact hp
  have E2 : Evo c w c2 w' := ⟨E.os, E.tape, E.output, E.size, E.shape, fun k hk _ => hkeep k hk, hx1, fun k hk => E.frz k hk, fun k hk => (hnewF k hk).elim .inl fun h => .inr (.inr h), fun k hk => hk.elim .inl fun h => .inr (hnewO k h)⟩
  have X2 : Ext c' w' c2 w' := ⟨hx2, fun _ h => h, fun k _ _ h => h, fun k C e fr h => ⟨C, fr, h, rfl⟩⟩
  refine ⟨cv, c2, rfl, E2, ?_, VRel.mono X2 _ _ V⟩
  refine ⟨fun k hk g => ?_, fun k x hk g hlt => ?_, fun k x hk => ?_, ?_, fun k hF hO => ?_, fun k hF => H'.inF k hF, fun k hO => hO.elim (fun h => Nat.lt_of_lt_of_le (H.inO k h) E.size) (H'.inO k)⟩
  · rw [hg k] at hk
    split at hk
    · rename_i h1; rw [hr1 k g h1]; exact H.fresh k hk g
    · rename_i h1; rw [hr2 k g (by omega)]; exact H'.fresh k hk g
  · rw [hg k] at hk
    split at hk
    · rename_i h1; rw [hr1 k g h1]; exact H.later k x hk g hlt
    · rename_i h1; rw [hr2 k g (by omega)]; exact H'.later k x hk g hlt
  · rw [hg k] at hk
    split at hk
    · refine BRel.mono (E2.ext H.disj) (fun cb base hd hp => ?_) (H.blk k x hk)
      have hO := H.owned ⟨x, hk, rfl, hd⟩ hp
      exact ⟨.inl hO, hkeep cb (H.inO _ hO)⟩
    · refine BRel.mono X2 (fun cb base hd hp => ?_) (H'.blk k x hk)
      have hO := H'.owned ⟨x, hk, rfl, hd⟩ hp
      exact ⟨.inr hO, rfl⟩
  · intro b1 g1 b2 g2 cb base1 base2 l1 l2 p1 p2
    have key : ∀ k g base, Live (setL L h) k g → c2.ρ k g = some (.loc cb base) → (k < b ∧ Live h k g ∧ c.ρ k g = some (.loc cb base) ∧ cb < w.heap.size) ∨ (b ≤ k ∧ Live (hp L) k g ∧ c'.ρ k g = some (.loc cb base) ∧ w.heap.size ≤ cb) := by
      rintro k g base ⟨x, hk, rfl, hd⟩ hp
      rw [hg k] at hk
      split at hk
      · rename_i h1
        rw [hr1 k _ h1] at hp
        exact .inl ⟨h1, ⟨x, hk, rfl, hd⟩, hp, H.inO _ (H.owned ⟨x, hk, rfl, hd⟩ hp)⟩
      · rename_i h1
        rw [hr2 k _ (by omega)] at hp
        exact .inr ⟨by omega, ⟨x, hk, rfl, hd⟩, hp, hnewO _ (H'.owned ⟨x, hk, rfl, hd⟩ hp)⟩
    rcases key b1 g1 base1 l1 p1 with ⟨k1, k2, k3, k4⟩ | ⟨k1, k2, k3, k4⟩ <;> rcases key b2 g2 base2 l2 p2 with ⟨j1, j2, j3, j4⟩ | ⟨j1, j2, j3, j4⟩
    · exact H.inj _ _ _ _ _ _ _ k2 j2 k3 j3
    · omega
    · omega
    · exact H'.inj _ _ _ _ _ _ _ k2 j2 k3 j3
  · rcases hO with hO | hO
    · rcases hnewF k hF with h1 | h1
      · exact H.disj k h1 hO
      · have := H.inO k hO; omega
    · exact H'.disj k hF hO
theorem HSpec.of_new {f : Nat} {sf : SFn} {args : List AV} {v : AV} {L : HL} (n : Nat) (hok : okFn P f sf = true) (hl : Nat.ble args.length sf.n = true)
    (hw : wS P ⟨sf.n, 0⟩ sf.body [] n (argT 0 args) .e fun e T k _ => (e = .normal ∨ e = .ret) ∧ ∃ vs, resV T k sf.res = some vs ∧ Rec 0 [(0, v)] L [(0, resOf vs)] k) : HSpec P f args .e v (hp L) := by
  refine HSpec.of_W2 (m := 0) hok (Nat.le_of_ble_eq_true hl) (fun b _ => get_e) ((wpC.toW hw).mono ?_)
  rintro e B ⟨n', h1, vs, h2, ps, ho, hro, hb, ht⟩
  exact ⟨h1, vs, _, h2, Rec.maps ho hb, Rec.heap ho hb, Rec.dom ho hro, ht 0⟩
theorem Rec.one {h : Heap} {v u : AV} {b k g : Nat} {cs ds : List AV} (hb : b < 1099511627775) (hk : h.get k = some (.cells g ds)) (hc : RnL 0 (ow 0 [(b, .blk k g)]) h cs ds) (hv : Rn 0 (ow 0 [(b, .blk k g)]) h v u) :
    Rec 0 [(0, v)] [(b, .cells 0 cs)] [(0, u)] h := by
  refine ⟨[(b, .blk k g)], ?_, RO.zero, RB.cells rfl ?_ hk hc RB.nil, RT.cons' rfl hv RT.nil⟩
  · simp [okPs, Nat.blt, srcNew]; omega
  · simp [ow, lkS]
end Go.AM
set_option linter.unusedSimpArgs false
set_option linter.unusedVariables false
namespace Go.AM
variable {P : Program}
def FSpec (P : Program) (f : Nat) (args : List AV) (v : AV) : Prop :=
  Callable P f ∧ noRefs args = true ∧ noRef v = true ∧ ∀ (F : Nat → Prop) (w : World) (cargs : Array Value), (∀ k, F k → k < w.heap.size) → VRels (only F) w args cargs.toList →
    Calls P f cargs w fun e w' => ∃ cv F', e = .returned cv ∧ Evo2 0 (only F) w (only fun k => F k ∨ F' k) w' ∧ (∀ k, F' k → w.heap.size ≤ k ∧ k < w'.heap.size) ∧ VRel (only F') w' v cv
def RnO (h : Heap) (x y : AV) : Prop := ∀ (c : Ctx) (w : World) (v : Value), HRel c h w → VRel c w y v → VRel (only c.O) w x v
def RnOL (h : Heap) : List AV → List AV → Prop
  | [], [] => True
  | x :: xs, y :: ys => RnO h x y ∧ RnOL h xs ys
  | _, _ => False
section
variable {h : Heap}
theorem RnO.flat {x : AV} (hf : flatV x = true) : RnO h x x := fun c w v _ hv => VRel.flat _ _ hf hv
theorem RnOL.nil : RnOL h [] [] := trivial
theorem RnOL.cons {x y : AV} {xs ys : List AV} (h1 : RnO h x y) (h2 : RnOL h xs ys) : RnOL h (x :: xs) (y :: ys) := ⟨h1, h2⟩
theorem RnOL.rels {c : Ctx} {w : World} (H : HRel c h w) : ∀ {xs ys : List AV} {vs : List Value}, RnOL h xs ys → VRels c w ys vs → VRels (only c.O) w xs vs
  | [], [], _, _, hv => by simpa [VRels] using hv
  | [], _ :: _, _, hh, _ => hh.elim
  | _ :: _, [], _, hh, _ => hh.elim
  | x :: xs, y :: ys, vs, hh, hv => by
    simp only [VRels] at hv ⊢
    obtain ⟨v, vs', rfl, g1, g2⟩ := hv
    exact ⟨v, vs', rfl, hh.1 c w v H g1, RnOL.rels H hh.2 g2⟩
theorem RnO.tup {xs ys : List AV} (hL : RnOL h xs ys) : RnO h (.tup xs) (.tup ys) := fun c w v H hv => by
  simp only [VRel] at hv ⊢
  obtain ⟨vs, rfl, hv⟩ := hv
  exact ⟨vs, rfl, hL.rels H hv⟩
theorem VPre.flat {c c' : Ctx} {w w' : World} : ∀ {xs : List AV} {vs : List Value}, flatVs xs = true → VPre c w xs vs → VPre c' w' xs vs
  | [], _, _, _ => by simp [VPre]
  | x :: xs, vs, hf, hv => by
    simp only [flatVs, Bool.and_eq_true] at hf
    simp only [VPre] at hv ⊢
    obtain ⟨v, vs', rfl, g1, g2⟩ := hv
    exact ⟨v, vs', rfl, VRel.flat _ _ hf.1 g1, VPre.flat hf.2 g2⟩
theorem RnO.sl {b g len sz : Nat} {ds : List AV} (hb : h.get b = some (.cells g ds)) (hf : flatVs ds = true) (hl : ds.length = len * sz) : RnO h (.fsl ds len sz) (.sl b g 0 len sz) := fun c w v H hv => by
  simp only [VRel] at hv
  rcases hv with ⟨hp, rfl, _, rfl⟩ | ⟨cb, base, o, cap, C, e, fr, hp, rfl, hlc, hC, hcap⟩
  · have : ds = [] := List.eq_nil_of_length_eq_zero (by rw [hl]; simp)
    subst this
    simp only [VRel]; exact .inl (by simp)
  · obtain ⟨C', e', fr', hO, hC', hfr, hbs, hpre⟩ := H.here hb hp
    rw [hC] at hC'; cases hC'
    by_cases h0 : cap = 0
    · have hl0 : len = 0 := by omega
      subst hl0
      have : ds = [] := List.eq_nil_of_length_eq_zero (by rw [hl]; simp)
      subst this
      simp only [VRel]
      exact .inr ⟨cb, o, cap, C, e, fr, rfl, hlc, by simp, hO, hC, by simp [VPre]⟩
    · obtain ⟨ho, hbd⟩ := hcap.resolve_left h0
      simp only [VRel]
      exact .inr ⟨cb, o, cap, C, e, fr, rfl, hlc, hl, hO, hC, by rw [ho]; exact VPre.flat hf hpre⟩
theorem RnO.slm {b g len k sz : Nat} {ds es : List AV} (hb : h.get b = some (.cells g ds)) (he : es = ds) (hk : k = len) (hf : flatVs ds = true) (hl : ds.length = len * sz) : RnO h (.fsl es k sz) (.sl b g 0 len sz) := by
  subst he; subst hk; exact RnO.sl hb hf hl
end
theorem FSpec.of_W2 {f : Nat} {sf : SFn} {args : List AV} {v : AV} (hok : okFn P f sf = true) (hl : args.length ≤ sf.n) (ha : noRefs args = true) (hv : noRef v = true)
    (hw : W2 P ⟨sf.n, 0⟩ sf.body (fun e B => (e = .normal ∨ e = .ret) ∧ ∃ vs, resV B.T B.h sf.res = some vs ∧ RnO B.h v (resOf vs)) ⟨argT 0 args, .e⟩) : FSpec P f args v := by
  obtain ⟨_, _, _, _, _, _, _, hc⟩ := okFn_spec hok
  refine ⟨hc, ha, hv, fun F w cargs hF ha => (call_of_W2 (R := fun vs k => RnO k v (resOf vs)) hok hl hw (HRel.only hF) ha).mono ?_⟩
  rintro e w' ⟨cv, c', vs, k, rfl, E, H', V, hk⟩
  have hnew : ∀ k, c'.O k → w.heap.size ≤ k := fun k hO => (E.own k hO).elim (fun h => h.elim) id
  refine ⟨cv, c'.O, rfl, ?_, fun k hO => ⟨hnew k hO, H'.inO k hO⟩, hk c' w' cv H' V⟩
  refine ⟨E.os, E.tape, E.output, E.size, E.shape, fun k hk _ => E.keep k hk (fun h => h), fun b g p hb => absurd hb (Nat.not_lt_zero _), fun k hk => .inl hk, fun k hk => ?_, fun k hk => hk.elim⟩
  rcases hk with hk | hk
  · exact .inl hk
  · exact .inr (.inr (hnew k hk))
theorem FSpec.of_wS {f : Nat} {sf : SFn} {args : List AV} {v : AV} (n : Nat) (hok : okFn P f sf = true) (hl : Nat.ble args.length sf.n = true) (ha : noRefs args = true) (hv : noRef v = true)
    (hw : wS P ⟨sf.n, 0⟩ sf.body [] n (argT 0 args) .e fun e T h _ => (e = .normal ∨ e = .ret) ∧ ∃ vs, resV T h sf.res = some vs ∧ RnO h v (resOf vs)) : FSpec P f args v :=
  FSpec.of_W2 hok (Nat.le_of_ble_eq_true hl) ha hv ((wpC.toW hw).mono fun e B ⟨_, h⟩ => h)
section
variable {h : Heap}
theorem FrzTo.fn {f : Nat} {xs ys us vs : List AV} (hL : FrzL h xs ys) (hK : FrzL h us vs) : FrzTo h (.fn f xs us) (.fn f ys vs) := fun c w v H hv => by
  simp only [VRel] at hv ⊢
  obtain ⟨x', y', rfl, h1, h2⟩ := hv
  exact ⟨x', y', rfl, hL.rels H h1, hK.rels H h2⟩
theorem FrzTo.ptr {b g off : Nat} {cs ys : List AV} (hb : h.get b = some (.cells g cs)) (hL : FrzL h (cs.drop off) ys) : FrzTo h (.ptr b g off) (.fptr ys) := fun c w v H hv => by
  simp only [VRel] at hv
  obtain ⟨cb, base, hp, rfl⟩ := hv
  obtain ⟨C', e', fr', hO, hC', hfr, hbs, hpre⟩ := H.here hb hp
  have hp2 := VPre_drop off hpre
  rw [List.drop_drop] at hp2
  simp only [VRel]
  exact ⟨cb, base + off, C', e', fr', rfl, .inr hO, hC', hL.pre H hp2⟩
theorem FrzTo.map {b g : Nat} {es : List (AV × AV)} {ks vs : List AV} (hb : h.get b = some (.map g es)) (hk : FrzL h (es.map (·.1)) ks) (hv : FrzL h (es.map (·.2)) vs) : FrzTo h (.map b g) (.fmap ks vs) := fun c w v H hx => by
  simp only [VRel] at hx
  obtain ⟨cb, hp, rfl⟩ := hx
  obtain ⟨ms, clock, hO, hC, hR, hcl⟩ := H.atMap hb hp
  obtain ⟨g1, g2, g3⟩ := MRel_to hR
  have hl := MRel_length hR
  simp only [VRel]
  exact ⟨cb, ms, clock, rfl, .inr hO, hC, by simp at hl; omega, g1, hk.rels H g2, hv.rels H g3⟩
theorem HSpec.lend {f : Nat} {args bs : List AV} {v : AV} (hL : FrzL h args bs) (hp : PSpec P f bs v) (hv : flatV v = true) : HSpec P f args h v h := by
  obtain ⟨h', hc, _⟩ := hp.2.2
  exact ⟨hc, fun c w cargs H ha => (hp.borrow hv H (hL.rels H ha)).2⟩
theorem HSpec.of_F {f : Nat} {args bs : List AV} {v : AV} (hL : FrzL h args bs) (hp : FSpec P f bs v) : HSpec P f args h v h := by
  obtain ⟨hc, n1, n2, hs⟩ := hp
  refine ⟨hc, fun c w cargs H ha => ?_⟩
  have hF : ∀ k, (c.F k ∨ c.O k) → k < w.heap.size := fun k hk => hk.elim (H.inF k) (H.inO k)
  refine (hs (fun k => c.F k ∨ c.O k) w cargs hF (VRels.noRef (c := lent c) (c' := only fun k => c.F k ∨ c.O k) (fun _ h => h) _ _ n1 (hL.rels H ha))).mono ?_
  rintro e w' ⟨cv, F', rfl, E, hnew, V⟩
  have hk : ∀ k, k < w.heap.size → w'.heap[k]? = w.heap[k]? := fun k hk => E.keep k hk (fun h => h)
  obtain ⟨E1, H1⟩ := H.grow E.os E.tape E.output E.size hk
  refine ⟨cv, { c with F := fun k => c.F k ∨ F' k }, rfl, ?_, H1.frozen (fun k => c.F k ∨ F' k) (fun k hk => .inl hk) (fun k hk => ?_), VRel.noRef (c := only F') (c' := { c with F := fun k => c.F k ∨ F' k }) (fun _ h => .inr h) _ _ n2 V⟩
  · refine ⟨E1.os, E1.tape, E1.output, E1.size, E1.shape, E1.keep, E1.rho, fun k hk => .inl hk, fun k hk => ?_, E1.own⟩
    rcases hk with hk | hk
    · exact .inl hk
    · exact .inr (.inr (hnew k hk).1)
  · rcases hk with hk | hk
    · exact ⟨fun hO => H.disj k hk hO, Nat.lt_of_lt_of_le (H.inF k hk) E.size⟩
    · exact ⟨fun hO => by have := H.inO k hO; have := (hnew k hk).1; omega, (hnew k hk).2⟩
end
end Go.AM
set_option linter.unusedSimpArgs false
set_option linter.unusedVariables false
namespace Go.AM
variable {P : Program}
def mapF (k : IntKind) (f : Nat → AV) (l : List Nat) : List (AV × AV) := l.map fun x : Nat => (.int k (x : Int), f x)
def updF (f : Nat → AV) (x : Nat) (v : AV) : Nat → AV := fun y => if y = x then v else f y
theorem keyEq_int {k : IntKind} {x y : Nat} : keyEq false [.i] (.int k (x : Int)) (.int k (y : Int)) = some (decide (x = y)) := by
  by_cases e : x = y
  · subst e; simp [keyEq, eqCells, eqCell]
  · have : ¬ (x : Int) = y := by omega
    simp [keyEq, eqCells, eqCell, this, e]
theorem aFind_in {k : IntKind} {f : Nat → AV} {x : Nat} : ∀ (l : List Nat) (i : Nat), x ∈ l → aFind false [.i] (.int k (x : Int)) (mapF k f l) i = some (some (i + l.findIdx (· == x), f x))
  | [], _, h => by cases h
  | y :: l, i, hx => by
    show (match keyEq false [.i] (.int k (x : Int)) (.int k (y : Int)) with | some true => _ | some false => _ | none => _) = _
    rw [keyEq_int, List.findIdx_cons]
    by_cases e : x = y
    · subst e; simp
    · have h2 : (y == x) = false := by simpa using fun h => e h.symm
      rw [decide_eq_false e, h2]
      show aFind false [.i] (.int k (x : Int)) (mapF k f l) (i + 1) = _
      rw [aFind_in l (i + 1) ((List.mem_cons.1 hx).resolve_left e)]
      simp only [cond_false]
      congr 3; omega
theorem aFind_out {k : IntKind} {f : Nat → AV} {x : Nat} : ∀ (l : List Nat) (i : Nat), x ∉ l → aFind false [.i] (.int k (x : Int)) (mapF k f l) i = some none
  | [], _, _ => rfl
  | y :: l, i, hx => by
    simp only [List.mem_cons, not_or] at hx
    show (match keyEq false [.i] (.int k (x : Int)) (.int k (y : Int)) with | some true => _ | some false => _ | none => _) = _
    rw [keyEq_int, decide_eq_false hx.1]
    exact aFind_out l (i + 1) hx.2
theorem mapF_set {k : IntKind} {f : Nat → AV} {x : Nat} {v : AV} : ∀ (l : List Nat), l.Nodup → x ∈ l → (mapF k f l).set (l.findIdx (· == x)) (.int k (x : Int), v) = mapF k (updF f x v) l
  | [], _, h => by cases h
  | y :: l, hn, hx => by
    rw [List.nodup_cons] at hn
    rw [List.findIdx_cons]
    by_cases e : y = x
    · subst e
      have : mapF k f l = mapF k (updF f y v) l := List.map_congr_left fun z hz => by
        have : z ≠ y := fun h => hn.1 (h ▸ hz)
        simp [updF, this]
      simp only [beq_self_eq_true, cond_true]
      show ((.int k (y : Int), v) :: mapF k f l) = (.int k (y : Int), updF f y v y) :: mapF k (updF f y v) l
      rw [this]; simp [updF]
    · have h2 : (y == x) = false := by simpa using e
      rw [h2]
      simp only [cond_false]
      show (.int k (y : Int), f y) :: (mapF k f l).set (l.findIdx (· == x)) (.int k (x : Int), v) = (.int k (y : Int), updF f x v y) :: mapF k (updF f x v) l
      rw [mapF_set l hn.2 ((List.mem_cons.1 hx).resolve_left fun h => e h.symm)]
      simp [updF, e]
theorem mapF_ins {k : IntKind} {f : Nat → AV} {x : Nat} {v : AV} {l : List Nat} (hx : x ∉ l) : mapF k f l ++ [(.int k (x : Int), v)] = mapF k (updF f x v) (l ++ [x]) := by
  have : mapF k f l = mapF k (updF f x v) l := List.map_congr_left fun z hz => by
    have : z ≠ x := fun h => hx (h ▸ hz)
    simp [updF, this]
  rw [this]; simp [mapF, updF]
theorem RnM.mapF {m : Nat} {π : Nat → Option Src} {h : Heap} {k : IntKind} {f g : Nat → AV} : ∀ {l : List Nat}, (∀ x ∈ l, Rn m π h (f x) (g x)) → RnM m π h (mapF k f l) (mapF k g l)
  | [], _ => trivial
  | x :: l, hf => ⟨⟨Rn.same rfl, hf x (by simp)⟩, RnM.mapF (l := l) fun y hy => hf y (by simp [hy])⟩
section
variable {N : NM} {n : Nat} {d : Option Nat} {af dead : List Nat} {r : List SOper} {T : Tmps} {h : Heap} {Q : QC} {fs : List Fr}
def lkV (ok : Bool) (z : AV) : Option (Nat × AV) → AV
  | some (_, v) => if ok then .tup [v, .bool true] else v
  | none => if ok then .tup [z, .bool false] else z
def wK (P : Program) (N : NM) (o : Option Blk) (g : Nat) (k z : AV) (ok : Bool) (d : Option Nat) (ops : List SOper) (dead : List Nat) (fs : List Fr) (n : Nat) (T : Tmps) (h : Heap) (Q : QC) : Prop :=
  ∃ es q, o = some (.map g es) ∧ aFind false [.i] k es 0 = some q ∧ wR P N ops dead fs (n + 1) (putD T d (lkV ok z q)) h Q
theorem aLookup_new {k : IntKind} {x : Int} {b g : Nat} {z : AV} {ok : Bool} (hu : wK P N (h.get b) g (.int k x) z ok d r dead fs n T h Q) : wM P N (aLookup false [.i] z ok (.map b g) (.int k x)) d r dead fs n T h Q := by
  obtain ⟨es, q, hb, hf, hk⟩ := hu
  refine ⟨_, _, ?_, hk⟩
  have hok : keyOK false [.i] (.int k x) = true := by simp [keyOK, keyEq, eqCells, eqCell]
  have hg : Nat.beq g g = true := by simp
  unfold aLookup
  rw [if_pos hok]
  cases q with
  | none => simp only [HM.entries, HM.run, hb, hg, cond_true, hf, lkV]
  | some p => obtain ⟨i, v⟩ := p; simp only [HM.entries, HM.run, hb, hg, cond_true, hf, lkV]
abbrev fmapF (k : IntKind) (f : Nat → AV) (l : List Nat) : AV := .fmap (l.map fun x : Nat => .int k (x : Int)) (l.map f)
theorem zip_mapF {k : IntKind} {f : Nat → AV} (l : List Nat) : (l.map fun x : Nat => AV.int k (x : Int)).zip (l.map f) = mapF k f l := by
  induction l with
  | nil => rfl
  | cons x l ih => simp only [List.map_cons, List.zip_cons_cons, ih]; rfl
theorem aLookup_fin {k : IntKind} {f : Nat → AV} {x : Nat} {l : List Nat} {z : AV} {ok : Bool} (hx : x ∈ l) (hk : wR P N r dead fs (n + 1) (putD T d (if ok then .tup [f x, .bool true] else f x)) h Q) : wM P N (aLookup false [.i] z ok (fmapF k f l) (.int k (x : Int))) d r dead fs n T h Q := by
  refine ⟨_, h, ?_, hk⟩
  have e : keyOK false [.i] (AV.int k (x : Int)) = true := by simp [keyOK, keyEq, eqCells, eqCell]
  unfold aLookup
  rw [if_pos e]
  simp only [fmapF]
  rw [zip_mapF, aFind_in l 0 hx]; rfl
theorem aLookup_fout {k : IntKind} {f : Nat → AV} {x : Nat} {l : List Nat} {z : AV} {ok : Bool} (hx : x ∉ l) (hk : wR P N r dead fs (n + 1) (putD T d (if ok then .tup [z, .bool false] else z)) h Q) : wM P N (aLookup false [.i] z ok (fmapF k f l) (.int k (x : Int))) d r dead fs n T h Q := by
  refine ⟨_, h, ?_, hk⟩
  have e : keyOK false [.i] (AV.int k (x : Int)) = true := by simp [keyOK, keyEq, eqCells, eqCell]
  unfold aLookup
  rw [if_pos e]
  simp only [fmapF]
  rw [zip_mapF, aFind_out l 0 hx]; rfl
theorem FrzTo.mapF {k : IntKind} {f g : Nat → AV} {b gg : Nat} {l : List Nat} (hb : h.get b = some (.map gg (Go.AM.mapF k f l))) (hv : ∀ x ∈ l, FrzTo h (f x) (g x)) : FrzTo h (.map b gg) (fmapF k g l) := by
  refine FrzTo.map hb ?_ ?_
  · have : (Go.AM.mapF k f l).map (·.1) = l.map fun x : Nat => AV.int k (x : Int) := by simp [Go.AM.mapF]
    rw [this]; exact FrzL.same _
  · have : (Go.AM.mapF k f l).map (·.2) = l.map f := by simp [Go.AM.mapF]
    rw [this]
    clear hb this
    induction l with
    | nil => trivial
    | cons x l ih => exact ⟨hv x (by simp), ih fun y hy => hv y (by simp [hy])⟩
theorem wK_in {k : IntKind} {f : Nat → AV} {x g : Nat} {l : List Nat} {z : AV} {ok : Bool} (hx : x ∈ l) (hk : wR P N r dead fs (n + 1) (putD T d (if ok then .tup [f x, .bool true] else f x)) h Q) : wK P N (some (.map g (mapF k f l))) g (.int k (x : Int)) z ok d r dead fs n T h Q :=
  ⟨_, _, rfl, aFind_in l 0 hx, hk⟩
theorem wK_out {k : IntKind} {f : Nat → AV} {x g : Nat} {l : List Nat} {z : AV} {ok : Bool} (hx : x ∉ l) (hk : wR P N r dead fs (n + 1) (putD T d (if ok then .tup [z, .bool false] else z)) h Q) : wK P N (some (.map g (mapF k f l))) g (.int k (x : Int)) z ok d r dead fs n T h Q :=
  ⟨_, _, rfl, aFind_out l 0 hx, hk⟩
def wUF (P : Program) (N : NM) (o : Option Blk) (b g : Nat) (k v : AV) (d : Option Nat) (ops : List SOper) (dead : List Nat) (fs : List Fr) (n : Nat) (T : Tmps) (h : Heap) (Q : QC) : Prop :=
  ∃ es q, o = some (.map g es) ∧ aFind false [.i] k es 0 = some q ∧ b < lim ∧ wR P N ops dead fs (n + 1) (putD T d .any) (h.set b (.map g (match q with | some (i, _) => es.set i (k, v) | none => es ++ [(k, v)]))) Q
theorem aMapUpd_F {k : IntKind} {x : Int} {b g : Nat} {v : AV} (hu : wUF P N (h.get b) b g (.int k x) v d r dead fs n T h Q) : wM P N (aMapUpd false [.i] (.map b g) (.int k x) v) d r dead fs n T h Q := by
  obtain ⟨es, q, hb, hf, hl, hk⟩ := hu
  refine ⟨_, _, ?_, hk⟩
  have hok : keyOK false [.i] (.int k x) = true := by simp [keyOK, keyEq, eqCells, eqCell]
  have hl' : Nat.blt b lim = true := by simp [Nat.blt]; exact hl
  have hg : Nat.beq g g = true := by simp
  unfold aMapUpd
  rw [if_pos hok]
  cases q with
  | none => simp only [HM.entries, HM.run, hb, hg, cond_true, hf, hl']
  | some p => obtain ⟨i, v⟩ := p; simp only [HM.entries, HM.run, hb, hg, cond_true, hf, hl']
theorem wUF_in {k : IntKind} {f : Nat → AV} {x b g : Nat} {l : List Nat} {v : AV} (hn : l.Nodup) (hx : x ∈ l) (hl : b < 1099511627775) (hk : wR P N r dead fs (n + 1) (putD T d .any) (h.set b (.map g (mapF k (updF f x v) l))) Q) : wUF P N (some (.map g (mapF k f l))) b g (.int k (x : Int)) v d r dead fs n T h Q := by
  have hl' : b < lim := hl
  refine ⟨_, _, rfl, aFind_in l 0 hx, hl', ?_⟩
  dsimp only
  rw [Nat.zero_add, mapF_set l hn hx]; exact hk
theorem wUF_out {k : IntKind} {f : Nat → AV} {x b g : Nat} {l : List Nat} {v : AV} (hx : x ∉ l) (hl : b < 1099511627775) (hk : wR P N r dead fs (n + 1) (putD T d .any) (h.set b (.map g (mapF k (updF f x v) (l ++ [x])))) Q) : wUF P N (some (.map g (mapF k f l))) b g (.int k (x : Int)) v d r dead fs n T h Q := by
  have hl' : b < lim := hl
  refine ⟨_, _, rfl, aFind_out l 0 hx, hl', ?_⟩
  dsimp only
  rw [mapF_ins hx]; exact hk
end
end Go.AM
set_option linter.unusedSimpArgs false
set_option linter.unusedVariables false
namespace Go.AM
theorem cells_bl {b : Bool} : (AV.bool b).cells = [.bool b] := rfl
theorem one_bl {b : Bool} : (AV.bool b).one = true := rfl
theorem box_bl {b : Bool} : (AV.bool b).boxable = true := rfl
theorem aNil_ptr {b g o : Nat} : aNil (.ptr b g o) = some (.ptr b g o) := rfl
theorem aNil_fptr {cs : List AV} : aNil (.fptr cs) = some (.fptr cs) := rfl
end Go.AM
namespace Go.AM.SD
open Go.AM
def ints (l : List Int) : List AV := l.map (.int .i64)
abbrev sli (l : List Int) : AV := .fsl (ints l) l.length 1
theorem noRefs_ints (l : List Int) : noRefs (ints l) = true := by
  induction l with
  | nil => rfl
  | cons x l ih => simp only [ints, List.map_cons, noRefs, noRef, Bool.true_and]; exact ih
theorem ints_len {l : List Int} : (ints l).length = l.length := by simp [ints]
theorem lenW : type_of% @List.length_map.{0, 0} ∧ type_of% @List.length_append.{0} ∧ type_of% @List.length_cons.{0} ∧ type_of% @List.length_nil.{0} ∧ type_of% @ints_len := ⟨@List.length_map.{0, 0}, @List.length_append.{0}, @List.length_cons.{0}, @List.length_nil.{0}, @ints_len⟩
theorem head_ints {l : List Int} {i : Nat} {x : Int} (h : l[i]? = some x) : ((ints l).drop i).head? = some (.int .i64 x) := by
  rw [List.head?_drop]; simp [ints, h]
abbrev nz (l : List Nat) : List Int := l.map fun x : Nat => (x : Int)
theorem nz_at {l : List Nat} {i x : Nat} (h : l[i]? = some x) : (nz l)[i]? = some (x : Int) := by simp [nz, h]
theorem get_ex {α : Type} {l : List α} {i : Nat} (h : i < l.length) : ∃ x, l[i]? = some x := ⟨l[i], List.getElem?_eq_getElem h⟩
theorem noRefs_append {a b : List AV} : noRefs (a ++ b) = (noRefs a && noRefs b) := by
  induction a with
  | nil => simp [noRefs]
  | cons x a ih => simp only [List.cons_append, noRefs, ih, Bool.and_assoc]
theorem noRefs_flat {α : Type} {f : α → List AV} (h : ∀ x, noRefs (f x) = true) (l : List α) : noRefs (l.flatMap f) = true := by
  induction l with
  | nil => rfl
  | cons x l ih => rw [List.flatMap_cons, noRefs_append, h, ih]; rfl
theorem flat_len {α : Type} {f : α → List AV} {k : Nat} (h : ∀ x, (f x).length = k) (l : List α) : (l.flatMap f).length = l.length * k := by
  induction l with
  | nil => simp
  | cons x l ih => rw [List.flatMap_cons, List.length_append, h, ih, List.length_cons, Nat.succ_mul]; omega
theorem drop_flat {α : Type} {f : α → List AV} {k : Nat} (h : ∀ x, (f x).length = k) : ∀ {l : List α} {i : Nat} {x : α}, l[i]? = some x → (l.flatMap f).drop (i * k) = f x ++ (l.drop (i + 1)).flatMap f
  | [], _, _, hx => by simp at hx
  | y :: l, 0, x, hx => by
    simp at hx; subst hx; simp
  | y :: l, i + 1, x, hx => by
    simp at hx
    rw [List.flatMap_cons, List.drop_append, h, List.drop_of_length_le (by rw [h, Nat.succ_mul]; omega), List.nil_append]
    have : (i + 1) * k - k = i * k := by rw [Nat.succ_mul]; omega
    rw [this, drop_flat h hx, List.drop_succ_cons]
structure Eg where
  fr : Int
  ev : Int
  to : Int
deriving DecidableEq
def egC (e : Eg) : List AV := [.int .i64 e.fr, .int .i64 e.ev, .int .i64 e.to]
abbrev egs (l : List Eg) : AV := .fsl (l.flatMap egC) l.length 3
theorem noRefs_eg (l : List Eg) : noRefs (l.flatMap egC) = true := noRefs_flat (fun x => rfl) l
theorem noRef_egs (l : List Eg) : noRef (egs l) = true := by simp only [noRef]; exact noRefs_eg l
theorem drop_egs {l : List Eg} {i : Nat} {e : Eg} (h : l[i]? = some e) : (l.flatMap egC).drop (i * 3) = .int .i64 e.fr :: .int .i64 e.ev :: .int .i64 e.to :: (l.drop (i + 1)).flatMap egC := drop_flat (f := egC) (k := 3) (fun _ => rfl) h
theorem noRef_sli (l : List Int) : noRef (sli l) = true := by simp only [noRef]; exact noRefs_ints l
structure Au where
  al : List Int
  n : Int
  ms : List Int
  es : List Eg
abbrev auV (a : Au) : AV := .agg [sli a.al, .int .i64 a.n, sli a.ms, egs a.es]
def eg (e : Ed) : Eg := ⟨e.1, e.2.1, e.2.2⟩
def au (a : Aut) : Au := ⟨nz a.al, a.n, nz a.ms, a.es.map eg⟩
def rmC (r : Rm) : List AV := [.int .i64 r.st, .int .i64 r.rank, .int .i64 r.reason, .int .i64 r.ev]
abbrev rms (l : List Rm) : AV := .fsl (l.flatMap rmC) l.length 4
theorem noRefs_rm (l : List Rm) : noRefs (l.flatMap rmC) = true := noRefs_flat (fun x => rfl) l
theorem drop_rms {l : List Rm} {i : Nat} {r : Rm} (h : l[i]? = some r) : (l.flatMap rmC).drop (i * 4) = .int .i64 r.st :: .int .i64 r.rank :: .int .i64 r.reason :: .int .i64 r.ev :: (l.drop (i + 1)).flatMap rmC := drop_flat (f := rmC) (k := 4) (fun _ => rfl) h
end Go.AM.SD
namespace Go.AM.SD
def edC (e : Ed) : List AV := [.int .i64 (e.1 : Int), .int .i64 (e.2.1 : Int), .int .i64 (e.2.2 : Int)]
abbrev egsN (l : List Ed) : AV := .fsl (l.flatMap edC) l.length 3
theorem noRefs_ed (l : List Ed) : noRefs (l.flatMap edC) = true := noRefs_flat (fun x => rfl) l
theorem noRef_egsN (l : List Ed) : noRef (egsN l) = true := by simp only [noRef]; exact noRefs_ed l
theorem drop_eds {l : List Ed} {i : Nat} {e : Ed} (h : l[i]? = some e) : (l.flatMap edC).drop (i * 3) = .int .i64 (e.1 : Int) :: .int .i64 (e.2.1 : Int) :: .int .i64 (e.2.2 : Int) :: (l.drop (i + 1)).flatMap edC := drop_flat (f := edC) (k := 3) (fun _ => rfl) h
theorem egs_map (l : List Ed) : egs (l.map eg) = egsN l := by
  unfold egs egsN
  rw [List.length_map, List.flatMap_map]; rfl
abbrev sliN (l : List Nat) : AV := .fsl (ints (nz l)) l.length 1
theorem sli_nz (l : List Nat) : sli (nz l) = sliN l := by unfold sli sliN; rw [List.length_map]
theorem noRef_sliN (l : List Nat) : noRef (sliN l) = true := by simp only [noRef]; exact noRefs_ints _
theorem head_nz {l : List Nat} {i x : Nat} (h : l[i]? = some x) : ((ints (nz l)).drop i).head? = some (.int .i64 (x : Int)) := head_ints (nz_at h)
abbrev aV (a : Aut) : AV := .agg [sliN a.al, .int .i64 (a.n : Int), sliN a.ms, egsN a.es]
theorem auV_au (a : Aut) : auV (au a) = aV a := by
  show AV.agg [sli (nz a.al), .int .i64 (a.n : Int), sli (nz a.ms), egs (a.es.map eg)] = _
  rw [sli_nz, sli_nz, egs_map]
theorem noRef_aV (a : Aut) : noRef (aV a) = true := by rw [aV, noRef, noRefs, noRefs, noRefs, noRefs, noRef_sliN, noRef_sliN, noRef_egsN]; rfl
def bls (l : List Bool) : List AV := l.map .bool
theorem noRefs_bls (l : List Bool) : noRefs (bls l) = true := by
  induction l with
  | nil => rfl
  | cons x l ih => simp only [bls, List.map_cons, noRefs, noRef, Bool.true_and]; exact ih
theorem bls_len {l : List Bool} : (bls l).length = l.length := by simp [bls]
theorem bls_set {l : List Bool} {i : Nat} {b : Bool} : (bls l).set i (.bool b) = bls (l.set i b) := by simp [bls, List.map_set]
theorem head_bls {l : List Bool} {i : Nat} (h : i < l.length) : ((bls l).drop i).head? = some (.bool (lf l i)) := by
  rw [List.head?_drop]; simp [bls, lf, h]
theorem get_bls {l : List Bool} {i : Nat} (h : i < l.length) : (bls l)[i]? = some (.bool (lf l i)) := by
  simp [bls, lf, h]
theorem ints_append {a b : List Int} : ints (a ++ b) = ints a ++ ints b := by simp [ints]
theorem nz_append {a b : List Nat} : nz (a ++ b) = nz a ++ nz b := by simp
theorem mem_at {α : Type} {l : List α} {x : α} (h : x ∈ l) : ∃ j : Nat, l[j]? = some x ∧ j < l.length := by
  obtain ⟨j, hj⟩ := List.mem_iff_getElem?.1 h
  exact ⟨j, hj, (List.getElem?_eq_some_iff.1 hj).1⟩
theorem mem_nz {l : List Nat} {x : Nat} : decide ((x : Int) ∈ nz l) = l.contains x := by
  have : (x : Int) ∈ nz l ↔ x ∈ l := ⟨fun h => by
    obtain ⟨y, hy, e⟩ := List.mem_map.1 h
    have e : y = x := by omega
    exact e ▸ hy, fun h => List.mem_map.2 ⟨x, h, rfl⟩⟩
  by_cases h : x ∈ l
  · rw [decide_eq_true (this.2 h)]; simp [h]
  · rw [decide_eq_false fun h2 => h (this.1 h2)]; simp [h]
end Go.AM.SD
