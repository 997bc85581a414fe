/- Arguments that come in: integers, texts, arrays, structs and slices of them, one in the other; what they read as. -/
import Derived.Test.YteaeobmbfhaklaaAmU
namespace Go.AM
open Go.ChangeShapes Go.WideShapes
set_option linter.unusedVariables false
set_option linter.unusedSimpArgs false

inductive Ty where
  | int (k : IntKind)
  | bool
  | str
  | arr (n : Nat) (t : Ty)
  | sl (t : Ty)
  | st (fs : Ty)
  | unit
  | pair (a b : Ty)

def Ty.sz : Ty → Nat
  | .int _ | .bool | .str | .sl _ => 1
  | .arr n t => n * t.sz
  | .st fs => fs.sz
  | .unit => 0
  | .pair a b => a.sz + b.sz
abbrev Ty.D : Ty → Type
  | .int _ => Int
  | .bool => Bool
  | .str => List UInt8
  | .arr _ t | .sl t => List t.D
  | .st fs => fs.D
  | .unit => Unit
  | .pair a b => a.D × b.D
def Ty.cells : (t : Ty) → t.D → List AV
  | .int k, n => [.int k n]
  | .bool, b => [.bool b]
  | .str, s => [.str s]
  | .arr _ t, l => List.flatMap (Ty.cells t) l
  | .sl t, l => [.fsl (List.flatMap (Ty.cells t) l) (List.length l) t.sz]
  | .st fs, d => Ty.cells fs d
  | .unit, _ => []
  | .pair a b, d => Ty.cells a d.1 ++ Ty.cells b d.2
def Ty.wf : (t : Ty) → t.D → Prop
  | .int k, n => (Lit.int k n).wf = true
  | .bool, _ => True
  | .str, s => List.length s ≤ 9223372036854775807
  | .arr n t, l => List.length l = n ∧ ∀ x ∈ (show List t.D from l), Ty.wf t x
  | .sl t, l => List.length l ≤ 9223372036854775807 ∧ ∀ x ∈ (show List t.D from l), Ty.wf t x
  | .st fs, d => Ty.wf fs d
  | .unit, _ => True
  | .pair a b, d => Ty.wf a d.1 ∧ Ty.wf b d.2

mutual
def okTy (P : Program) : Ty → TypeId → Bool
  | .int k, t => match P.underlying t with | some (.int k') => k' == k | _ => false
  | .bool, t => match P.underlying t with | some .bool => true | _ => false
  | .str, t => match P.underlying t with | some .string => true | _ => false
  | .arr n e, t => match P.underlying t with | some (.array m u) => n == m && okTy P e u && P.cellsOf u == e.sz && P.cellsOf t == n * e.sz | _ => false
  | .sl e, t => match P.underlying t with | some (.slice u) => okTy P e u && P.cellsOf u == e.sz && Nat.blt 0 e.sz | _ => false
  | .st fs, t => match P.underlying t with | some (.struct l) => okFs P fs l.toList 0 && P.cellsOf t == fs.sz | _ => false
  | _, _ => false
termination_by structural ty => ty
def okFs (P : Program) : Ty → List Field → Nat → Bool
  | .unit, l, _ => match l with | [] => true | _ => false
  | .pair a b, l, off => match l with | f :: l => f.offset == off && okTy P a f.type && P.cellsOf f.type == a.sz && okFs P b l (off + a.sz) | _ => false
  | _, _, _ => false
termination_by structural ty => ty
end

section
variable {H : Type} {enc : TypeId × Value → H} {P : Program} {W : World} {spare : Nat → Bool}

theorem cells_len : ∀ (t : Ty) (d : t.D), t.wf d → (t.cells d).length = t.sz
  | .int _, _, _ => rfl
  | .bool, _, _ => rfl
  | .str, _, _ => rfl
  | .sl _, _, _ => rfl
  | .unit, _, _ => rfl
  | .st fs, d, h => cells_len fs d h
  | .pair a b, d, h => by
    simp only [Ty.cells, Ty.sz, List.length_append, cells_len a d.1 h.1, cells_len b d.2 h.2]
  | .arr n t, l, h => by
    obtain ⟨h1, h2⟩ := h
    simp only [Ty.cells, Ty.sz, ← h1]
    have : ∀ (l : List t.D), (∀ x ∈ l, t.wf x) → (l.flatMap t.cells).length = l.length * t.sz := by
      intro l
      induction l with
      | nil => intro _; simp
      | cons x l ih => intro hl; simp [List.flatMap_cons, cells_len t x (hl x (by simp)), ih fun y hy => hl y (by simp [hy]), Nat.succ_mul]; omega
    exact this l h2

theorem mapM_get {α β : Type} {f : α → Option β} : ∀ {l : List α} {r : List β}, l.mapM f = some r → r.length = l.length ∧ ∀ (i : Nat) (x : α), l[i]? = some x → ∃ y, f x = some y ∧ r[i]? = some y
  | [], r, h => by simp at h; subst h; simp
  | a :: l, r, h => by
    simp only [List.mapM_cons, Option.bind_eq_bind, Option.bind_eq_some_iff] at h
    obtain ⟨y, hy, ys, hys, e⟩ := h
    simp at e; subst e
    obtain ⟨h1, h2⟩ := mapM_get hys
    refine ⟨by simp [h1], fun i x hx => ?_⟩
    cases i with
    | zero => simp at hx; subst hx; exact ⟨y, hy, rfl⟩
    | succ i => simpa using h2 i x (by simpa using hx)

/-- Many, one behind the other. -/
theorem many {t : Ty} {c : Ctx} {n : Nat} : ∀ {cs : List Value}, (∀ i, i < n → ∃ x : t.D, t.wf x ∧ VRels c W (t.cells x) ((cs.drop (i * t.sz)).take t.sz)) → n * t.sz ≤ cs.length →
    ∃ l : List t.D, l.length = n ∧ (∀ x ∈ l, t.wf x) ∧ VRels c W (l.flatMap t.cells) (cs.take (n * t.sz)) := by
  induction n with
  | zero => intro cs _ _; exact ⟨[], rfl, by simp, by simp [VRels]⟩
  | succ n ih =>
    intro cs hx hl
    obtain ⟨x, h1, h2⟩ := hx 0 (by omega)
    rw [Nat.succ_mul] at hl
    obtain ⟨l, h3, h4, h5⟩ := ih (cs := cs.drop t.sz) (fun i hi => by
      obtain ⟨y, g1, g2⟩ := hx (i + 1) (by omega)
      refine ⟨y, g1, ?_⟩
      rw [List.drop_drop, show t.sz + i * t.sz = (i + 1) * t.sz by rw [Nat.succ_mul]; omega]
      exact g2) (by simp; omega)
    refine ⟨x :: l, by simp [h3], by simpa using ⟨h1, h4⟩, ?_⟩
    rw [List.flatMap_cons, Nat.succ_mul, Nat.add_comm, List.take_add]
    refine VRels_append ?_ h5
    simpa using h2

mutual
theorem open_ty : ∀ (ty : Ty) (t : TypeId) (fuel : Nat) (cs : List Value) (x : DataW H × List MemPlace), (∀ b, spare b = true) → okTy P ty t = true → DataW.trod enc P W 0 spare true fuel t cs = some x →
    ∃ d : ty.D, ty.wf d ∧ VRels (only (inF W)) W (ty.cells d) cs := by
  intro ty t fuel cs x hs ho h
  match ty with
  | .int k =>
    simp only [okTy] at ho
    split at ho <;> try (cases ho; done)
    rename_i k' hu
    simp only [beq_iff_eq] at ho
    subst ho
    obtain ⟨n, rfl, _, hw⟩ := DataW.trod_int hu h
    exact ⟨n, hw, by simp [Ty.cells, VRels, VRel]⟩
  | .bool =>
    simp only [okTy] at ho
    split at ho <;> try (cases ho; done)
    rename_i hu
    obtain ⟨b, rfl, _⟩ := DataW.trod_bool hu h
    exact ⟨b, trivial, by simp [Ty.cells, VRels, VRel]⟩
  | .str =>
    simp only [okTy] at ho
    split at ho <;> try (cases ho; done)
    rename_i hu
    obtain ⟨s, rfl, _, hl⟩ := DataW.trod_string hu h
    refine ⟨s.data.toList, ?_, ?_⟩
    · simp only [ByteArray.size, maxLen] at hl
      simp only [Ty.wf, Array.length_toList]
      omega
    · simp [Ty.cells, VRels, VRel]
  | .unit => simp [okTy] at ho
  | .pair a b => simp [okTy] at ho
  | .st fs =>
    simp only [okTy] at ho
    split at ho <;> try (cases ho; done)
    rename_i l hu
    simp only [Bool.and_eq_true, beq_iff_eq] at ho
    obtain ⟨ho, hsz⟩ := ho
    cases fuel with
    | zero => simp [DataW.trod] at h
    | succ n =>
      unfold DataW.trod at h
      rw [hu] at h
      split at h <;> first | (simp_all; done) | skip
      rename_i fs' he
      injection he with he; injection he with he; subst he
      split at h
      · rename_i hl
        simp only [Option.map_eq_some_iff] at h
        obtain ⟨xs, hm, _⟩ := h
        obtain ⟨d, h1, h2⟩ := open_fs fs l.toList 0 n _ xs hs ho hm (by omega)
        refine ⟨d, h1, ?_⟩
        simpa [Ty.cells, ← hsz, ← hl] using h2
      · cases h
  | .arr m e =>
    simp only [okTy] at ho
    split at ho <;> try (cases ho; done)
    rename_i m' u hu
    simp only [Bool.and_eq_true, beq_iff_eq] at ho
    obtain ⟨⟨⟨rfl, ho⟩, hsz⟩, hst⟩ := ho
    cases fuel with
    | zero => simp [DataW.trod] at h
    | succ n =>
      unfold DataW.trod at h
      rw [hu] at h
      split at h <;> first | (simp_all; done) | skip
      rename_i m' u' he
      injection he with he; injection he with he1 he2; subst he1; subst he2
      split at h
      · rename_i hl
        simp only [Option.map_eq_some_iff] at h
        obtain ⟨xs, hm, _⟩ := h
        obtain ⟨g1, g2⟩ := mapM_get hm
        rw [hst] at hl
        obtain ⟨l, k1, k2, k3⟩ := many (t := e) (c := only (inF W)) (n := m) (fun i hi => by
          obtain ⟨y, hy, _⟩ := g2 i i (by simp [hi])
          rw [hsz] at hy
          exact open_ty e u n _ y hs ho hy) (by omega)
        refine ⟨l, ⟨k1, k2⟩, ?_⟩
        rw [← hl, List.take_length] at k3
        exact k3
      · cases h
  | .sl e =>
    simp only [okTy] at ho
    split at ho <;> try (cases ho; done)
    rename_i u hu
    simp only [Bool.and_eq_true, beq_iff_eq, Nat.blt_eq] at ho
    obtain ⟨⟨ho, hsz⟩, hpos⟩ := ho
    rcases DataW.trod_slice hu h with ⟨rfl, _⟩ | ⟨a, len, cap, elems, rest, n, _, rfl, _, _, hl, hm, hlen, hel, hsp, hns⟩
    · exact ⟨[], ⟨by simp, by simp⟩, by simp [Ty.cells, VRels, VRel]⟩
    obtain ⟨hrl, hr⟩ := hsp (hs _)
    have each : ∀ i, i < cap → ∃ cs, (w' : W.cells? 0 (a.add (i * e.sz)) e.sz = some cs) → True := fun _ _ => ⟨[], fun _ => trivial⟩
    have each : ∀ i, i < cap → ∃ cs y, W.cells? 0 (a.add (i * e.sz)) e.sz = some cs ∧ DataW.trod enc P W 0 spare true n u cs = some y := by
      intro i hi
      by_cases hil : i < len
      · have h1 := hel i hil
        rw [List.getElem?_eq_getElem (by omega), hsz, Option.bind_eq_some_iff] at h1
        obtain ⟨cs, hcs, hy⟩ := h1
        exact ⟨cs, _, hcs, hy⟩
      · have h1 := hr (i - len) (by omega)
        rw [show len + (i - len) = i by omega, List.getElem?_eq_getElem (by omega), hsz, Option.bind_eq_some_iff] at h1
        obtain ⟨cs, hcs, hy⟩ := h1
        exact ⟨cs, _, hcs, hy⟩
    by_cases h0 : cap = 0
    · have : len = 0 := by omega
      subst h0; subst this
      exact ⟨[], ⟨by simp, by simp⟩, by simp [Ty.cells, VRels, VRel]⟩
    have cellsAt : ∀ i cs, W.cells? 0 (a.add (i * e.sz)) e.sz = some cs → cs.length = e.sz ∧ ∀ j, j < e.sz → W.cell? ((a.add (i * e.sz)).add j) = cs[j]? := by
      intro i cs hcs
      unfold World.cells? at hcs
      rw [if_pos (Nat.zero_le _)] at hcs
      obtain ⟨g1, g2⟩ := mapM_get hcs
      refine ⟨by simpa using g1, fun j hj => ?_⟩
      obtain ⟨y, k1, k2⟩ := g2 j j (by simp [hj])
      rw [k1, k2]
    obtain ⟨cs0, y0, hc0, _⟩ := each 0 (by omega)
    obtain ⟨q1, q2⟩ := cellsAt 0 cs0 hc0
    have hcell0 := q2 0 hpos
    rw [List.getElem?_eq_getElem (by omega)] at hcell0
    obtain ⟨b, off, spot⟩ := a
    have hspot : spot = none := by simpa [Addr.add] using World.cell?_spot hcell0
    subst hspot
    have hb : ∃ C e fr, W.heap[b]? = some (.cells C e fr) := by
      unfold World.cell? at hcell0
      split at hcell0
      · rename_i C e fr hh; exact ⟨C, e, fr, by simpa [Addr.add] using hh⟩
      · cases hcell0
    obtain ⟨C, et, fr, hb⟩ := hb
    have hcell : ∀ i cs, W.cells? 0 ((⟨b, off, none⟩ : Addr).add (i * e.sz)) e.sz = some cs → i < cap → (C.toList.drop (off + i * e.sz)).take e.sz = cs := by
      intro i cs hcs hi
      obtain ⟨k1, k2⟩ := cellsAt i cs hcs
      refine List.ext_getElem? fun j => ?_
      by_cases hj : j < e.sz
      · rw [List.getElem?_take_of_lt hj, List.getElem?_drop, ← k2 j hj]
        rw [Go.WideShapes.add_plain, Go.WideShapes.add_plain]
        unfold World.cell?
        simp only [hb, Option.isSome_none, Bool.false_eq_true, if_false]
        rw [Array.getElem?_toList]
      · rw [List.getElem?_eq_none (by simp; omega), List.getElem?_eq_none (by omega)]
    have hCs : len * e.sz ≤ (C.toList.drop off).length := by
      by_cases hl0 : len = 0
      · subst hl0; simp
      obtain ⟨cs, y, hcs, _⟩ := each (len - 1) (by omega)
      have h1 := hcell (len - 1) cs hcs (by omega)
      obtain ⟨k1, _⟩ := cellsAt (len - 1) cs hcs
      have h2 := congrArg List.length h1
      rw [k1, List.length_take, List.length_drop] at h2
      rw [List.length_drop]
      have h3 : len * e.sz = (len - 1) * e.sz + e.sz := by
        rw [← Nat.succ_mul]; congr 1; omega
      omega
    obtain ⟨l, k1, k2, k3⟩ := many (t := e) (c := only (inF W)) (n := len) (cs := C.toList.drop off) (fun i hi => by
      obtain ⟨cs, y, hcs, hy⟩ := each i (by omega)
      rw [List.drop_drop, hcell i cs hcs (by omega)]
      exact open_ty e u n cs y hs ho hy) hCs
    refine ⟨l, ⟨by simp [maxLen] at hm; omega, k2⟩, ?_⟩
    simp only [Ty.cells, VRels, VRel]
    have hll : (l.flatMap e.cells).length = l.length * e.sz := cells_len (.arr l.length e) l ⟨rfl, k2⟩
    refine ⟨_, [], rfl, .inr ⟨b, off, cap, C, et, fr, by rw [k1], by omega, hll, lt_of_heap hb, hb, ?_⟩, rfl⟩
    have := VPre_pad (vs := (C.toList.drop off).drop (len * e.sz)) k3
    rwa [List.take_append_drop] at this
termination_by structural ty => ty
theorem open_fs : ∀ (ty : Ty) (fs : List Field) (off fuel : Nat) (cs : List Value) (xs : List (DataW H × List MemPlace)), (∀ b, spare b = true) → okFs P ty fs off = true →
    (fs.mapM fun f => DataW.trod enc P W 0 spare true fuel f.type ((cs.drop f.offset).take (P.cellsOf f.type))) = some xs → off + ty.sz ≤ cs.length →
    ∃ d : ty.D, ty.wf d ∧ VRels (only (inF W)) W (ty.cells d) ((cs.drop off).take ty.sz) := by
  intro ty fs off fuel cs xs hs ho h hl
  match ty with
  | .unit => exact ⟨(), trivial, by simp [Ty.cells, VRels, Ty.sz]⟩
  | .pair a b =>
    cases fs with
    | nil => simp [okFs] at ho
    | cons f fs =>
      simp only [okFs, Bool.and_eq_true, beq_iff_eq] at ho
      obtain ⟨⟨⟨rfl, h1⟩, h2⟩, h3⟩ := ho
      simp only [List.mapM_cons, Option.bind_eq_bind, Option.bind_eq_some_iff] at h
      obtain ⟨y, hy, ys, hys, _⟩ := h
      rw [h2] at hy
      simp only [Ty.sz] at hl
      obtain ⟨d1, g1, g2⟩ := open_ty a f.type fuel _ y hs h1 hy
      obtain ⟨d2, g3, g4⟩ := open_fs b fs (f.offset + a.sz) fuel cs ys hs h3 hys (by omega)
      refine ⟨(d1, d2), ⟨g1, g3⟩, ?_⟩
      simp only [Ty.cells, Ty.sz]
      rw [List.take_add]
      refine VRels_append g2 ?_
      rw [List.drop_drop]
      exact g4
  | .int _ => simp [okFs] at ho
  | .bool => simp [okFs] at ho
  | .str => simp [okFs] at ho
  | .arr _ _ => simp [okFs] at ho
  | .sl _ => simp [okFs] at ho
  | .st _ => simp [okFs] at ho
termination_by structural ty => ty
end

def Ty.val : (t : Ty) → t.D → AV
  | .arr n t, d => .agg (Ty.cells (.arr n t) d)
  | .st fs, d => .agg (Ty.cells (.st fs) d)
  | .int k, n => .int k n
  | .bool, b => .bool b
  | .str, s => .str s
  | .sl t, l => .fsl (List.flatMap (Ty.cells t) l) (List.length l) t.sz
  | .unit, _ => .any
  | .pair _ _, _ => .any

/-- An argument that came in. -/
theorem arg_in (ty : Ty) {t : TypeId} {base : Nat} {v : Value} {d : DataW H} {ps : List MemPlace} (ho : okTy P ty t = true) (hv : Value.okWide P W .any base t v) (h : DataW.Trod enc P W 0 (fun _ => true) true t v d ps) :
    ∃ d : ty.D, ty.wf d ∧ VRel (only (inF W)) W (ty.val d) v := by
  obtain ⟨fuel, h⟩ := h
  obtain ⟨d, h1, h2⟩ := open_ty (spare := fun _ => true) ty t fuel _ _ (fun _ => rfl) ho h
  refine ⟨d, h1, ?_⟩
  have one : ∀ (u : AV), VRels (only (inF W)) W [u] v.cells.toList → (∀ cs, v ≠ .agg cs) → VRel (only (inF W)) W u v := by
    intro u hu hn
    have : v.cells = #[v] := by cases v <;> first | rfl | exact absurd rfl (hn _)
    rw [this] at hu
    simp only [VRels] at hu
    obtain ⟨v', vs', e, h3, _⟩ := hu
    cases e; exact h3
  cases ty with
  | unit => simp [okTy] at ho
  | pair a b => simp [okTy] at ho
  | arr n e =>
    simp only [okTy] at ho
    split at ho <;> try (cases ho; done)
    rename_i hu
    simp only [Value.okWide, hu] at hv
    obtain ⟨cs, rfl, _⟩ := hv
    simp only [Ty.val, VRel]
    exact ⟨_, rfl, h2⟩
  | st fs =>
    simp only [okTy] at ho
    split at ho <;> try (cases ho; done)
    rename_i hu
    simp only [Value.okWide, hu] at hv
    obtain ⟨cs, rfl, _⟩ := hv
    simp only [Ty.val, VRel]
    exact ⟨_, rfl, h2⟩
  | int k =>
    refine one _ h2 ?_
    rintro cs rfl
    simp only [okTy] at ho
    split at ho <;> try (cases ho; done)
    rename_i hu
    simp [Value.okWide, hu, Cell.okWide, Cell.ok] at hv
  | bool =>
    refine one _ h2 ?_
    rintro cs rfl
    simp only [okTy] at ho
    split at ho <;> try (cases ho; done)
    rename_i hu
    simp [Value.okWide, hu, Cell.okWide, Cell.ok] at hv
  | str =>
    refine one _ h2 ?_
    rintro cs rfl
    simp only [okTy] at ho
    split at ho <;> try (cases ho; done)
    rename_i hu
    simp [Value.okWide, hu, Cell.okWide, Cell.ok] at hv
  | sl e =>
    refine one _ h2 ?_
    rintro cs rfl
    simp only [okTy] at ho
    split at ho <;> try (cases ho; done)
    rename_i hu
    simp [Value.okWide, hu, Cell.okWide, Cell.ok] at hv
end
end Go.AM
