/- A part of the proof of InvariantMinimal: lemmas on the way (AmU, AmUa, AmNj, AmNk, AmNm, AmNn, AmNo, AmMa, AmQe, AmMb, AmMd, AmMe, AmMf, AmMg, AmKa, AmKb, AmKc, AmKd, AmKx). Conditions: none of ours. -/
import Derived.OpenShut
import Derived.Test.YteaeobmbfhaklaaProg
import Derived.KernelRfl
import Derived.Test.YteaeobmbfhaklaaAmZ7
set_option linter.unusedSectionVars false
namespace Go.AM
open Go.ChangeShapes Go.WideShapes
set_option linter.unusedVariables false
def inF (w : World) (k : Nat) : Prop := k < w.heap.size
end Go.AM
namespace Go.AM
open Go.ChangeShapes Go.WideShapes
set_option linter.unusedVariables false
set_option linter.unusedSimpArgs false
inductive Ty where
  | int (k : IntKind)
  | bool
  | str
  | arr (n : Nat) (t : Ty)
  | sl (t : Ty)
  | st (fs : Ty)
  | unit
  | pair (a b : Ty)
def Ty.sz : Ty → Nat
  | .int _ | .bool | .str | .sl _ => 1
  | .arr n t => n * t.sz
  | .st fs => fs.sz
  | .unit => 0
  | .pair a b => a.sz + b.sz
abbrev Ty.D : Ty → Type
  | .int _ => Int
  | .bool => Bool
  | .str => List UInt8
  | .arr _ t | .sl t => List t.D
  | .st fs => fs.D
  | .unit => Unit
  | .pair a b => a.D × b.D
def Ty.cells : (t : Ty) → t.D → List AV
  | .int k, n => [.int k n]
  | .bool, b => [.bool b]
  | .str, s => [.str s]
  | .arr _ t, l => List.flatMap (Ty.cells t) l
  | .sl t, l => [.fsl (List.flatMap (Ty.cells t) l) (List.length l) t.sz]
  | .st fs, d => Ty.cells fs d
  | .unit, _ => []
  | .pair a b, d => Ty.cells a d.1 ++ Ty.cells b d.2
def Ty.wf : (t : Ty) → t.D → Prop
  | .int k, n => (Lit.int k n).wf = true
  | .bool, _ => True
  | .str, s => List.length s ≤ 9223372036854775807
  | .arr n t, l => List.length l = n ∧ ∀ x ∈ (show List t.D from l), Ty.wf t x
  | .sl t, l => List.length l ≤ 9223372036854775807 ∧ ∀ x ∈ (show List t.D from l), Ty.wf t x
  | .st fs, d => Ty.wf fs d
  | .unit, _ => True
  | .pair a b, d => Ty.wf a d.1 ∧ Ty.wf b d.2
mutual
def okTy (P : Program) : Ty → TypeId → Bool
  | .int k, t => match P.underlying t with | some (.int k') => k' == k | _ => false
  | .bool, t => match P.underlying t with | some .bool => true | _ => false
  | .str, t => match P.underlying t with | some .string => true | _ => false
  | .arr n e, t => match P.underlying t with | some (.array m u) => n == m && okTy P e u && P.cellsOf u == e.sz && P.cellsOf t == n * e.sz | _ => false
  | .sl e, t => match P.underlying t with | some (.slice u) => okTy P e u && P.cellsOf u == e.sz && Nat.blt 0 e.sz | _ => false
  | .st fs, t => match P.underlying t with | some (.struct l) => okFs P fs l.toList 0 && P.cellsOf t == fs.sz | _ => false
  | _, _ => false
termination_by structural ty => ty
def okFs (P : Program) : Ty → List Field → Nat → Bool
  | .unit, l, _ => match l with | [] => true | _ => false
  | .pair a b, l, off => match l with | f :: l => f.offset == off && okTy P a f.type && P.cellsOf f.type == a.sz && okFs P b l (off + a.sz) | _ => false
  | _, _, _ => false
termination_by structural ty => ty
end
section
variable {H : Type} {enc : TypeId × Value → H} {P : Program} {W : World} {spare : Nat → Bool}
theorem cells_len : ∀ (t : Ty) (d : t.D), t.wf d → (t.cells d).length = t.sz
  | .int _, _, _ => rfl
  | .bool, _, _ => rfl
  | .str, _, _ => rfl
  | .sl _, _, _ => rfl
  | .unit, _, _ => rfl
  | .st fs, d, h => cells_len fs d h
  | .pair a b, d, h => by
    simp only [Ty.cells, Ty.sz, List.length_append, cells_len a d.1 h.1, cells_len b d.2 h.2]
  | .arr n t, l, h => by
    obtain ⟨h1, h2⟩ := h
    simp only [Ty.cells, Ty.sz, ← h1]
    have : ∀ (l : List t.D), (∀ x ∈ l, t.wf x) → (l.flatMap t.cells).length = l.length * t.sz := by
      intro l
      induction l with
      | nil => intro _; simp
      | cons x l ih => intro hl; simp [List.flatMap_cons, cells_len t x (hl x (by simp)), ih fun y hy => hl y (by simp [hy]), Nat.succ_mul]; omega
    exact this l h2
theorem mapM_get {α β : Type} {f : α → Option β} : ∀ {l : List α} {r : List β}, l.mapM f = some r → r.length = l.length ∧ ∀ (i : Nat) (x : α), l[i]? = some x → ∃ y, f x = some y ∧ r[i]? = some y
  | [], r, h => by simp at h; subst h; simp
  | a :: l, r, h => by
    simp only [List.mapM_cons, Option.bind_eq_bind, Option.bind_eq_some_iff] at h
    obtain ⟨y, hy, ys, hys, e⟩ := h
    simp at e; subst e
    obtain ⟨h1, h2⟩ := mapM_get hys
    refine ⟨by simp [h1], fun i x hx => ?_⟩
    cases i with
    | zero => simp at hx; subst hx; exact ⟨y, hy, rfl⟩
    | succ i => simpa using h2 i x (by simpa using hx)
theorem many {t : Ty} {c : Ctx} {n : Nat} : ∀ {cs : List Value}, (∀ i, i < n → ∃ x : t.D, t.wf x ∧ VRels c W (t.cells x) ((cs.drop (i * t.sz)).take t.sz)) → n * t.sz ≤ cs.length →
    ∃ l : List t.D, l.length = n ∧ (∀ x ∈ l, t.wf x) ∧ VRels c W (l.flatMap t.cells) (cs.take (n * t.sz)) := by
  induction n with
  | zero => intro cs _ _; exact ⟨[], rfl, by simp, by simp [VRels]⟩
  | succ n ih =>
    intro cs hx hl
    obtain ⟨x, h1, h2⟩ := hx 0 (by omega)
    rw [Nat.succ_mul] at hl
    obtain ⟨l, h3, h4, h5⟩ := ih (cs := cs.drop t.sz) (fun i hi => by
      obtain ⟨y, g1, g2⟩ := hx (i + 1) (by omega)
      refine ⟨y, g1, ?_⟩
      rw [List.drop_drop, show t.sz + i * t.sz = (i + 1) * t.sz by rw [Nat.succ_mul]; omega]
      exact g2) (by simp; omega)
    refine ⟨x :: l, by simp [h3], by simpa using ⟨h1, h4⟩, ?_⟩
    rw [List.flatMap_cons, Nat.succ_mul, Nat.add_comm, List.take_add]
    refine VRels_append ?_ h5
    simpa using h2
mutual
theorem open_ty : ∀ (ty : Ty) (t : TypeId) (fuel : Nat) (cs : List Value) (x : DataW H × List MemPlace), (∀ b, spare b = true) → okTy P ty t = true → DataW.trod enc P W 0 spare true fuel t cs = some x →
    ∃ d : ty.D, ty.wf d ∧ VRels (only (inF W)) W (ty.cells d) cs := by
  intro ty t fuel cs x hs ho h
  match ty with
  | .int k =>
    simp only [okTy] at ho
    split at ho <;> try (cases ho; done)
    rename_i k' hu
    simp only [beq_iff_eq] at ho
    subst ho
    obtain ⟨n, rfl, _, hw⟩ := DataW.trod_int hu h
    exact ⟨n, hw, by simp [Ty.cells, VRels, VRel]⟩
  | .bool =>
    simp only [okTy] at ho
    split at ho <;> try (cases ho; done)
    rename_i hu
    obtain ⟨b, rfl, _⟩ := DataW.trod_bool hu h
    exact ⟨b, trivial, by simp [Ty.cells, VRels, VRel]⟩
  | .str =>
    simp only [okTy] at ho
    split at ho <;> try (cases ho; done)
    rename_i hu
    obtain ⟨s, rfl, _, hl⟩ := DataW.trod_string hu h
    refine ⟨s.data.toList, ?_, ?_⟩
    · simp only [ByteArray.size, maxLen] at hl
      simp only [Ty.wf, Array.length_toList]
      omega
    · simp [Ty.cells, VRels, VRel]
  | .unit => simp [okTy] at ho
  | .pair a b => simp [okTy] at ho
  | .st fs =>
    simp only [okTy] at ho
    split at ho <;> try (cases ho; done)
    rename_i l hu
    simp only [Bool.and_eq_true, beq_iff_eq] at ho
    obtain ⟨ho, hsz⟩ := ho
    cases fuel with
    | zero => simp [DataW.trod] at h
    | succ n =>
      unfold DataW.trod at h
      rw [hu] at h
      split at h <;> first | (simp_all; done) | skip
      rename_i fs' he
      injection he with he; injection he with he; subst he
      split at h
      · rename_i hl
        simp only [Option.map_eq_some_iff] at h
        obtain ⟨xs, hm, _⟩ := h
        obtain ⟨d, h1, h2⟩ := open_fs fs l.toList 0 n _ xs hs ho hm (by omega)
        refine ⟨d, h1, ?_⟩
        simpa [Ty.cells, ← hsz, ← hl] using h2
      · cases h
  | .arr m e =>
    simp only [okTy] at ho
    split at ho <;> try (cases ho; done)
    rename_i m' u hu
    simp only [Bool.and_eq_true, beq_iff_eq] at ho
    obtain ⟨⟨⟨rfl, ho⟩, hsz⟩, hst⟩ := ho
    cases fuel with
    | zero => simp [DataW.trod] at h
    | succ n =>
      unfold DataW.trod at h
      rw [hu] at h
      split at h <;> first | (simp_all; done) | skip
      rename_i m' u' he
      injection he with he; injection he with he1 he2; subst he1; subst he2
      split at h
      · rename_i hl
        simp only [Option.map_eq_some_iff] at h
        obtain ⟨xs, hm, _⟩ := h
        obtain ⟨g1, g2⟩ := mapM_get hm
        rw [hst] at hl
        obtain ⟨l, k1, k2, k3⟩ := many (t := e) (c := only (inF W)) (n := m) (fun i hi => by
          obtain ⟨y, hy, _⟩ := g2 i i (by simp [hi])
          rw [hsz] at hy
          exact open_ty e u n _ y hs ho hy) (by omega)
        refine ⟨l, ⟨k1, k2⟩, ?_⟩
        rw [← hl, List.take_length] at k3
        exact k3
      · cases h
  | .sl e =>
    simp only [okTy] at ho
    split at ho <;> try (cases ho; done)
    rename_i u hu
    simp only [Bool.and_eq_true, beq_iff_eq, Nat.blt_eq] at ho
    obtain ⟨⟨ho, hsz⟩, hpos⟩ := ho
    rcases DataW.trod_slice hu h with ⟨rfl, _⟩ | ⟨a, len, cap, elems, rest, n, _, rfl, _, _, hl, hm, hlen, hel, hsp, hns⟩
    · exact ⟨[], ⟨by simp, by simp⟩, by simp [Ty.cells, VRels, VRel]⟩
    obtain ⟨hrl, hr⟩ := hsp (hs _)
    have each : ∀ i, i < cap → ∃ cs, (w' : W.cells? 0 (a.add (i * e.sz)) e.sz = some cs) → True := fun _ _ => ⟨[], fun _ => trivial⟩
    have each : ∀ i, i < cap → ∃ cs y, W.cells? 0 (a.add (i * e.sz)) e.sz = some cs ∧ DataW.trod enc P W 0 spare true n u cs = some y := by
      intro i hi
      by_cases hil : i < len
      · have h1 := hel i hil
        rw [List.getElem?_eq_getElem (by omega), hsz, Option.bind_eq_some_iff] at h1
        obtain ⟨cs, hcs, hy⟩ := h1
        exact ⟨cs, _, hcs, hy⟩
      · have h1 := hr (i - len) (by omega)
        rw [show len + (i - len) = i by omega, List.getElem?_eq_getElem (by omega), hsz, Option.bind_eq_some_iff] at h1
        obtain ⟨cs, hcs, hy⟩ := h1
        exact ⟨cs, _, hcs, hy⟩
    by_cases h0 : cap = 0
    · have : len = 0 := by omega
      subst h0; subst this
      exact ⟨[], ⟨by simp, by simp⟩, by simp [Ty.cells, VRels, VRel]⟩
    have cellsAt : ∀ i cs, W.cells? 0 (a.add (i * e.sz)) e.sz = some cs → cs.length = e.sz ∧ ∀ j, j < e.sz → W.cell? ((a.add (i * e.sz)).add j) = cs[j]? := by
      intro i cs hcs
      unfold World.cells? at hcs
      rw [if_pos (Nat.zero_le _)] at hcs
      obtain ⟨g1, g2⟩ := mapM_get hcs
      refine ⟨by simpa using g1, fun j hj => ?_⟩
      obtain ⟨y, k1, k2⟩ := g2 j j (by simp [hj])
      rw [k1, k2]
    obtain ⟨cs0, y0, hc0, _⟩ := each 0 (by omega)
    obtain ⟨q1, q2⟩ := cellsAt 0 cs0 hc0
    have hcell0 := q2 0 hpos
    rw [List.getElem?_eq_getElem (by omega)] at hcell0
    obtain ⟨b, off, spot⟩ := a
    have hspot : spot = none := by simpa [Addr.add] using World.cell?_spot hcell0
    subst hspot
    have hb : ∃ C e fr, W.heap[b]? = some (.cells C e fr) := by
      unfold World.cell? at hcell0
      split at hcell0
      · rename_i C e fr hh; exact ⟨C, e, fr, by simpa [Addr.add] using hh⟩
      · cases hcell0
    obtain ⟨C, et, fr, hb⟩ := hb
    have hcell : ∀ i cs, W.cells? 0 ((⟨b, off, none⟩ : Addr).add (i * e.sz)) e.sz = some cs → i < cap → (C.toList.drop (off + i * e.sz)).take e.sz = cs := by
      intro i cs hcs hi
      obtain ⟨k1, k2⟩ := cellsAt i cs hcs
      refine List.ext_getElem? fun j => ?_
      by_cases hj : j < e.sz
      · rw [List.getElem?_take_of_lt hj, List.getElem?_drop, ← k2 j hj]
        rw [Go.WideShapes.add_plain, Go.WideShapes.add_plain]
        unfold World.cell?
        simp only [hb, Option.isSome_none, Bool.false_eq_true, if_false]
        rw [Array.getElem?_toList]
      · rw [List.getElem?_eq_none (by simp; omega), List.getElem?_eq_none (by omega)]
    have hCs : len * e.sz ≤ (C.toList.drop off).length := by
      by_cases hl0 : len = 0
      · subst hl0; simp
      obtain ⟨cs, y, hcs, _⟩ := each (len - 1) (by omega)
      have h1 := hcell (len - 1) cs hcs (by omega)
      obtain ⟨k1, _⟩ := cellsAt (len - 1) cs hcs
      have h2 := congrArg List.length h1
      rw [k1, List.length_take, List.length_drop] at h2
      rw [List.length_drop]
      have h3 : len * e.sz = (len - 1) * e.sz + e.sz := by
        rw [← Nat.succ_mul]; congr 1; omega
      omega
    obtain ⟨l, k1, k2, k3⟩ := many (t := e) (c := only (inF W)) (n := len) (cs := C.toList.drop off) (fun i hi => by
      obtain ⟨cs, y, hcs, hy⟩ := each i (by omega)
      rw [List.drop_drop, hcell i cs hcs (by omega)]
      exact open_ty e u n cs y hs ho hy) hCs
    refine ⟨l, ⟨by simp [maxLen] at hm; omega, k2⟩, ?_⟩
    simp only [Ty.cells, VRels, VRel]
    have hll : (l.flatMap e.cells).length = l.length * e.sz := cells_len (.arr l.length e) l ⟨rfl, k2⟩
    refine ⟨_, [], rfl, .inr ⟨b, off, cap, C, et, fr, by rw [k1], by omega, hll, lt_of_heap hb, hb, ?_⟩, rfl⟩
    have := VPre_pad (vs := (C.toList.drop off).drop (len * e.sz)) k3
    rwa [List.take_append_drop] at this
termination_by structural ty => ty
theorem open_fs : ∀ (ty : Ty) (fs : List Field) (off fuel : Nat) (cs : List Value) (xs : List (DataW H × List MemPlace)), (∀ b, spare b = true) → okFs P ty fs off = true →
    (fs.mapM fun f => DataW.trod enc P W 0 spare true fuel f.type ((cs.drop f.offset).take (P.cellsOf f.type))) = some xs → off + ty.sz ≤ cs.length →
    ∃ d : ty.D, ty.wf d ∧ VRels (only (inF W)) W (ty.cells d) ((cs.drop off).take ty.sz) := by
  intro ty fs off fuel cs xs hs ho h hl
  match ty with
  | .unit => exact ⟨(), trivial, by simp [Ty.cells, VRels, Ty.sz]⟩
  | .pair a b =>
    cases fs with
    | nil => simp [okFs] at ho
    | cons f fs =>
      simp only [okFs, Bool.and_eq_true, beq_iff_eq] at ho
      obtain ⟨⟨⟨rfl, h1⟩, h2⟩, h3⟩ := ho
      simp only [List.mapM_cons, Option.bind_eq_bind, Option.bind_eq_some_iff] at h
      obtain ⟨y, hy, ys, hys, _⟩ := h
      rw [h2] at hy
      simp only [Ty.sz] at hl
      obtain ⟨d1, g1, g2⟩ := open_ty a f.type fuel _ y hs h1 hy
      obtain ⟨d2, g3, g4⟩ := open_fs b fs (f.offset + a.sz) fuel cs ys hs h3 hys (by omega)
      refine ⟨(d1, d2), ⟨g1, g3⟩, ?_⟩
      simp only [Ty.cells, Ty.sz]
      rw [List.take_add]
      refine VRels_append g2 ?_
      rw [List.drop_drop]
      exact g4
  | .int _ => simp [okFs] at ho
  | .bool => simp [okFs] at ho
  | .str => simp [okFs] at ho
  | .arr _ _ => simp [okFs] at ho
  | .sl _ => simp [okFs] at ho
  | .st _ => simp [okFs] at ho
termination_by structural ty => ty
end
def Ty.val : (t : Ty) → t.D → AV
  | .arr n t, d => .agg (Ty.cells (.arr n t) d)
  | .st fs, d => .agg (Ty.cells (.st fs) d)
  | .int k, n => .int k n
  | .bool, b => .bool b
  | .str, s => .str s
  | .sl t, l => .fsl (List.flatMap (Ty.cells t) l) (List.length l) t.sz
  | .unit, _ => .any
  | .pair _ _, _ => .any
theorem arg_in (ty : Ty) {t : TypeId} {base : Nat} {v : Value} {d : DataW H} {ps : List MemPlace} (ho : okTy P ty t = true) (hv : Value.okWide P W .any base t v) (h : DataW.Trod enc P W 0 (fun _ => true) true t v d ps) :
    ∃ d : ty.D, ty.wf d ∧ VRel (only (inF W)) W (ty.val d) v := by
  obtain ⟨fuel, h⟩ := h
  obtain ⟨d, h1, h2⟩ := open_ty (spare := fun _ => true) ty t fuel _ _ (fun _ => rfl) ho h
  refine ⟨d, h1, ?_⟩
  have one : ∀ (u : AV), VRels (only (inF W)) W [u] v.cells.toList → (∀ cs, v ≠ .agg cs) → VRel (only (inF W)) W u v := by
    intro u hu hn
    have : v.cells = #[v] := by cases v <;> first | rfl | exact absurd rfl (hn _)
    rw [this] at hu
    simp only [VRels] at hu
    obtain ⟨v', vs', e, h3, _⟩ := hu
    cases e; exact h3
  cases ty with
  | unit => simp [okTy] at ho
  | pair a b => simp [okTy] at ho
  | arr n e =>
    simp only [okTy] at ho
    split at ho <;> try (cases ho; done)
    rename_i hu
    simp only [Value.okWide, hu] at hv
    obtain ⟨cs, rfl, _⟩ := hv
    simp only [Ty.val, VRel]
    exact ⟨_, rfl, h2⟩
  | st fs =>
    simp only [okTy] at ho
    split at ho <;> try (cases ho; done)
    rename_i hu
    simp only [Value.okWide, hu] at hv
    obtain ⟨cs, rfl, _⟩ := hv
    simp only [Ty.val, VRel]
    exact ⟨_, rfl, h2⟩
  | int k =>
    refine one _ h2 ?_
    rintro cs rfl
    simp only [okTy] at ho
    split at ho <;> try (cases ho; done)
    rename_i hu
    simp [Value.okWide, hu, Cell.okWide, Cell.ok] at hv
  | bool =>
    refine one _ h2 ?_
    rintro cs rfl
    simp only [okTy] at ho
    split at ho <;> try (cases ho; done)
    rename_i hu
    simp [Value.okWide, hu, Cell.okWide, Cell.ok] at hv
  | str =>
    refine one _ h2 ?_
    rintro cs rfl
    simp only [okTy] at ho
    split at ho <;> try (cases ho; done)
    rename_i hu
    simp [Value.okWide, hu, Cell.okWide, Cell.ok] at hv
  | sl e =>
    refine one _ h2 ?_
    rintro cs rfl
    simp only [okTy] at ho
    split at ho <;> try (cases ho; done)
    rename_i hu
    simp [Value.okWide, hu, Cell.okWide, Cell.ok] at hv
end
end Go.AM
namespace Go.AM.SN
open Go.Proofs
set_option maxRecDepth 100000
set_option linter.unusedSimpArgs false
set_option linter.unusedVariables false
abbrev tySm : Ty := .st (.pair (.int .u8) (.pair (.arr 5 (.int .u8)) (.pair (.sl (.arr 5 (.int .u8))) .unit)))
abbrev ty5 : Ty := .arr 5 (.int .u8)
theorem u8_wf {n : Int} (h : (Lit.int .u8 n).wf = true) : 0 ≤ n ∧ n < 256 := by
  simp [Lit.wf, IntKind.min, IntKind.max, IntKind.signed, IntKind.bits] at h
  omega
theorem u8s_in {l : List Int} (h : ∀ x ∈ l, (Lit.int .u8 x).wf = true) : l.flatMap (Ty.cells (.int .u8)) = u8s (l.map Int.toNat) := by
  induction l with
  | nil => rfl
  | cons x l ih =>
    have h1 := u8_wf (h x (by simp))
    rw [List.flatMap_cons, ih fun y hy => h y (by simp [hy])]
    simp only [Ty.cells, u8s, List.map_cons, List.singleton_append]
    rw [Int.toNat_of_nonneg h1.1]
theorem arr5_in {w : ty5.D} (h : ty5.wf w) : ∃ l : List Nat, l.length = 5 ∧ (∀ x ∈ l, x < 256) ∧ ty5.cells w = u8s l := by
  obtain ⟨h1, h2⟩ := h
  refine ⟨(show List Int from w).map Int.toNat, by rw [List.length_map]; exact h1, fun x hx => ?_, u8s_in h2⟩
  obtain ⟨y, hy, rfl⟩ := List.mem_map.1 hx
  have := u8_wf (h2 y hy)
  omega
theorem sm_in {d : tySm.D} (h : tySm.wf d) : ∃ s : Sm, SmOk s ∧ tySm.val d = .agg (smC s) := by
  obtain ⟨pl, ini, mv, _⟩ := d
  obtain ⟨h1, h2, h3, _⟩ := h
  dsimp only at h1 h2 h3
  obtain ⟨li, g1, g2, g3⟩ := arr5_in h2
  have hp := u8_wf h1
  have key : ∀ l : List (List Int), (∀ x ∈ l, ty5.wf x) → l.flatMap ty5.cells = (l.map fun r => r.map Int.toNat).flatMap u8s := by
    intro l
    induction l with
    | nil => intro _; rfl
    | cons r l ih =>
      intro hl
      rw [List.flatMap_cons, ih fun y hy => hl y (by simp [hy]), List.map_cons, List.flatMap_cons]
      congr 1
      exact u8s_in (hl r (by simp)).2
  refine ⟨⟨pl.toNat, li, (show List (List Int) from mv).map fun r => r.map Int.toNat⟩, ⟨by dsimp only; omega, g1, g2, ?_, ?_, ?_⟩, ?_⟩
  · intro r hr
    obtain ⟨q, hq, rfl⟩ := List.mem_map.1 hr
    rw [List.length_map]; exact (h3.2 q hq).1
  · intro r hr x hx
    obtain ⟨q, hq, rfl⟩ := List.mem_map.1 hr
    obtain ⟨y, hy, rfl⟩ := List.mem_map.1 hx
    have := u8_wf ((h3.2 q hq).2 y hy)
    omega
  · rw [List.length_map]; exact h3.1
  · show AV.agg _ = _
    have e1 := key mv h3.2
    congr 1
    simp only [Ty.cells, smC] at e1 g3 ⊢
    rw [g3, Int.toNat_of_nonneg hp.1]
    simp only [List.singleton_append, List.append_nil, List.length_map]
    rw [← e1]
    rfl
theorem colR_bound {x : Nt} (ho : NetOk x) (t : Nat) : ∀ y ∈ colR x t, -8 ≤ y ∧ y ≤ 8 := by
  intro y hy
  simp only [colR, List.mem_map] at hy
  obtain ⟨p, _, rfl⟩ := hy
  rw [List.getD_eq_getElem?_getD]
  cases hk : (incR x p)[t]? with
  | none => simp
  | some z => simpa using incR_bound ho p z (List.mem_of_getElem? hk)
theorem tabR_all {x : Nt} (kind : Int) {q : List Int → Prop} (h1 : ∀ p, q (incR x p)) (h2 : ∀ t, q (colR x t)) : ∀ r ∈ tabR x kind, q r := by
  intro r hr
  unfold tabR at hr
  split at hr
  · simp only [colM, List.mem_map] at hr; obtain ⟨p, _, rfl⟩ := hr; exact h2 p
  · simp only [incM, List.mem_map] at hr; obtain ⟨p, _, rfl⟩ := hr; exact h1 p
theorem rowsR_len (x : Nt) (kind : Int) : (rowsR x kind).length = tabC x kind := by
  unfold rowsR tabC; split <;> simp [incM, colM]
theorem tabR_len (x : Nt) (kind : Int) : ∀ r ∈ tabR x kind, r.length = tabC x kind := by
  unfold tabR tabC
  split
  · intro r hr; simp only [colM, List.mem_map] at hr; obtain ⟨t, _, rfl⟩ := hr; exact colR_len x t
  · intro r hr; simp only [incM, List.mem_map] at hr; obtain ⟨t, _, rfl⟩ := hr; exact incR_len x t
theorem newTable (x : Nt) (ho : NetOk x) (kind : Int) (hk : kind = 1 ∨ kind = 2) : PSpec Try.prog 39 [netV x, .int .i64 kind] (.tup [tabV (tabC x kind) (tabR x kind), .int .i64 0]) := by
  rcases hk with rfl | rfl
  · exact newTable1 x ho
  · exact newTable2 x ho
end Go.AM.SN
namespace Go.AM.SN
open Go.Proofs
set_option maxRecDepth 100000
set_option linter.unusedSimpArgs false
set_option linter.unusedVariables false
theorem noRefs_arcC (l : List (Int × Int)) : noRefs (l.flatMap arcC) = true := noRefs_flat fun _ => rfl
theorem noRefs_tnC (l : List Tn) : noRefs (l.flatMap tnC) = true := noRefs_flat fun t => by simp only [tnC, noRefs, noRef_arcs, Bool.and_true]; rfl
theorem aEq_bool {ks : List LK} {neg a b : Bool} : aEq (.flat false ks) neg (.bool a) (.bool b) = some (.bool (decide (a = b) != neg)) := rfl
theorem tm2 (n : Nat) : Int.tmod (n : Int) 2 = ((n % 2 : Nat) : Int) := rfl
end Go.AM.SN
namespace Go.AM.SN
open Go.Proofs
set_option maxRecDepth 100000
set_option linter.unusedSimpArgs false
set_option linter.unusedVariables false
theorem noRef_lsts (l : List (List Int)) : noRef (lsts l) = true := by simp only [noRef]; exact noRefs_lsts l
def badW (n : Int) : Bool := decide (n < 0 ∨ 65536 < n)
theorem badW_of {n : Int} (h : badW n = false) : okT n := by simp [badW] at h; unfold okT; omega
theorem within1G (n : Int) : PSpec Try.prog 67 [.int .i64 n] (.bool (badW n)) := by
  refine PSpec.of_flat 64 ok67 rfl rfl rfl ?_
  unfold badW
  by_cases h : n < 0
  · simp (maxSteps := 1000000) (disch := omega) only [s67, h, words, Nat.reduceAdd, Nat.reduceEqDiff, Nat.reduceBEq, ↓reduceIte, reduceCtorEq, SX.exit.injEq, if_true, if_false, Int.reduceAdd, Int.reduceSub, Int.reduceMul, Int.reduceLT, Int.reduceLE, Int.reduceEq, Int.reduceNe, Int.reduceNeg, Int.reduceToNat, Nat.reduceMul, Nat.reduceLT, Nat.reduceSub, Nat.reduceLeDiff]
    exact ⟨by simp, _, rfl, by simp [resOf, lk_cons]⟩
  · simp (maxSteps := 1000000) (disch := omega) only [s67, h, words, Nat.reduceAdd, Nat.reduceEqDiff, Nat.reduceBEq, ↓reduceIte, reduceCtorEq, SX.exit.injEq, if_true, if_false, Int.reduceAdd, Int.reduceSub, Int.reduceMul, Int.reduceLT, Int.reduceLE, Int.reduceEq, Int.reduceNe, Int.reduceNeg, Int.reduceToNat, Nat.reduceMul, Nat.reduceLT, Nat.reduceSub, Nat.reduceLeDiff]
    exact ⟨by simp, _, rfl, by simp [resOf, lk_cons]⟩
def firstAt {α : Type} (p : α → Bool) (l : List α) : Int := match l.findIdx? p with | some i => i | none => -1
theorem firstAt_found {α : Type} {p : α → Bool} {l : List α} {i : Nat} {x : α} (hx : l[i]? = some x) (hp : p x = true) (hb : ∀ (j : Nat) (y : α), j < i → l[j]? = some y → p y = false) : firstAt p l = i := by
  unfold firstAt
  have : l.findIdx? p = some i := by
    rw [List.findIdx?_eq_some_iff_getElem]
    obtain ⟨h1, h2⟩ := List.getElem?_eq_some_iff.1 hx
    refine ⟨h1, by rw [h2]; exact hp, fun j hj => ?_⟩
    have := hb j l[j] hj (List.getElem?_eq_getElem (by omega))
    simp [this]
  rw [this]
theorem firstAt_none {α : Type} {p : α → Bool} {l : List α} (hb : ∀ (j : Nat) (y : α), l[j]? = some y → p y = false) : firstAt p l = -1 := by
  unfold firstAt
  have : l.findIdx? p = none := by
    rw [List.findIdx?_eq_none_iff]
    intro x hx
    obtain ⟨j, hj, _⟩ := mem_at hx
    exact hb j x hj
  rw [this]
theorem firstAt_ge {α : Type} (p : α → Bool) (l : List α) : decide (0 ≤ firstAt p l) = l.any p := by
  unfold firstAt
  cases h : l.findIdx? p with
  | none =>
    rw [List.findIdx?_eq_none_iff] at h
    have : l.any p = false := by rw [List.any_eq_false]; intro x hx; simp [h x hx]
    rw [this]; rfl
  | some i =>
    rw [List.findIdx?_eq_some_iff_getElem] at h
    obtain ⟨h1, h2, _⟩ := h
    have : l.any p = true := List.any_eq_true.2 ⟨_, List.getElem_mem h1, h2⟩
    rw [this]; simp
theorem any_of {α : Type} {p : α → Bool} {l : List α} {i : Nat} {x : α} (hx : l[i]? = some x) (hp : p x = true) : l.any p = true := List.any_eq_true.2 ⟨x, List.mem_of_getElem? hx, hp⟩
theorem any_no {α : Type} {p : α → Bool} {l : List α} (hb : ∀ (j : Nat) (y : α), j < l.length → l[j]? = some y → p y = false) : l.any p = false := by
  rw [List.any_eq_false]
  intro x hx
  obtain ⟨j, hj, hl⟩ := mem_at hx
  simp [hb j x hl hj]
theorem _root_.Go.AM.au2 {p : Prop} (h : p := by repeat' (first | exact RB.nil | (refine RnL.same ?_; first | rfl | (simp only [noRef, noRefs, noRefs_append, Bool.and_self, Bool.and_true, Bool.true_and, noRefs_ints, noRefs_lsts, noRefs_pad, noRefs_tnC, noRefs_arcC]; done)) | exact RnM.keyM rfl | exact RnL.nil | refine RnL.cons ?_ ?_ | (refine Rn.same ?_; first | rfl | (simp only [noRef, noRefs, noRefs_append, Bool.and_self, Bool.and_true, Bool.true_and, noRefs_ints, noRefs_lsts, noRefs_pad, noRefs_tnC, noRefs_arcC]; done)) | exact Rn.x1 rfl rfl | exact Rn.x2 rfl rfl | exact Rn.x3 rfl rfl | exact Rn.x4 rfl rfl | exact Rn.x5 rfl | exact Rn.x6 rfl | exact Rn.x7 rfl | refine RB.newnil rfl rfl ?_ | refine RB.cells rfl rfl rfl ?_ ?_ | refine RB.map rfl rfl rfl ?_ ?_ | refine RB.cellsB rfl rfl ?_ ?_ | refine RB.mapB rfl rfl ?_ ?_)) : p := h
theorem _root_.Go.AM.au3 {p : Prop} (h : p := by repeat (first | exact RT.nil | (refine RT.cons ?_ ?_; · (first | exact Rn.any | exact Rn.x1 rfl rfl | exact Rn.x2 rfl rfl | exact Rn.x3 rfl rfl | exact Rn.x4 rfl rfl | exact Rn.x5 rfl | exact Rn.x6 rfl | exact Rn.x7 rfl | (refine Rn.slot ?_ ?_; (first | rfl | (rw [Int.natCast_add]; rfl)); (first | rfl | (simp only [noRef, noRefs, noRefs_append, Bool.and_self, Bool.and_true, Bool.true_and, noRefs_ints, noRefs_lsts, noRefs_pad, noRefs_tnC, noRefs_arcC]; done))) | (refine Rn.fn ?_ ?_ <;> (repeat' (first | exact RnL.nil | refine RnL.cons ?_ ?_ | exact Rn.same rfl | exact Rn.x6 rfl | exact Rn.x2 rfl rfl | exact Rn.x5 rfl | exact Rn.x1 rfl rfl))))))) : p := h
theorem indexG (g : Nat) (p : Int → Bool) (l : List Int) (hg : ∀ x ∈ l, PSpec Try.prog g [.int .i64 x] (.bool (p x))) (hl : l.length ≤ 1099511627776) :
    PSpec Try.prog 76 [sli l, .fn g [] []] (.int .i64 (firstAt p l)) := by
  refine PSpec.of_flat 64 ok76 rfl (by simp [noRefs, noRef, noRefs_ints]) rfl ?_
  simp (maxSteps := 1000000) (disch := first | omega | (simp only [lenW] <;> omega)) only [s76, wordsN, Int.reduceGT, wordsR, ne_eq, words, Nat.reduceAdd, Nat.reduceEqDiff, Nat.reduceBEq, ↓reduceIte, reduceCtorEq, SX.exit.injEq, if_true, if_false, Int.reduceAdd, Int.reduceSub, Int.reduceMul, Int.reduceLT, Int.reduceLE, Int.reduceEq, Int.reduceNe, Int.reduceNeg, Int.reduceToNat, Nat.reduceMul, Nat.reduceLT, Nat.reduceSub, Nat.reduceLeDiff]
  refine wS_loopR 100 (fun i : Nat => [(0, sli l), (1, .fn g [] []), (7, .int .i64 l.length), (8, .int .i64 i)]) (fun _ => []) (fun i => i ≤ l.length ∧ ∀ j y, j < i → l[j]? = some y → p y = false) (fun i => l.length - i) 0 ⟨[], rfl, au0, au2, au3⟩ ⟨Nat.zero_le _, fun j y hj => absurd hj (Nat.not_lt_zero _)⟩ ?_
  rintro i ⟨hi, hb⟩
  by_cases hlt : i < l.length
  · obtain ⟨x, hx⟩ := get_ex hlt
    simp (maxSteps := 1000000) (disch := first | omega | (simp only [lenW] <;> omega)) only [hlt, head_ints hx, wordsN, Int.reduceGT, wordsR, ne_eq, words, Nat.reduceAdd, Nat.reduceEqDiff, Nat.reduceBEq, ↓reduceIte, reduceCtorEq, SX.exit.injEq, if_true, if_false, Int.reduceAdd, Int.reduceSub, Int.reduceMul, Int.reduceLT, Int.reduceLE, Int.reduceEq, Int.reduceNe, Int.reduceNeg, Int.reduceToNat, Nat.reduceMul, Nat.reduceLT, Nat.reduceSub, Nat.reduceLeDiff]
    refine cp (hg x (List.mem_of_getElem? hx)) ?_
    cases hp : p x with
    | true =>
      simp (maxSteps := 1000000) (disch := first | omega | (simp only [lenW] <;> omega)) only [wordsN, Int.reduceGT, wordsR, ne_eq, words, Nat.reduceAdd, Nat.reduceEqDiff, Nat.reduceBEq, ↓reduceIte, reduceCtorEq, SX.exit.injEq, if_true, if_false, Int.reduceAdd, Int.reduceSub, Int.reduceMul, Int.reduceLT, Int.reduceLE, Int.reduceEq, Int.reduceNe, Int.reduceNeg, Int.reduceToNat, Nat.reduceMul, Nat.reduceLT, Nat.reduceSub, Nat.reduceLeDiff]
      exact ⟨.inr trivial, _, rfl, by rw [firstAt_found hx hp hb]; rfl⟩
    | false =>
      simp (maxSteps := 1000000) (disch := first | omega | (simp only [lenW] <;> omega)) only [wordsN, Int.reduceGT, wordsR, ne_eq, words, Nat.reduceAdd, Nat.reduceEqDiff, Nat.reduceBEq, ↓reduceIte, reduceCtorEq, SX.exit.injEq, if_true, if_false, Int.reduceAdd, Int.reduceSub, Int.reduceMul, Int.reduceLT, Int.reduceLE, Int.reduceEq, Int.reduceNe, Int.reduceNeg, Int.reduceToNat, Nat.reduceMul, Nat.reduceLT, Nat.reduceSub, Nat.reduceLeDiff]
      refine ⟨i + 1, by omega, ⟨by omega, fun j y hj hy => ?_⟩, ⟨[], rfl, au0, au2, au3⟩⟩
      by_cases e : j = i
      · subst e; rw [hx] at hy; cases hy; exact hp
      · exact hb j y (by omega) hy
  · simp (maxSteps := 1000000) (disch := first | omega | (simp only [lenW] <;> omega)) only [hlt, wordsN, Int.reduceGT, wordsR, ne_eq, words, Nat.reduceAdd, Nat.reduceEqDiff, Nat.reduceBEq, ↓reduceIte, reduceCtorEq, SX.exit.injEq, if_true, if_false, Int.reduceAdd, Int.reduceSub, Int.reduceMul, Int.reduceLT, Int.reduceLE, Int.reduceEq, Int.reduceNe, Int.reduceNeg, Int.reduceToNat, Nat.reduceMul, Nat.reduceLT, Nat.reduceSub, Nat.reduceLeDiff]
    exact ⟨.inr trivial, _, rfl, by rw [firstAt_none fun j y hy => hb j y (by have := (List.getElem?_eq_some_iff.1 hy).1; omega) hy]; rfl⟩
theorem containsG (g : Nat) (p : Int → Bool) (l : List Int) (hg : ∀ x ∈ l, PSpec Try.prog g [.int .i64 x] (.bool (p x))) (hl : l.length ≤ 1099511627776) :
    PSpec Try.prog 66 [sli l, .fn g [] []] (.bool (l.any p)) := by
  refine PSpec.of_flat 64 ok66 rfl (by simp [noRefs, noRef, noRefs_ints]) rfl ?_
  simp (maxSteps := 1000000) (disch := first | omega | (simp only [lenW] <;> omega)) only [s66, wordsN, Int.reduceGT, wordsR, ne_eq, words, Nat.reduceAdd, Nat.reduceEqDiff, Nat.reduceBEq, ↓reduceIte, reduceCtorEq, SX.exit.injEq, if_true, if_false, Int.reduceAdd, Int.reduceSub, Int.reduceMul, Int.reduceLT, Int.reduceLE, Int.reduceEq, Int.reduceNe, Int.reduceNeg, Int.reduceToNat, Nat.reduceMul, Nat.reduceLT, Nat.reduceSub, Nat.reduceLeDiff]
  refine cp (indexG g p l hg hl) ?_
  simp (maxSteps := 1000000) (disch := first | omega | (simp only [lenW] <;> omega)) only [firstAt_ge, wordsN, Int.reduceGT, wordsR, ne_eq, words, Nat.reduceAdd, Nat.reduceEqDiff, Nat.reduceBEq, ↓reduceIte, reduceCtorEq, SX.exit.injEq, if_true, if_false, Int.reduceAdd, Int.reduceSub, Int.reduceMul, Int.reduceLT, Int.reduceLE, Int.reduceEq, Int.reduceNe, Int.reduceNeg, Int.reduceToNat, Nat.reduceMul, Nat.reduceLT, Nat.reduceSub, Nat.reduceLeDiff]
  exact ⟨.inr trivial, _, rfl, rfl⟩
theorem withinG (l : List Int) (hl : l.length ≤ 1099511627776) : PSpec Try.prog 50 [sli l] (.int .i64 (if l.any badW = true then 2 else 0)) := by
  refine PSpec.of_flat 64 ok50 rfl (by simp [noRefs, noRef, noRefs_ints]) rfl ?_
  simp (maxSteps := 1000000) (disch := first | omega | (simp only [lenW] <;> omega)) only [s50, wordsN, Int.reduceGT, wordsR, ne_eq, words, Nat.reduceAdd, Nat.reduceEqDiff, Nat.reduceBEq, ↓reduceIte, reduceCtorEq, SX.exit.injEq, if_true, if_false, Int.reduceAdd, Int.reduceSub, Int.reduceMul, Int.reduceLT, Int.reduceLE, Int.reduceEq, Int.reduceNe, Int.reduceNeg, Int.reduceToNat, Nat.reduceMul, Nat.reduceLT, Nat.reduceSub, Nat.reduceLeDiff]
  refine cp (containsG 67 badW l (fun x _ => within1G x) hl) ?_
  cases l.any badW with
  | true => simp (maxSteps := 1000000) (disch := first | omega | (simp only [lenW] <;> omega)) only [wordsN, Int.reduceGT, wordsR, ne_eq, words, Nat.reduceAdd, Nat.reduceEqDiff, Nat.reduceBEq, ↓reduceIte, reduceCtorEq, SX.exit.injEq, if_true, if_false, Int.reduceAdd, Int.reduceSub, Int.reduceMul, Int.reduceLT, Int.reduceLE, Int.reduceEq, Int.reduceNe, Int.reduceNeg, Int.reduceToNat, Nat.reduceMul, Nat.reduceLT, Nat.reduceSub, Nat.reduceLeDiff]; exact ⟨.inr trivial, _, rfl, rfl⟩
  | false => simp (maxSteps := 1000000) (disch := first | omega | (simp only [lenW] <;> omega)) only [wordsN, Int.reduceGT, wordsR, ne_eq, words, Nat.reduceAdd, Nat.reduceEqDiff, Nat.reduceBEq, ↓reduceIte, reduceCtorEq, SX.exit.injEq, if_true, if_false, Int.reduceAdd, Int.reduceSub, Int.reduceMul, Int.reduceLT, Int.reduceLE, Int.reduceEq, Int.reduceNe, Int.reduceNeg, Int.reduceToNat, Nat.reduceMul, Nat.reduceLT, Nat.reduceSub, Nat.reduceLeDiff]; exact ⟨.inr trivial, _, rfl, rfl⟩
def wErr (l : List Int) (n : Nat) : Int := if l.length = n then (if l.any badW = true then 2 else 0) else 4
theorem wErr_ok {l : List Int} {n : Nat} (h : wErr l n = 0) : l.length = n ∧ ∀ x ∈ l, okT x := by
  unfold wErr at h
  split at h
  · rename_i hl
    split at h
    · cases h
    · rename_i ha
      refine ⟨hl, fun x hx => badW_of ?_⟩
      cases hb : badW x with
      | false => rfl
      | true => exact absurd (List.any_eq_true.2 ⟨x, hx, hb⟩) ha
  · cases h
theorem weighG (l : List Int) (n : Nat) (hl : l.length ≤ 1099511627776) (hn : n ≤ 1099511627776) : PSpec Try.prog 47 [sli l, .int .i64 n] (.int .i64 (wErr l n)) := by
  refine PSpec.of_flat 64 ok47 rfl (by simp [noRefs, noRef, noRefs_ints]) rfl ?_
  unfold wErr
  by_cases h : l.length = n
  · simp (maxSteps := 1000000) (disch := first | omega | (simp only [lenW] <;> omega)) only [s47, h, wordsN, Int.reduceGT, wordsR, ne_eq, words, Nat.reduceAdd, Nat.reduceEqDiff, Nat.reduceBEq, ↓reduceIte, reduceCtorEq, SX.exit.injEq, if_true, if_false, Int.reduceAdd, Int.reduceSub, Int.reduceMul, Int.reduceLT, Int.reduceLE, Int.reduceEq, Int.reduceNe, Int.reduceNeg, Int.reduceToNat, Nat.reduceMul, Nat.reduceLT, Nat.reduceSub, Nat.reduceLeDiff]
    refine cp (withinG l hl) ?_
    simp (maxSteps := 1000000) (disch := first | omega | (simp only [lenW] <;> omega)) only [h, wordsN, Int.reduceGT, wordsR, ne_eq, words, Nat.reduceAdd, Nat.reduceEqDiff, Nat.reduceBEq, ↓reduceIte, reduceCtorEq, SX.exit.injEq, if_true, if_false, Int.reduceAdd, Int.reduceSub, Int.reduceMul, Int.reduceLT, Int.reduceLE, Int.reduceEq, Int.reduceNe, Int.reduceNeg, Int.reduceToNat, Nat.reduceMul, Nat.reduceLT, Nat.reduceSub, Nat.reduceLeDiff]
    exact ⟨.inr trivial, _, rfl, rfl⟩
  · simp (maxSteps := 1000000) (disch := first | omega | (simp only [lenW] <;> omega)) only [s47, h, wordsN, Int.reduceGT, wordsR, ne_eq, words, Nat.reduceAdd, Nat.reduceEqDiff, Nat.reduceBEq, ↓reduceIte, reduceCtorEq, SX.exit.injEq, if_true, if_false, Int.reduceAdd, Int.reduceSub, Int.reduceMul, Int.reduceLT, Int.reduceLE, Int.reduceEq, Int.reduceNe, Int.reduceNeg, Int.reduceToNat, Nat.reduceMul, Nat.reduceLT, Nat.reduceSub, Nat.reduceLeDiff]
    exact ⟨.inr trivial, _, rfl, by simp [resOf, lk_cons]⟩
theorem valueP (a b : List Int) (hab : a.length ≤ b.length) (hl : a.length ≤ 1000) (ha : ∀ x ∈ a, sm x) (hb : ∀ x ∈ b, sm x) : PSpec Try.prog 46 [sli a, sli b] (.int .i64 (rowSum a b)) := by
  refine PSpec.of_flat 64 ok46 rfl (by simp [noRefs, noRef, noRefs_ints]) rfl ?_
  simp (maxSteps := 1000000) (disch := first | omega | (simp only [lenW] <;> omega)) only [s46, wordsN, Int.reduceGT, wordsR, ne_eq, words, Nat.reduceAdd, Nat.reduceEqDiff, Nat.reduceBEq, ↓reduceIte, reduceCtorEq, SX.exit.injEq, if_true, if_false, Int.reduceAdd, Int.reduceSub, Int.reduceMul, Int.reduceLT, Int.reduceLE, Int.reduceEq, Int.reduceNe, Int.reduceNeg, Int.reduceToNat, Nat.reduceMul, Nat.reduceLT, Nat.reduceSub, Nat.reduceLeDiff]
  refine wS_loopR 100 (fun i : Nat => [(1, sli b), (5, .int .i64 (rowSum (a.take i) (b.take i))), (8, sli a), (9, .int .i64 a.length), (10, .int .i64 i)]) (fun _ => []) (fun i => i ≤ a.length) (fun i => a.length - i) 0 ⟨[], rfl, au0, au2, au3⟩ (Nat.zero_le _) ?_
  intro i hi
  by_cases hlt : i < a.length
  · obtain ⟨x, hx⟩ := get_ex hlt
    obtain ⟨y, hy⟩ := get_ex (l := b) (i := i) (by omega)
    have hlt2 : i < b.length := by omega
    have h1 := mul_sm (ha x (List.mem_of_getElem? hx)) (hb y (List.mem_of_getElem? hy))
    have h2 := rowSum_bound (l := a.take i) (m := b.take i) (fun z hz => ha z (List.mem_of_mem_take hz)) (fun z hz => hb z (List.mem_of_mem_take hz))
    have h3 : (a.take i).length = i := by simp; omega
    rw [h3] at h2
    have hs := rowSum_take hx hy
    simp (maxSteps := 1000000) (disch := first | omega | (simp only [lenW] <;> omega)) only [hlt, hlt2, head_ints hx, head_ints hy, wordsN, Int.reduceGT, wordsR, ne_eq, words, Nat.reduceAdd, Nat.reduceEqDiff, Nat.reduceBEq, ↓reduceIte, reduceCtorEq, SX.exit.injEq, if_true, if_false, Int.reduceAdd, Int.reduceSub, Int.reduceMul, Int.reduceLT, Int.reduceLE, Int.reduceEq, Int.reduceNe, Int.reduceNeg, Int.reduceToNat, Nat.reduceMul, Nat.reduceLT, Nat.reduceSub, Nat.reduceLeDiff]
    refine ⟨i + 1, by omega, by omega, ?_⟩
    rw [hs]
    exact ⟨[], rfl, au0, au2, au3⟩
  · have e : i = a.length := by omega
    have h1 : rowSum (a.take i) (b.take i) = rowSum a b := by
      rw [e, List.take_length]
      have : ∀ (a b : List Int), rowSum a (b.take a.length) = rowSum a b := by
        intro a
        induction a with
        | nil => intro b; cases b <;> rfl
        | cons x a ih => intro b; cases b with
          | nil => rfl
          | cons y b => simp only [List.length_cons, List.take_succ_cons, rowSum, ih]
      exact this a b
    simp (maxSteps := 1000000) (disch := first | omega | (simp only [lenW] <;> omega)) only [hlt, h1, wordsN, Int.reduceGT, wordsR, ne_eq, words, Nat.reduceAdd, Nat.reduceEqDiff, Nat.reduceBEq, ↓reduceIte, reduceCtorEq, SX.exit.injEq, if_true, if_false, Int.reduceAdd, Int.reduceSub, Int.reduceMul, Int.reduceLT, Int.reduceLE, Int.reduceEq, Int.reduceNe, Int.reduceNeg, Int.reduceToNat, Nat.reduceMul, Nat.reduceLT, Nat.reduceSub, Nat.reduceLeDiff]
    exact ⟨.inr trivial, _, rfl, rfl⟩
def chk1 (x : Nt) (w : List Int) : Int := if wErr w x.ini.length = 0 then (if flowsR (tabR x 1) w = true then 0 else 6) else wErr w x.ini.length
def chkR (x : Nt) : List (List Int) → Int
  | [] => 0
  | w :: l => if chk1 x w = 0 then chkR x l else chk1 x w
theorem chkR_take (x : Nt) : ∀ (l : List (List Int)) (i : Nat) (w : List Int), l[i]? = some w → chkR x (l.take (i + 1)) = if chkR x (l.take i) = 0 then chk1 x w else chkR x (l.take i)
  | [], i, w, h => by simp at h
  | a :: l, 0, w, h => by
    simp at h; subst h
    simp only [List.take_succ_cons, List.take_zero, chkR]
    by_cases h0 : chk1 x a = 0 <;> simp [h0]
  | a :: l, i + 1, w, h => by
    simp at h
    have := chkR_take x l i w h
    simp only [List.take_succ_cons, chkR] at this ⊢
    by_cases h0 : chk1 x a = 0
    · simp only [if_pos h0]; exact this
    · simp only [if_neg h0, if_neg h0]
theorem flows1 (x : Nt) (ho : NetOk x) (w : List Int) (h : wErr w x.ini.length = 0) : PSpec Try.prog 49 [tabV (tabC x 1) (tabR x 1), sli w] (.bool (flowsR (tabR x 1) w)) := by
  obtain ⟨h1, h2⟩ := wErr_ok h
  have hp := ho.places
  have ht := ho.trans
  have hsm1 : ∀ (r : List Int), (∀ y ∈ r, -8 ≤ y ∧ y ≤ 8) → ∀ y ∈ r, sm y := fun r hr y hy => by have := hr y hy; unfold sm; omega
  exact flows _ _ _ (by simp [tabC]; omega) (by simp [tabR, colM]; omega) (by rw [h1]; rfl) (tabR_len x 1) (tabR_all 1 (fun p => hsm1 _ (incR_bound ho p)) (fun t => hsm1 _ (colR_bound ho t)))
    (fun y hy => by have := h2 y hy; unfold okT at this; unfold sm; omega)
theorem noRef_tab (k : Nat) (R : List (List Int)) : noRef (tabV k R) = true := by simp only [noRef, noRefs, noRefs_pad]; rfl
set_option maxHeartbeats 8000000 in
theorem chk (x : Nt) (ho : NetOk x) (l : List (List Int)) (hl : l.length ≤ 1000) (hll : ∀ w ∈ l, w.length ≤ 1000) : PSpec Try.prog 45 [netV x, lsts l] (.int .i64 (chkR x l)) := by
  refine PSpec.of_rn 64 ok45 rfl (by (try simp only [noRefs, noRef_net, noRef_sli, noRef_lsts, noRef_arcs, noRef_tns]) <;> rfl) rfl ?_
  have hp := ho.places
  simp (maxSteps := 1000000) (disch := first | omega | (simp only [lenW] <;> omega)) only [s45, wordsN, Int.reduceGT, wordsR, ne_eq, words, Nat.reduceAdd, Nat.reduceEqDiff, Nat.reduceBEq, ↓reduceIte, reduceCtorEq, SX.exit.injEq, if_true, if_false, Int.reduceAdd, Int.reduceSub, Int.reduceMul, Int.reduceLT, Int.reduceLE, Int.reduceEq, Int.reduceNe, Int.reduceNeg, Int.reduceToNat, Nat.reduceMul, Nat.reduceLT, Nat.reduceSub, Nat.reduceLeDiff]
  refine cp (newTable1 x ho) ?_
  simp (maxSteps := 1000000) (disch := first | omega | (simp only [lenW] <;> omega)) only [wordsN, Int.reduceGT, wordsR, ne_eq, words, Nat.reduceAdd, Nat.reduceEqDiff, Nat.reduceBEq, ↓reduceIte, reduceCtorEq, SX.exit.injEq, if_true, if_false, Int.reduceAdd, Int.reduceSub, Int.reduceMul, Int.reduceLT, Int.reduceLE, Int.reduceEq, Int.reduceNe, Int.reduceNeg, Int.reduceToNat, Nat.reduceMul, Nat.reduceLT, Nat.reduceSub, Nat.reduceLeDiff]
  refine wS_loopR 100 (fun i : Nat => [(5, .ptr 50 0 0), (18, lsts l), (19, .int .i64 l.length), (20, .int .i64 i)]) (fun _ => [(50, .cells 0 [.int .i64 (tabC x 1), .fsl ((tabR x 1).flatMap pad) (tabR x 1).length 10])])
    (fun i => i ≤ l.length ∧ chkR x (l.take i) = 0) (fun i => l.length - i) 0 ⟨[(50, .blk 71 0)], rfl, au0, au2, au3⟩ ⟨Nat.zero_le _, rfl⟩ ?_
  rintro i ⟨hi, hb⟩
  by_cases hlt : i < l.length
  · obtain ⟨w, hw⟩ := get_ex hlt
    have hwl := hll w (List.mem_of_getElem? hw)
    have hs := chkR_take x l i w hw
    rw [if_pos hb] at hs
    have hwe := weighG w (tabC x 1) (by omega) (by simp [tabC]; omega)
    have hrest : ∀ k, chkR x (l.take k) ≠ 0 → chkR x l = chkR x (l.take k) := by
      intro k
      have : ∀ (l : List (List Int)) (k : Nat), chkR x (l.take k) ≠ 0 → chkR x l = chkR x (l.take k) := by
        intro l
        induction l with
        | nil => intro k hk; simp
        | cons a l ih =>
          intro k hk
          cases k with
          | zero => simp [chkR] at hk
          | succ k =>
            simp only [List.take_succ_cons, chkR] at hk ⊢
            by_cases h0 : chk1 x a = 0
            · simp only [if_pos h0] at hk ⊢; exact ih k hk
            · simp only [if_neg h0]
      exact this l k
    simp (maxSteps := 1000000) (disch := first | omega | (simp only [lenW] <;> omega)) only [hlt, head_lsts hw, wordsN, Int.reduceGT, wordsR, ne_eq, words, Nat.reduceAdd, Nat.reduceEqDiff, Nat.reduceBEq, ↓reduceIte, reduceCtorEq, SX.exit.injEq, if_true, if_false, Int.reduceAdd, Int.reduceSub, Int.reduceMul, Int.reduceLT, Int.reduceLE, Int.reduceEq, Int.reduceNe, Int.reduceNeg, Int.reduceToNat, Nat.reduceMul, Nat.reduceLT, Nat.reduceSub, Nat.reduceLeDiff]
    refine cp hwe ?_
    have htc : tabC x 1 = x.ini.length := rfl
    rw [htc]
    by_cases h0 : wErr w x.ini.length = 0
    · simp (maxSteps := 1000000) (disch := first | omega | (simp only [lenW] <;> omega)) only [h0, wordsN, Int.reduceGT, wordsR, ne_eq, words, Nat.reduceAdd, Nat.reduceEqDiff, Nat.reduceBEq, ↓reduceIte, reduceCtorEq, SX.exit.injEq, if_true, if_false, Int.reduceAdd, Int.reduceSub, Int.reduceMul, Int.reduceLT, Int.reduceLE, Int.reduceEq, Int.reduceNe, Int.reduceNeg, Int.reduceToNat, Nat.reduceMul, Nat.reduceLT, Nat.reduceSub, Nat.reduceLeDiff]
      refine cp (flows1 x ho w h0) ?_
      cases hf : flowsR (tabR x 1) w with
      | true =>
        simp (maxSteps := 1000000) (disch := first | omega | (simp only [lenW] <;> omega)) only [wordsN, Int.reduceGT, wordsR, ne_eq, words, Nat.reduceAdd, Nat.reduceEqDiff, Nat.reduceBEq, ↓reduceIte, reduceCtorEq, SX.exit.injEq, if_true, if_false, Int.reduceAdd, Int.reduceSub, Int.reduceMul, Int.reduceLT, Int.reduceLE, Int.reduceEq, Int.reduceNe, Int.reduceNeg, Int.reduceToNat, Nat.reduceMul, Nat.reduceLT, Nat.reduceSub, Nat.reduceLeDiff]
        refine ⟨i + 1, by omega, ⟨by omega, by rw [hs, chk1, if_pos h0, if_pos hf]⟩, ⟨[(50, .blk 50 0)], rfl, au0, au2, au3⟩⟩
      | false =>
        simp (maxSteps := 1000000) (disch := first | omega | (simp only [lenW] <;> omega)) only [wordsN, Int.reduceGT, wordsR, ne_eq, words, Nat.reduceAdd, Nat.reduceEqDiff, Nat.reduceBEq, ↓reduceIte, reduceCtorEq, SX.exit.injEq, if_true, if_false, Int.reduceAdd, Int.reduceSub, Int.reduceMul, Int.reduceLT, Int.reduceLE, Int.reduceEq, Int.reduceNe, Int.reduceNeg, Int.reduceToNat, Nat.reduceMul, Nat.reduceLT, Nat.reduceSub, Nat.reduceLeDiff]
        have e : chkR x (l.take (i + 1)) = 6 := by rw [hs, chk1, if_pos h0, if_neg (by rw [hf]; simp)]
        exact ⟨.inr trivial, _, rfl, by rw [hrest (i + 1) (by rw [e]; decide), e]; exact Rn.same rfl⟩
    · simp (maxSteps := 1000000) (disch := first | omega | (simp only [lenW] <;> omega)) only [h0, wordsN, Int.reduceGT, wordsR, ne_eq, words, Nat.reduceAdd, Nat.reduceEqDiff, Nat.reduceBEq, ↓reduceIte, reduceCtorEq, SX.exit.injEq, if_true, if_false, Int.reduceAdd, Int.reduceSub, Int.reduceMul, Int.reduceLT, Int.reduceLE, Int.reduceEq, Int.reduceNe, Int.reduceNeg, Int.reduceToNat, Nat.reduceMul, Nat.reduceLT, Nat.reduceSub, Nat.reduceLeDiff]
      have e : chkR x (l.take (i + 1)) = wErr w x.ini.length := by rw [hs, chk1, if_neg h0]
      exact ⟨.inr trivial, _, rfl, by rw [hrest (i + 1) (by rw [e]; exact h0), e]; exact Rn.same rfl⟩
  · simp (maxSteps := 1000000) (disch := first | omega | (simp only [lenW] <;> omega)) only [hlt, wordsN, Int.reduceGT, wordsR, ne_eq, words, Nat.reduceAdd, Nat.reduceEqDiff, Nat.reduceBEq, ↓reduceIte, reduceCtorEq, SX.exit.injEq, if_true, if_false, Int.reduceAdd, Int.reduceSub, Int.reduceMul, Int.reduceLT, Int.reduceLE, Int.reduceEq, Int.reduceNe, Int.reduceNeg, Int.reduceToNat, Nat.reduceMul, Nat.reduceLT, Nat.reduceSub, Nat.reduceLeDiff]
    have e : i = l.length := by omega
    rw [e, List.take_length] at hb
    exact ⟨.inr trivial, _, rfl, by rw [hb]; exact Rn.same rfl⟩
end Go.AM.SN
namespace Go.AM.SN
open Go.Proofs
set_option maxRecDepth 100000
set_option linter.unusedSimpArgs false
set_option linter.unusedVariables false
def rowF (n : Nat) (f : Nat → Int) : List AV := ints ((List.range n).map f)
theorem rowF_len (n : Nat) (f : Nat → Int) : (rowF n f).length = n := by simp [rowF, ints]
theorem noRefs_rowF (n : Nat) (f : Nat → Int) : noRefs (rowF n f) = true := noRefs_ints _
theorem rowF_get {n i : Nat} (f : Nat → Int) (h : i < n) : (rowF n f)[i]? = some (.int .i64 (f i)) := by simp [rowF, ints, List.getElem?_range h]
theorem rowF_set {n i : Nat} (f : Nat → Int) (v : Int) : (rowF n f).set i (.int .i64 v) = rowF n (fun j => if j = i then v else f j) := by
  refine List.ext_getElem? fun j => ?_
  simp only [rowF, ints, List.getElem?_set, List.length_map, List.length_range, List.getElem?_map]
  by_cases hj : i = j
  · subst hj
    by_cases hi : i < n
    · simp [hi, List.getElem?_range hi]
    · simp [hi]
  · rw [if_neg hj]
    have : ¬ j = i := fun e => hj e.symm
    by_cases hi : j < n
    · simp [List.getElem?_range hi, this]
    · simp [List.getElem?_eq_none (show (List.range n).length ≤ j by simp; omega)]
theorem rowF_congr {n : Nat} {f g : Nat → Int} (h : ∀ i, i < n → f i = g i) : rowF n f = rowF n g := by
  unfold rowF
  congr 1
  exact List.map_congr_left fun i hi => h i (by simpa using hi)
theorem rowF_zero (n : Nat) : (List.replicate n [AV.int .i64 0]).flatten = rowF n (fun _ => 0) := by
  induction n with
  | zero => rfl
  | succ n ih => rw [List.replicate_succ, List.flatten_cons, ih, rowF, rowF, List.range_succ_eq_map]; simp [ints]
theorem chkR_all {x : Nt} : ∀ {l : List (List Int)}, chkR x l = 0 → ∀ w ∈ l, wErr w x.ini.length = 0
  | [], _, w, hw => by cases hw
  | a :: l, h, w, hw => by
    simp only [chkR] at h
    split at h
    · rename_i h0
      rcases List.mem_cons.1 hw with rfl | hw
      · unfold chk1 at h0
        split at h0
        · assumption
        · rename_i hn; exact absurd h0 hn
      · exact chkR_all h w hw
    · rename_i h0; exact absurd h h0
theorem rowSum_nonneg : ∀ {a b : List Int}, (∀ x ∈ a, 0 ≤ x) → (∀ x ∈ b, 0 ≤ x) → 0 ≤ rowSum a b
  | [], b, _, _ => by cases b <;> simp [rowSum]
  | x :: a, [], _, _ => by simp [rowSum]
  | x :: a, y :: b, ha, hb => by
    have h1 := rowSum_nonneg (a := a) (b := b) (fun z hz => ha z (by simp [hz])) (fun z hz => hb z (by simp [hz]))
    have h2 := Int.mul_nonneg (ha x (by simp)) (hb y (by simp))
    simp only [rowSum]; omega
def bStep (ini : List Int) (p : Nat) (out : Int) (w : List Int) : Int :=
  if w.getD p 0 = 0 then out else (if out < 0 ∨ (rowSum w ini).tdiv (w.getD p 0) < out then (rowSum w ini).tdiv (w.getD p 0) else out)
def bndR (ini : List Int) (l : List (List Int)) (p : Nat) : Int := l.foldl (bStep ini p) (-1)
theorem bnd_take {ini : List Int} {l : List (List Int)} {p i : Nat} {w : List Int} (h : l[i]? = some w) : bndR ini (l.take (i + 1)) p = bStep ini p (bndR ini (l.take i) p) w := by
  unfold bndR
  rw [List.take_add_one, List.foldl_append, h]; rfl
def bndL (x : Nt) (l : List (List Int)) : List Int := (List.range x.ini.length).map (bndR x.ini l)
theorem _root_.Go.AM.au4 {p : Prop} (h : p := by repeat (first | exact RT.nil | (refine RT.cons ?_ ?_; · (first | exact Rn.any | exact Rn.x1 rfl rfl | exact Rn.x2 rfl rfl | exact Rn.x3 rfl rfl | exact Rn.x4 rfl rfl | exact Rn.x5 rfl | exact Rn.x6 rfl | exact Rn.x7 rfl | (refine Rn.slot ?_ ?_; (first | rfl | (rw [Int.natCast_add]; rfl)); (first | rfl | (simp only [noRef, noRefs, noRefs_append, Bool.and_self, Bool.and_true, Bool.true_and, noRefs_ints, noRefs_lsts, noRefs_pad, noRefs_tnC, noRefs_arcC, noRefs_rowF]; done))) | (refine Rn.fn ?_ ?_ <;> (repeat' (first | exact RnL.nil | refine RnL.cons ?_ ?_ | exact Rn.same rfl | exact Rn.x6 rfl | exact Rn.x2 rfl rfl | exact Rn.x5 rfl | exact Rn.x1 rfl rfl))))))) : p := h
theorem _root_.Go.AM.au5 {p : Prop} (h : p := by repeat' (first | exact RB.nil | (refine RnL.same ?_; first | rfl | (simp only [noRef, noRefs, noRefs_append, Bool.and_self, Bool.and_true, Bool.true_and, noRefs_ints, noRefs_lsts, noRefs_pad, noRefs_tnC, noRefs_arcC, noRefs_rowF]; done)) | exact RnM.keyM rfl | exact RnL.nil | refine RnL.cons ?_ ?_ | (refine Rn.same ?_; first | rfl | (simp only [noRef, noRefs, noRefs_append, Bool.and_self, Bool.and_true, Bool.true_and, noRefs_ints, noRefs_lsts, noRefs_pad, noRefs_tnC, noRefs_arcC, noRefs_rowF]; done)) | exact Rn.x1 rfl rfl | exact Rn.x2 rfl rfl | exact Rn.x3 rfl rfl | exact Rn.x4 rfl rfl | exact Rn.x5 rfl | exact Rn.x6 rfl | exact Rn.x7 rfl | refine RB.newnil rfl rfl ?_ | refine RB.cells rfl rfl rfl ?_ ?_ | refine RB.map rfl rfl rfl ?_ ?_ | refine RB.cellsB rfl rfl ?_ ?_ | refine RB.mapB rfl rfl ?_ ?_)) : p := h
set_option maxHeartbeats 8000000 in
theorem bounds (x : Nt) (ho : NetOk x) (l : List (List Int)) (hl : l.length ≤ 1000) (hll : ∀ w ∈ l, w.length ≤ 1000) :
    PSpec Try.prog 23 [netV x, lsts l] (.tup [if chkR x l = 0 then sli (bndL x l) else .nilsl, .int .i64 (chkR x l)]) := by
  refine PSpec.of_rn 64 ok23 rfl (by (try simp only [noRefs, noRef_net, noRef_sli, noRef_lsts, noRef_arcs, noRef_tns]) <;> rfl) (by split <;> simp only [noRef, noRefs, noRefs_ints] <;> rfl) ?_
  have hp := ho.places
  simp (maxSteps := 1000000) (disch := first | omega | (simp only [lenW] <;> omega)) only [s23, wordsN, Int.reduceGT, wordsR, ne_eq, words, Nat.reduceAdd, Nat.reduceEqDiff, Nat.reduceBEq, ↓reduceIte, reduceCtorEq, SX.exit.injEq, if_true, if_false, Int.reduceAdd, Int.reduceSub, Int.reduceMul, Int.reduceLT, Int.reduceLE, Int.reduceEq, Int.reduceNe, Int.reduceNeg, Int.reduceToNat, Nat.reduceMul, Nat.reduceLT, Nat.reduceSub, Nat.reduceLeDiff]
  refine cp (chk x ho l hl hll) ?_
  by_cases h0 : chkR x l = 0
  · have hall := chkR_all h0
    have hc : (8 : Int) * (x.ini.length : Int) ≤ 1099511627776 := by omega
    have hc5 : (x.ini.length : Int) ≤ 1099511627776 := by omega
    simp (maxSteps := 1000000) (disch := first | omega | (simp only [lenW] <;> omega)) only [h0, hc, hc5, rowF_zero, wordsN, Int.reduceGT, wordsR, ne_eq, words, Nat.reduceAdd, Nat.reduceEqDiff, Nat.reduceBEq, ↓reduceIte, reduceCtorEq, SX.exit.injEq, if_true, if_false, Int.reduceAdd, Int.reduceSub, Int.reduceMul, Int.reduceLT, Int.reduceLE, Int.reduceEq, Int.reduceNe, Int.reduceNeg, Int.reduceToNat, Nat.reduceMul, Nat.reduceLT, Nat.reduceSub, Nat.reduceLeDiff]
    refine wS_loopR 100 (fun p : Nat => [(1, lsts l), (2, .ptr 64 0 0), (7, .sl 76 0 0 x.ini.length 1), (23, .int .i64 x.ini.length), (24, .int .i64 p)])
      (fun p => [(64, .cells 0 [sli x.ini, tns x.tr]), (76, .cells 0 (rowF x.ini.length fun q => if q < p then bndR x.ini l q else 0))]) (fun p => p ≤ x.ini.length) (fun p => x.ini.length - p) 0 ?_ (Nat.zero_le _) ?_
    · refine ⟨[(64, .blk 64 0), (76, .blk 76 0)], rfl, au0, ?_, au4⟩
      refine RB.cells rfl rfl rfl ?_ (RB.cells rfl rfl rfl (RnL.eq (rowF_congr fun i _ => by simp) (noRefs_rowF _ _)) RB.nil)
      repeat' (first | exact RB.nil | (refine RnL.same ?_; first | rfl | (simp only [noRef, noRefs, noRefs_append, Bool.and_self, Bool.and_true, Bool.true_and, noRefs_ints, noRefs_lsts, noRefs_pad, noRefs_tnC, noRefs_arcC, noRefs_rowF]; done)) | exact RnM.keyM rfl | exact RnL.nil | refine RnL.cons ?_ ?_ | (refine Rn.same ?_; first | rfl | (simp only [noRef, noRefs, noRefs_append, Bool.and_self, Bool.and_true, Bool.true_and, noRefs_ints, noRefs_lsts, noRefs_pad, noRefs_tnC, noRefs_arcC, noRefs_rowF]; done)) | exact Rn.x1 rfl rfl | exact Rn.x2 rfl rfl | exact Rn.x3 rfl rfl | exact Rn.x4 rfl rfl | exact Rn.x5 rfl | exact Rn.x6 rfl | exact Rn.x7 rfl | refine RB.newnil rfl rfl ?_ | refine RB.cells rfl rfl rfl ?_ ?_ | refine RB.map rfl rfl rfl ?_ ?_ | refine RB.cellsB rfl rfl ?_ ?_ | refine RB.mapB rfl rfl ?_ ?_)
    intro p hpl
    by_cases hlt : p < x.ini.length
    · have hf0 := fun q => rowF_len x.ini.length (fun j => if j = p then q else if j < p then bndR x.ini l j else 0)
      have hf1 := rowF_len x.ini.length (fun j => if j < p then bndR x.ini l j else 0)
      have hle : p + 1 ≤ x.ini.length := hlt
      simp (maxSteps := 1000000) (disch := first | omega | (simp only [lenW] <;> omega)) only [hlt, rowF_set, rowF_len, hle, wordsN, Int.reduceGT, wordsR, ne_eq, words, Nat.reduceAdd, Nat.reduceEqDiff, Nat.reduceBEq, ↓reduceIte, reduceCtorEq, SX.exit.injEq, if_true, if_false, Int.reduceAdd, Int.reduceSub, Int.reduceMul, Int.reduceLT, Int.reduceLE, Int.reduceEq, Int.reduceNe, Int.reduceNeg, Int.reduceToNat, Nat.reduceMul, Nat.reduceLT, Nat.reduceSub, Nat.reduceLeDiff]
      refine wS_loopR 200 (fun i : Nat => [(1, lsts l), (2, .ptr 64 0 0), (7, .sl 76 0 0 x.ini.length 1), (23, .int .i64 x.ini.length), (24, .int .i64 p), (8, .int .i64 p), (30, lsts l), (31, .int .i64 l.length), (32, .int .i64 i)])
        (fun i => [(64, .cells 0 [sli x.ini, tns x.tr]), (76, .cells 0 (rowF x.ini.length fun q => if q = p then bndR x.ini (l.take i) p else if q < p then bndR x.ini l q else 0))]) (fun i => i ≤ l.length) (fun i => l.length - i) 0 ⟨[(64, .blk 64 0), (76, .blk 76 0)], rfl, au0, au5, au4⟩ (Nat.zero_le _) ?_
      intro i hi
      by_cases hil : i < l.length
      · obtain ⟨w, hw⟩ := get_ex hil
        obtain ⟨hwl, hwo⟩ := wErr_ok (hall w (List.mem_of_getElem? hw))
        obtain ⟨c, hcc⟩ := get_ex (l := w) (i := p) (by omega)
        have hcD : w.getD p 0 = c := by rw [List.getD_eq_getElem?_getD, hcc]; rfl
        have hco := hwo c (List.mem_of_getElem? hcc)
        have hplw : p < w.length := by omega
        have hg := rowF_get (n := x.ini.length) (fun q => if q = p then bndR x.ini (l.take i) p else if q < p then bndR x.ini l q else 0) hlt
        simp only [if_true] at hg
        have hst := bnd_take (ini := x.ini) (p := p) hw
        have hlen2 := rowF_len x.ini.length (fun q => if q = p then bndR x.ini (l.take i) p else if q < p then bndR x.ini l q else 0)
        unfold bStep at hst
        rw [hcD] at hst
        have fin : ∀ (T : Tmps) (h : Heap), lk T 1 = lsts l → lk T 2 = .ptr 64 0 0 → lk T 7 = .sl 76 0 0 x.ini.length 1 → lk T 23 = .int .i64 x.ini.length → lk T 24 = .int .i64 p → lk T 8 = .int .i64 p → lk T 30 = lsts l → lk T 31 = .int .i64 l.length → lk T 32 = .int .i64 (i + 1 : Nat) →
            h.get 64 = some (.cells 0 [sli x.ini, tns x.tr]) → (∃ f, h.get 76 = some (.cells 0 (rowF x.ini.length f)) ∧ ∀ q, q < x.ini.length → (if q = p then bndR x.ini (l.take (i + 1)) p else if q < p then bndR x.ini l q else 0) = f q) →
            ∃ i', l.length - i' < l.length - i ∧ i' ≤ l.length ∧ Rec 0 [(1, lsts l), (2, .ptr 64 0 0), (7, .sl 76 0 0 x.ini.length 1), (23, .int .i64 x.ini.length), (24, .int .i64 p), (8, .int .i64 p), (30, lsts l), (31, .int .i64 l.length), (32, .int .i64 (i' : Nat))]
              [(64, .cells 0 [sli x.ini, tns x.tr]), (76, .cells 0 (rowF x.ini.length fun q => if q = p then bndR x.ini (l.take i') p else if q < p then bndR x.ini l q else 0))] T h := by
          rintro T h t1 t2 t7 t23 t24 t8 t30 t31 t32 g64 ⟨f, g76, hf⟩
          refine ⟨i + 1, by omega, by omega, [(64, .blk 64 0), (76, .blk 76 0)], rfl, RO.zero, RB.cells rfl rfl g64 ?_ (RB.cells rfl rfl g76 (RnL.eq (rowF_congr hf) (noRefs_rowF _ _)) RB.nil), ?_⟩
          · repeat' (first | exact RB.nil | (refine RnL.same ?_; first | rfl | (simp only [noRef, noRefs, noRefs_append, Bool.and_self, Bool.and_true, Bool.true_and, noRefs_ints, noRefs_lsts, noRefs_pad, noRefs_tnC, noRefs_arcC, noRefs_rowF]; done)) | exact RnM.keyM rfl | exact RnL.nil | refine RnL.cons ?_ ?_ | (refine Rn.same ?_; first | rfl | (simp only [noRef, noRefs, noRefs_append, Bool.and_self, Bool.and_true, Bool.true_and, noRefs_ints, noRefs_lsts, noRefs_pad, noRefs_tnC, noRefs_arcC, noRefs_rowF]; done)) | exact Rn.x1 rfl rfl | exact Rn.x2 rfl rfl | exact Rn.x3 rfl rfl | exact Rn.x4 rfl rfl | exact Rn.x5 rfl | exact Rn.x6 rfl | exact Rn.x7 rfl | refine RB.newnil rfl rfl ?_ | refine RB.cells rfl rfl rfl ?_ ?_ | refine RB.map rfl rfl rfl ?_ ?_ | refine RB.cellsB rfl rfl ?_ ?_ | refine RB.mapB rfl rfl ?_ ?_)
          · refine RT.cons' t1 ?_ (RT.cons' t2 ?_ (RT.cons' t7 ?_ (RT.cons' t23 ?_ (RT.cons' t24 ?_ (RT.cons' t8 ?_ (RT.cons' t30 ?_ (RT.cons' t31 ?_ (RT.cons' t32 ?_ RT.nil)))))))) <;> repeat' (first | exact RB.nil | (refine RnL.same ?_; first | rfl | (simp only [noRef, noRefs, noRefs_append, Bool.and_self, Bool.and_true, Bool.true_and, noRefs_ints, noRefs_lsts, noRefs_pad, noRefs_tnC, noRefs_arcC, noRefs_rowF]; done)) | exact RnM.keyM rfl | exact RnL.nil | refine RnL.cons ?_ ?_ | (refine Rn.same ?_; first | rfl | (simp only [noRef, noRefs, noRefs_append, Bool.and_self, Bool.and_true, Bool.true_and, noRefs_ints, noRefs_lsts, noRefs_pad, noRefs_tnC, noRefs_arcC, noRefs_rowF]; done)) | exact Rn.x1 rfl rfl | exact Rn.x2 rfl rfl | exact Rn.x3 rfl rfl | exact Rn.x4 rfl rfl | exact Rn.x5 rfl | exact Rn.x6 rfl | exact Rn.x7 rfl | refine RB.newnil rfl rfl ?_ | refine RB.cells rfl rfl rfl ?_ ?_ | refine RB.map rfl rfl rfl ?_ ?_ | refine RB.cellsB rfl rfl ?_ ?_ | refine RB.mapB rfl rfl ?_ ?_)
        by_cases hc0 : c = 0
        · rw [if_pos hc0] at hst
          simp (maxSteps := 1000000) (disch := first | omega | (simp only [lenW] <;> omega)) only [hil, hlt, hplw, head_lsts hw, head_ints hcc, hc0, wordsN, Int.reduceGT, wordsR, ne_eq, words, Nat.reduceAdd, Nat.reduceEqDiff, Nat.reduceBEq, ↓reduceIte, reduceCtorEq, SX.exit.injEq, if_true, if_false, Int.reduceAdd, Int.reduceSub, Int.reduceMul, Int.reduceLT, Int.reduceLE, Int.reduceEq, Int.reduceNe, Int.reduceNeg, Int.reduceToNat, Nat.reduceMul, Nat.reduceLT, Nat.reduceSub, Nat.reduceLeDiff]
          refine fin _ _ rfl rfl rfl rfl rfl rfl rfl rfl rfl rfl ⟨_, rfl, fun q _ => ?_⟩
          rw [hst]
        · rw [if_neg hc0] at hst
          have hini : ∀ y ∈ x.ini, sm y := fun y hy => by have := ho.tokens y hy; unfold okT at this; unfold sm; omega
          have hws : ∀ y ∈ w, sm y := fun y hy => by have := hwo y hy; unfold okT at this; unfold sm; omega
          have hrb := rowSum_bound hws hini
          have hrn := rowSum_nonneg (a := w) (b := x.ini) (fun y hy => (hwo y hy).1) (fun y hy => (ho.tokens y hy).1)
          have hq1 := Int.tdiv_nonneg hrn hco.1
          have hq2 := Int.tdiv_le_self c hrn
          generalize hqq : (rowSum w x.ini).tdiv c = Q at hst hq1 hq2
          by_cases ho1 : bndR x.ini (l.take i) p < 0
          · rw [if_pos (.inl ho1)] at hst
            simp (maxSteps := 1000000) (disch := first | omega | (simp only [lenW] <;> omega)) only [hil, hlt, hplw, head_lsts hw, head_ints hcc, hc0, hg, wordsN, Int.reduceGT, wordsR, ne_eq, words, Nat.reduceAdd, Nat.reduceEqDiff, Nat.reduceBEq, ↓reduceIte, reduceCtorEq, SX.exit.injEq, if_true, if_false, Int.reduceAdd, Int.reduceSub, Int.reduceMul, Int.reduceLT, Int.reduceLE, Int.reduceEq, Int.reduceNe, Int.reduceNeg, Int.reduceToNat, Nat.reduceMul, Nat.reduceLT, Nat.reduceSub, Nat.reduceLeDiff]
            refine cp (valueP w x.ini (by omega) (by omega) hws hini) ?_
            simp (maxSteps := 1000000) (disch := first | omega | (simp only [lenW] <;> omega)) only [hil, hlt, hplw, head_lsts hw, head_ints hcc, hc0, hg, hqq, ho1, rowF_set, rowF_len, hle, wordsN, Int.reduceGT, wordsR, ne_eq, words, Nat.reduceAdd, Nat.reduceEqDiff, Nat.reduceBEq, ↓reduceIte, reduceCtorEq, SX.exit.injEq, if_true, if_false, Int.reduceAdd, Int.reduceSub, Int.reduceMul, Int.reduceLT, Int.reduceLE, Int.reduceEq, Int.reduceNe, Int.reduceNeg, Int.reduceToNat, Nat.reduceMul, Nat.reduceLT, Nat.reduceSub, Nat.reduceLeDiff]
            refine fin _ _ rfl rfl rfl rfl rfl rfl rfl rfl rfl rfl ⟨_, rfl, fun q _ => ?_⟩
            rw [hst]; by_cases e : q = p <;> simp [e]
          · by_cases ho2 : Q < bndR x.ini (l.take i) p
            · rw [if_pos (.inr ho2)] at hst
              simp (maxSteps := 1000000) (disch := first | omega | (simp only [lenW] <;> omega)) only [hil, hlt, hplw, head_lsts hw, head_ints hcc, hc0, hg, wordsN, Int.reduceGT, wordsR, ne_eq, words, Nat.reduceAdd, Nat.reduceEqDiff, Nat.reduceBEq, ↓reduceIte, reduceCtorEq, SX.exit.injEq, if_true, if_false, Int.reduceAdd, Int.reduceSub, Int.reduceMul, Int.reduceLT, Int.reduceLE, Int.reduceEq, Int.reduceNe, Int.reduceNeg, Int.reduceToNat, Nat.reduceMul, Nat.reduceLT, Nat.reduceSub, Nat.reduceLeDiff]
              refine cp (valueP w x.ini (by omega) (by omega) hws hini) ?_
              simp (maxSteps := 1000000) (disch := first | omega | (simp only [lenW] <;> omega)) only [hil, hlt, hplw, head_lsts hw, head_ints hcc, hc0, hg, hqq, ho1, ho2, rowF_set, rowF_len, hle, wordsN, Int.reduceGT, wordsR, ne_eq, words, Nat.reduceAdd, Nat.reduceEqDiff, Nat.reduceBEq, ↓reduceIte, reduceCtorEq, SX.exit.injEq, if_true, if_false, Int.reduceAdd, Int.reduceSub, Int.reduceMul, Int.reduceLT, Int.reduceLE, Int.reduceEq, Int.reduceNe, Int.reduceNeg, Int.reduceToNat, Nat.reduceMul, Nat.reduceLT, Nat.reduceSub, Nat.reduceLeDiff]
              refine fin _ _ rfl rfl rfl rfl rfl rfl rfl rfl rfl rfl ⟨_, rfl, fun q _ => ?_⟩
              rw [hst]; by_cases e : q = p <;> simp [e]
            · rw [if_neg (fun hh => hh.elim ho1 ho2)] at hst
              simp (maxSteps := 1000000) (disch := first | omega | (simp only [lenW] <;> omega)) only [hil, hlt, hplw, head_lsts hw, head_ints hcc, hc0, hg, wordsN, Int.reduceGT, wordsR, ne_eq, words, Nat.reduceAdd, Nat.reduceEqDiff, Nat.reduceBEq, ↓reduceIte, reduceCtorEq, SX.exit.injEq, if_true, if_false, Int.reduceAdd, Int.reduceSub, Int.reduceMul, Int.reduceLT, Int.reduceLE, Int.reduceEq, Int.reduceNe, Int.reduceNeg, Int.reduceToNat, Nat.reduceMul, Nat.reduceLT, Nat.reduceSub, Nat.reduceLeDiff]
              refine cp (valueP w x.ini (by omega) (by omega) hws hini) ?_
              simp (maxSteps := 1000000) (disch := first | omega | (simp only [lenW] <;> omega)) only [hil, hlt, hplw, head_lsts hw, head_ints hcc, hc0, hg, hqq, ho1, ho2, rowF_set, rowF_len, hle, wordsN, Int.reduceGT, wordsR, ne_eq, words, Nat.reduceAdd, Nat.reduceEqDiff, Nat.reduceBEq, ↓reduceIte, reduceCtorEq, SX.exit.injEq, if_true, if_false, Int.reduceAdd, Int.reduceSub, Int.reduceMul, Int.reduceLT, Int.reduceLE, Int.reduceEq, Int.reduceNe, Int.reduceNeg, Int.reduceToNat, Nat.reduceMul, Nat.reduceLT, Nat.reduceSub, Nat.reduceLeDiff]
              refine fin _ _ rfl rfl rfl rfl rfl rfl rfl rfl rfl rfl ⟨_, rfl, fun q _ => ?_⟩
              rw [hst]
      · have e : i = l.length := by omega
        simp (maxSteps := 1000000) (disch := first | omega | (simp only [lenW] <;> omega)) only [hil, wordsN, Int.reduceGT, wordsR, ne_eq, words, Nat.reduceAdd, Nat.reduceEqDiff, Nat.reduceBEq, ↓reduceIte, reduceCtorEq, SX.exit.injEq, if_true, if_false, Int.reduceAdd, Int.reduceSub, Int.reduceMul, Int.reduceLT, Int.reduceLE, Int.reduceEq, Int.reduceNe, Int.reduceNeg, Int.reduceToNat, Nat.reduceMul, Nat.reduceLT, Nat.reduceSub, Nat.reduceLeDiff]
        refine ⟨p + 1, by omega, by omega, ?_⟩
        refine ⟨[(64, .blk 64 0), (76, .blk 76 0)], rfl, au0, ?_, au4⟩
        refine RB.cells rfl rfl rfl ?_ (RB.cells rfl rfl rfl (RnL.eq (rowF_congr fun q hq => ?_) (noRefs_rowF _ _)) RB.nil)
        · repeat' (first | exact RB.nil | (refine RnL.same ?_; first | rfl | (simp only [noRef, noRefs, noRefs_append, Bool.and_self, Bool.and_true, Bool.true_and, noRefs_ints, noRefs_lsts, noRefs_pad, noRefs_tnC, noRefs_arcC, noRefs_rowF]; done)) | exact RnM.keyM rfl | exact RnL.nil | refine RnL.cons ?_ ?_ | (refine Rn.same ?_; first | rfl | (simp only [noRef, noRefs, noRefs_append, Bool.and_self, Bool.and_true, Bool.true_and, noRefs_ints, noRefs_lsts, noRefs_pad, noRefs_tnC, noRefs_arcC, noRefs_rowF]; done)) | exact Rn.x1 rfl rfl | exact Rn.x2 rfl rfl | exact Rn.x3 rfl rfl | exact Rn.x4 rfl rfl | exact Rn.x5 rfl | exact Rn.x6 rfl | exact Rn.x7 rfl | refine RB.newnil rfl rfl ?_ | refine RB.cells rfl rfl rfl ?_ ?_ | refine RB.map rfl rfl rfl ?_ ?_ | refine RB.cellsB rfl rfl ?_ ?_ | refine RB.mapB rfl rfl ?_ ?_)
        · rw [e, List.take_length]
          by_cases c1 : q = p
          · subst c1; simp
          · by_cases c2 : q < p
            · have : q < p + 1 := by omega
              simp [c1, c2, this]
            · have : ¬ q < p + 1 := by omega
              simp [c1, c2, this]
    · have e : p = x.ini.length := by omega
      simp (maxSteps := 1000000) (disch := first | omega | (simp only [lenW] <;> omega)) only [hlt, wordsN, Int.reduceGT, wordsR, ne_eq, words, Nat.reduceAdd, Nat.reduceEqDiff, Nat.reduceBEq, ↓reduceIte, reduceCtorEq, SX.exit.injEq, if_true, if_false, Int.reduceAdd, Int.reduceSub, Int.reduceMul, Int.reduceLT, Int.reduceLE, Int.reduceEq, Int.reduceNe, Int.reduceNeg, Int.reduceToNat, Nat.reduceMul, Nat.reduceLT, Nat.reduceSub, Nat.reduceLeDiff]
      refine ⟨.inr trivial, _, rfl, Rn.tup (RnL.cons ?_ (RnL.cons (Rn.same rfl) RnL.nil))⟩
      have hbl : x.ini.length = (bndL x l).length := by simp [bndL]
      refine (show ∀ k, k = (bndL x l).length → Rn 0 π0 _ (sli (bndL x l)) (.sl 76 0 0 k 1) from ?_) _ hbl
      rintro k rfl
      refine Rn.fz0 rfl (by rw [rowF_len, ← hbl]; omega) (RnL.eq ?_ (noRefs_ints _))
      unfold bndL
      exact rowF_congr fun q hq => by rw [if_pos (by omega)]
  · simp (maxSteps := 1000000) (disch := first | omega | (simp only [lenW] <;> omega)) only [h0, wordsN, Int.reduceGT, wordsR, ne_eq, words, Nat.reduceAdd, Nat.reduceEqDiff, Nat.reduceBEq, ↓reduceIte, reduceCtorEq, SX.exit.injEq, if_true, if_false, Int.reduceAdd, Int.reduceSub, Int.reduceMul, Int.reduceLT, Int.reduceLE, Int.reduceEq, Int.reduceNe, Int.reduceNeg, Int.reduceToNat, Nat.reduceMul, Nat.reduceLT, Nat.reduceSub, Nat.reduceLeDiff]
    exact ⟨.inr trivial, _, rfl, Rn.same rfl⟩
def exP (x : Nt) (m w : List Int) : Bool := !decide (rowSum w m = rowSum w x.ini)
def exV (x : Nt) (l : List (List Int)) (m : List Int) : AV :=
  if chkR x l = 0 then (if wErr m x.ini.length = 0 then (if l.any (exP x m) = true then .tup [.int .i64 (firstAt (exP x m) l), .bool true, .int .i64 0] else .tup [.int .i64 0, .bool false, .int .i64 0]) else .tup [.int .i64 0, .bool false, .int .i64 (wErr m x.ini.length)])
  else .tup [.int .i64 0, .bool false, .int .i64 (chkR x l)]
theorem noRef_exV (x : Nt) (l : List (List Int)) (m : List Int) : noRef (exV x l m) = true := by
  unfold exV; split <;> (try split) <;> (try split) <;> rfl
set_option maxHeartbeats 8000000 in
theorem excludes (x : Nt) (ho : NetOk x) (l : List (List Int)) (m : List Int) (hl : l.length ≤ 1000) (hll : ∀ w ∈ l, w.length ≤ 1000) (hm : m.length ≤ 1000) :
    PSpec Try.prog 24 [netV x, lsts l, sli m] (exV x l m) := by
  refine PSpec.of_rn 64 ok24 rfl (by (try simp only [noRefs, noRef_net, noRef_sli, noRef_lsts, noRef_arcs, noRef_tns]) <;> rfl) (noRef_exV x l m) ?_
  have hp := ho.places
  unfold exV
  simp (maxSteps := 1000000) (disch := first | omega | (simp only [lenW] <;> omega)) only [s24, wordsN, Int.reduceGT, wordsR, ne_eq, words, Nat.reduceAdd, Nat.reduceEqDiff, Nat.reduceBEq, ↓reduceIte, reduceCtorEq, SX.exit.injEq, if_true, if_false, Int.reduceAdd, Int.reduceSub, Int.reduceMul, Int.reduceLT, Int.reduceLE, Int.reduceEq, Int.reduceNe, Int.reduceNeg, Int.reduceToNat, Nat.reduceMul, Nat.reduceLT, Nat.reduceSub, Nat.reduceLeDiff]
  refine cp (chk x ho l hl hll) ?_
  by_cases h0 : chkR x l = 0
  · have hall := chkR_all h0
    simp (maxSteps := 1000000) (disch := first | omega | (simp only [lenW] <;> omega)) only [h0, wordsN, Int.reduceGT, wordsR, ne_eq, words, Nat.reduceAdd, Nat.reduceEqDiff, Nat.reduceBEq, ↓reduceIte, reduceCtorEq, SX.exit.injEq, if_true, if_false, Int.reduceAdd, Int.reduceSub, Int.reduceMul, Int.reduceLT, Int.reduceLE, Int.reduceEq, Int.reduceNe, Int.reduceNeg, Int.reduceToNat, Nat.reduceMul, Nat.reduceLT, Nat.reduceSub, Nat.reduceLeDiff]
    refine cp (weighG m x.ini.length (by omega) (by omega)) ?_
    by_cases h1 : wErr m x.ini.length = 0
    · obtain ⟨hml, hmo⟩ := wErr_ok h1
      simp (maxSteps := 1000000) (disch := first | omega | (simp only [lenW] <;> omega)) only [h1, wordsN, Int.reduceGT, wordsR, ne_eq, words, Nat.reduceAdd, Nat.reduceEqDiff, Nat.reduceBEq, ↓reduceIte, reduceCtorEq, SX.exit.injEq, if_true, if_false, Int.reduceAdd, Int.reduceSub, Int.reduceMul, Int.reduceLT, Int.reduceLE, Int.reduceEq, Int.reduceNe, Int.reduceNeg, Int.reduceToNat, Nat.reduceMul, Nat.reduceLT, Nat.reduceSub, Nat.reduceLeDiff]
      refine wS_loopR 100 (fun i : Nat => [(2, sli m), (3, .ptr 64 0 0), (27, lsts l), (28, .int .i64 l.length), (29, .int .i64 i)])
        (fun _ => [(64, .cells 0 [sli x.ini, tns x.tr])]) (fun i => i ≤ l.length ∧ ∀ j y, j < i → l[j]? = some y → exP x m y = false) (fun i => l.length - i) 0 ⟨[(64, .blk 64 0)], rfl, au0, au5, au4⟩ ⟨Nat.zero_le _, fun j y hj => absurd hj (Nat.not_lt_zero _)⟩ ?_
      rintro i ⟨hi, hb⟩
      by_cases hil : i < l.length
      · obtain ⟨w, hw⟩ := get_ex hil
        obtain ⟨hwl, hwo⟩ := wErr_ok (hall w (List.mem_of_getElem? hw))
        have hini : ∀ y ∈ x.ini, sm y := fun y hy => by have := ho.tokens y hy; unfold okT at this; unfold sm; omega
        have hws : ∀ y ∈ w, sm y := fun y hy => by have := hwo y hy; unfold okT at this; unfold sm; omega
        have hms : ∀ y ∈ m, sm y := fun y hy => by have := hmo y hy; unfold okT at this; unfold sm; omega
        simp (maxSteps := 1000000) (disch := first | omega | (simp only [lenW] <;> omega)) only [hil, head_lsts hw, wordsN, Int.reduceGT, wordsR, ne_eq, words, Nat.reduceAdd, Nat.reduceEqDiff, Nat.reduceBEq, ↓reduceIte, reduceCtorEq, SX.exit.injEq, if_true, if_false, Int.reduceAdd, Int.reduceSub, Int.reduceMul, Int.reduceLT, Int.reduceLE, Int.reduceEq, Int.reduceNe, Int.reduceNeg, Int.reduceToNat, Nat.reduceMul, Nat.reduceLT, Nat.reduceSub, Nat.reduceLeDiff]
        refine cp (valueP w m (by omega) (by omega) hws hms) ?_
        simp (maxSteps := 1000000) (disch := first | omega | (simp only [lenW] <;> omega)) only [wordsN, Int.reduceGT, wordsR, ne_eq, words, Nat.reduceAdd, Nat.reduceEqDiff, Nat.reduceBEq, ↓reduceIte, reduceCtorEq, SX.exit.injEq, if_true, if_false, Int.reduceAdd, Int.reduceSub, Int.reduceMul, Int.reduceLT, Int.reduceLE, Int.reduceEq, Int.reduceNe, Int.reduceNeg, Int.reduceToNat, Nat.reduceMul, Nat.reduceLT, Nat.reduceSub, Nat.reduceLeDiff]
        refine cp (valueP w x.ini (by omega) (by omega) hws hini) ?_
        by_cases hv : rowSum w m = rowSum w x.ini
        · simp (maxSteps := 1000000) (disch := first | omega | (simp only [lenW] <;> omega)) only [hv, wordsN, Int.reduceGT, wordsR, ne_eq, words, Nat.reduceAdd, Nat.reduceEqDiff, Nat.reduceBEq, ↓reduceIte, reduceCtorEq, SX.exit.injEq, if_true, if_false, Int.reduceAdd, Int.reduceSub, Int.reduceMul, Int.reduceLT, Int.reduceLE, Int.reduceEq, Int.reduceNe, Int.reduceNeg, Int.reduceToNat, Nat.reduceMul, Nat.reduceLT, Nat.reduceSub, Nat.reduceLeDiff]
          refine ⟨i + 1, by omega, ⟨by omega, fun j y hj hy => ?_⟩, ⟨[(64, .blk 64 0)], rfl, au0, au5, au4⟩⟩
          by_cases e : j = i
          · subst e; rw [hw] at hy; cases hy; simp [exP, hv]
          · exact hb j y (by omega) hy
        · simp (maxSteps := 1000000) (disch := first | omega | (simp only [lenW] <;> omega)) only [hv, wordsN, Int.reduceGT, wordsR, ne_eq, words, Nat.reduceAdd, Nat.reduceEqDiff, Nat.reduceBEq, ↓reduceIte, reduceCtorEq, SX.exit.injEq, if_true, if_false, Int.reduceAdd, Int.reduceSub, Int.reduceMul, Int.reduceLT, Int.reduceLE, Int.reduceEq, Int.reduceNe, Int.reduceNeg, Int.reduceToNat, Nat.reduceMul, Nat.reduceLT, Nat.reduceSub, Nat.reduceLeDiff]
          have hpw : exP x m w = true := by simp [exP, hv]
          refine ⟨.inr trivial, _, rfl, ?_⟩
          rw [if_pos (any_of hw hpw), firstAt_found hw hpw hb]
          exact Rn.same rfl
      · simp (maxSteps := 1000000) (disch := first | omega | (simp only [lenW] <;> omega)) only [hil, wordsN, Int.reduceGT, wordsR, ne_eq, words, Nat.reduceAdd, Nat.reduceEqDiff, Nat.reduceBEq, ↓reduceIte, reduceCtorEq, SX.exit.injEq, if_true, if_false, Int.reduceAdd, Int.reduceSub, Int.reduceMul, Int.reduceLT, Int.reduceLE, Int.reduceEq, Int.reduceNe, Int.reduceNeg, Int.reduceToNat, Nat.reduceMul, Nat.reduceLT, Nat.reduceSub, Nat.reduceLeDiff]
        refine ⟨.inr trivial, _, rfl, ?_⟩
        rw [any_no fun j y hj hy => hb j y (by omega) hy]
        exact Rn.same rfl
    · simp (maxSteps := 1000000) (disch := first | omega | (simp only [lenW] <;> omega)) only [h1, wordsN, Int.reduceGT, wordsR, ne_eq, words, Nat.reduceAdd, Nat.reduceEqDiff, Nat.reduceBEq, ↓reduceIte, reduceCtorEq, SX.exit.injEq, if_true, if_false, Int.reduceAdd, Int.reduceSub, Int.reduceMul, Int.reduceLT, Int.reduceLE, Int.reduceEq, Int.reduceNe, Int.reduceNeg, Int.reduceToNat, Nat.reduceMul, Nat.reduceLT, Nat.reduceSub, Nat.reduceLeDiff]
      exact ⟨.inr trivial, _, rfl, Rn.same rfl⟩
  · simp (maxSteps := 1000000) (disch := first | omega | (simp only [lenW] <;> omega)) only [h0, wordsN, Int.reduceGT, wordsR, ne_eq, words, Nat.reduceAdd, Nat.reduceEqDiff, Nat.reduceBEq, ↓reduceIte, reduceCtorEq, SX.exit.injEq, if_true, if_false, Int.reduceAdd, Int.reduceSub, Int.reduceMul, Int.reduceLT, Int.reduceLE, Int.reduceEq, Int.reduceNe, Int.reduceNeg, Int.reduceToNat, Nat.reduceMul, Nat.reduceLT, Nat.reduceSub, Nat.reduceLeDiff]
    exact ⟨.inr trivial, _, rfl, Rn.same rfl⟩
end Go.AM.SN
namespace Go.AM.SN
open Go.Proofs
set_option maxRecDepth 100000
set_option linter.unusedSimpArgs false
set_option linter.unusedVariables false
end Go.AM.SN
namespace Go.AM.SN
open Go.Proofs Go.AM.SK
set_option maxRecDepth 100000
set_option linter.unusedSimpArgs false
set_option linter.unusedVariables false
theorem magnitude (a : Int) (h1 : -4611686018427387904 ≤ a) (h2 : a ≤ 4611686018427387904) : PSpec Try.prog 74 [.int .i64 a] (.int .u64 a.natAbs) := by
  refine PSpec.of_flat 64 SK.ok74 rfl rfl rfl ?_
  by_cases h : a < 0
  · simp (maxSteps := 1000000) (disch := first | omega | (simp only [lenW] <;> omega)) only [SK.s74, h, wordsN, Int.reduceGT, wordsR, ne_eq, words, Nat.reduceAdd, Nat.reduceEqDiff, Nat.reduceBEq, ↓reduceIte, reduceCtorEq, SX.exit.injEq, if_true, if_false, Int.reduceAdd, Int.reduceSub, Int.reduceMul, Int.reduceLT, Int.reduceLE, Int.reduceEq, Int.reduceNe, Int.reduceNeg, Int.reduceToNat, Nat.reduceMul, Nat.reduceLT, Nat.reduceSub, Nat.reduceLeDiff]
    refine ⟨.inr trivial, _, rfl, ?_⟩
    have : (0 - a) = (a.natAbs : Int) := by omega
    simp only [resOf, lk_cons, this]; rfl
  · simp (maxSteps := 1000000) (disch := first | omega | (simp only [lenW] <;> omega)) only [SK.s74, h, wordsN, Int.reduceGT, wordsR, ne_eq, words, Nat.reduceAdd, Nat.reduceEqDiff, Nat.reduceBEq, ↓reduceIte, reduceCtorEq, SX.exit.injEq, if_true, if_false, Int.reduceAdd, Int.reduceSub, Int.reduceMul, Int.reduceLT, Int.reduceLE, Int.reduceEq, Int.reduceNe, Int.reduceNeg, Int.reduceToNat, Nat.reduceMul, Nat.reduceLT, Nat.reduceSub, Nat.reduceLeDiff]
    refine ⟨.inr trivial, _, rfl, ?_⟩
    have : a = (a.natAbs : Int) := by omega
    show AV.int .u64 a = _
    rw [← this]
theorem and32 {x : Nat} (h : x < 4294967296) : aBin .and (.int .u64 (x : Int)) (.int .u64 4294967295) = some (.int .u64 (x : Int)) := by
  have e : (BitVec.ofInt 64 (x : Int) &&& BitVec.ofInt 64 4294967295).toNat = x := by
    have h1 : BitVec.ofInt 64 (x : Int) = BitVec.ofNat 64 x := by simp
    rw [h1, show BitVec.ofInt 64 4294967295 = BitVec.ofNat 64 (2 ^ 32 - 1) by decide, BitVec.toNat_and, BitVec.toNat_ofNat, BitVec.toNat_ofNat, Nat.mod_eq_of_lt (by omega), Nat.mod_eq_of_lt (by decide), Nat.and_two_pow_sub_one_eq_mod]
    omega
  have e2 : aBin .and (.int .u64 (x : Int)) (.int .u64 4294967295) = some (.int .u64 (wr .u64 ((BitVec.ofInt 64 (x : Int) &&& BitVec.ofInt 64 4294967295).toNat : Int))) := rfl
  rw [e2, e, wr_u64 (by omega) (by omega)]
theorem shr32 (x : Nat) : aBin .shr (.int .u64 (x : Int)) (.int .u64 32) = some (.int .u64 ((x / 4294967296 : Nat) : Int)) := by
  simp only [aBin]
  rw [if_neg (by decide)]
  have : (x : Int).fdiv (2 ^ (min (Int.toNat 32) (IntKind.u64).bits)) = ((x / 4294967296 : Nat) : Int) := by
    have e : (2 : Int) ^ (min (Int.toNat 32) (IntKind.u64).bits) = ((4294967296 : Nat) : Int) := by decide
    rw [e, Int.fdiv_eq_ediv_of_nonneg _ (by omega)]; rfl
  rw [this]
theorem td_nat (a b : Nat) : (a : Int).tdiv (b : Int) = ((a / b : Nat) : Int) := rfl
theorem tm_nat (a b : Nat) : (a : Int).tmod (b : Int) = ((a % b : Nat) : Int) := rfl
theorem mul64 (x y : Nat) (hx : x < 2147483648) (hy : y < 2147483648) : PSpec Try.prog 81 [.int .u64 x, .int .u64 y] (.tup [.int .u64 0, .int .u64 (x * y : Nat)]) := by
  refine PSpec.of_flat 64 SK.ok81 rfl rfl rfl ?_
  have hb : x * y < 4611686018427387904 := Nat.lt_of_lt_of_le (Nat.mul_lt_mul'' hx hy) (by decide)
  have h1 : x / 4294967296 = 0 := Nat.div_eq_of_lt (by omega)
  have h2 : y / 4294967296 = 0 := Nat.div_eq_of_lt (by omega)
  have h3 : x * y / 4294967296 < 4294967296 := by omega
  have h4 : x * y / 4294967296 / 4294967296 = 0 := by omega
  have h5 : ((x : Int) * (y : Int)) = ((x * y : Nat) : Int) := by simp
  simp (maxSteps := 1000000) (disch := first | omega | (simp only [lenW] <;> omega)) only [SK.s81, and32, shr32, h1, h2, h5, Int.mul_zero, Int.zero_mul, Int.zero_add, Int.add_zero, h4, wordsN, Int.reduceGT, wordsR, ne_eq, words, Nat.reduceAdd, Nat.reduceEqDiff, Nat.reduceBEq, ↓reduceIte, reduceCtorEq, SX.exit.injEq, if_true, if_false, Int.reduceAdd, Int.reduceSub, Int.reduceMul, Int.reduceLT, Int.reduceLE, Int.reduceEq, Int.reduceNe, Int.reduceNeg, Int.reduceToNat, Nat.reduceMul, Nat.reduceLT, Nat.reduceSub, Nat.reduceLeDiff]
  exact ⟨.inr trivial, _, rfl, rfl⟩
theorem div64 (x y : Nat) (hx : x < 18446744073709551616) (hy : 0 < y) (hyl : y < 18446744073709551616) : PSpec Try.prog 80 [.int .u64 0, .int .u64 x, .int .u64 y] (.tup [.int .u64 (x / y : Nat), .int .u64 (x % y : Nat)]) := by
  refine PSpec.of_flat 64 SK.ok80 rfl rfl rfl ?_
  have h1 : ¬ (y : Int) = 0 := by omega
  have h2 : ¬ (y : Int) ≤ 0 := by omega
  have h3 : x / y ≤ x := Nat.div_le_self x y
  have h4 : wr .u64 ((x / y : Nat) : Int) = ((x / y : Nat) : Int) := by
    generalize x / y = q at h3
    exact wr_u64 (by omega) (by omega)
  simp (maxSteps := 1000000) (disch := first | omega | (simp only [lenW] <;> omega)) only [SK.s80, h1, h2, td_nat, tm_nat, h4, wordsN, Int.reduceGT, wordsR, ne_eq, words, Nat.reduceAdd, Nat.reduceEqDiff, Nat.reduceBEq, ↓reduceIte, reduceCtorEq, SX.exit.injEq, if_true, if_false, Int.reduceAdd, Int.reduceSub, Int.reduceMul, Int.reduceLT, Int.reduceLE, Int.reduceEq, Int.reduceNe, Int.reduceNeg, Int.reduceToNat, Nat.reduceMul, Nat.reduceLT, Nat.reduceSub, Nat.reduceLeDiff]
  exact ⟨.inr trivial, _, rfl, rfl⟩
theorem natAbs_lt {a : Int} (h1 : -2147483648 < a) (h2 : a < 2147483648) : a.natAbs < 2147483648 := by omega
theorem product (a b : Int) (ha1 : -2147483648 < a) (ha2 : a < 2147483648) (hb1 : -2147483648 < b) (hb2 : b < 2147483648) :
    PSpec Try.prog 77 [.int .i64 a, .int .i64 b] (.tup [.bool (decide (a < 0) != decide (b < 0)), .int .u64 0, .int .u64 (a.natAbs * b.natAbs : Nat)]) := by
  refine PSpec.of_flat 64 SK.ok77 rfl rfl rfl ?_
  simp (maxSteps := 1000000) (disch := first | omega | (simp only [lenW] <;> omega)) only [SK.s77, wordsN, Int.reduceGT, wordsR, ne_eq, words, Nat.reduceAdd, Nat.reduceEqDiff, Nat.reduceBEq, ↓reduceIte, reduceCtorEq, SX.exit.injEq, if_true, if_false, Int.reduceAdd, Int.reduceSub, Int.reduceMul, Int.reduceLT, Int.reduceLE, Int.reduceEq, Int.reduceNe, Int.reduceNeg, Int.reduceToNat, Nat.reduceMul, Nat.reduceLT, Nat.reduceSub, Nat.reduceLeDiff]
  refine cp (magnitude a (by omega) (by omega)) ?_
  simp (maxSteps := 1000000) (disch := first | omega | (simp only [lenW] <;> omega)) only [wordsN, Int.reduceGT, wordsR, ne_eq, words, Nat.reduceAdd, Nat.reduceEqDiff, Nat.reduceBEq, ↓reduceIte, reduceCtorEq, SX.exit.injEq, if_true, if_false, Int.reduceAdd, Int.reduceSub, Int.reduceMul, Int.reduceLT, Int.reduceLE, Int.reduceEq, Int.reduceNe, Int.reduceNeg, Int.reduceToNat, Nat.reduceMul, Nat.reduceLT, Nat.reduceSub, Nat.reduceLeDiff]
  refine cp (magnitude b (by omega) (by omega)) ?_
  simp (maxSteps := 1000000) (disch := first | omega | (simp only [lenW] <;> omega)) only [wordsN, Int.reduceGT, wordsR, ne_eq, words, Nat.reduceAdd, Nat.reduceEqDiff, Nat.reduceBEq, ↓reduceIte, reduceCtorEq, SX.exit.injEq, if_true, if_false, Int.reduceAdd, Int.reduceSub, Int.reduceMul, Int.reduceLT, Int.reduceLE, Int.reduceEq, Int.reduceNe, Int.reduceNeg, Int.reduceToNat, Nat.reduceMul, Nat.reduceLT, Nat.reduceSub, Nat.reduceLeDiff]
  refine cp (mul64 a.natAbs b.natAbs (natAbs_lt ha1 ha2) (natAbs_lt hb1 hb2)) ?_
  simp (maxSteps := 1000000) (disch := first | omega | (simp only [lenW] <;> omega)) only [aEq_bool, wordsN, Int.reduceGT, wordsR, ne_eq, words, Nat.reduceAdd, Nat.reduceEqDiff, Nat.reduceBEq, ↓reduceIte, reduceCtorEq, SX.exit.injEq, if_true, if_false, Int.reduceAdd, Int.reduceSub, Int.reduceMul, Int.reduceLT, Int.reduceLE, Int.reduceEq, Int.reduceNe, Int.reduceNeg, Int.reduceToNat, Nat.reduceMul, Nat.reduceLT, Nat.reduceSub, Nat.reduceLeDiff]
  refine ⟨.inr trivial, _, rfl, ?_⟩
  simp only [resOf, lk_cons]
  cases decide (a < 0) <;> cases decide (b < 0) <;> rfl
def sg (n : Bool) (m : Nat) : Int := if n = true then -(m : Int) else m
theorem sg_natAbs (a : Int) : sg (decide (a < 0)) a.natAbs = a := by unfold sg; split <;> rename_i h <;> simp at h <;> omega
theorem sg_mul (x y : Bool) (m n : Nat) : sg x m * sg y n = sg (x != y) (m * n) := by
  cases x <;> cases y <;> simp [sg, Int.neg_mul, Int.mul_neg]
theorem sg_tdiv (x y : Bool) (m n : Nat) : (sg x m).tdiv (sg y n) = sg (x != y) (m / n) := by
  cases x <;> cases y <;> simp [sg, Int.neg_tdiv, Int.tdiv_neg] <;> rfl
theorem mul_sg (a b : Int) : a * b = sg (decide (a < 0) != decide (b < 0)) (a.natAbs * b.natAbs) := by
  rw [← sg_mul, sg_natAbs, sg_natAbs]
theorem tdiv_sg (x : Bool) (m : Nat) (b : Int) : (sg x m).tdiv b = sg (x != decide (b < 0)) (m / b.natAbs) := by
  rw [← sg_tdiv, sg_natAbs]
theorem bne_tt : (true != true) = false := rfl
theorem bne_ff : (false != false) = false := rfl
theorem bne_tf : (true != false) = true := rfl
theorem bne_ft : (false != true) = true := rfl
theorem ext_add (x y : Nat) (h : x + y < 18446744073709551616) : aExt 0 [.int .u64 (x : Int), .int .u64 (y : Int), .int .u64 0] = some (.tup [.int .u64 ((x + y : Nat) : Int), .int .u64 0]) := by
  simp only [aExt]
  rw [if_pos (by omega)]
  have h1 : ((x : Int) + y + 0) % 18446744073709551616 = ((x + y : Nat) : Int) := by omega
  have h2 : ((x : Int) + y + 0) / 18446744073709551616 = 0 := by omega
  rw [h1, h2]
theorem ext_add0 : aExt 0 [.int .u64 0, .int .u64 0, .int .u64 0] = some (.tup [.int .u64 0, .int .u64 0]) := rfl
theorem ext_sub (x y : Nat) (h : y ≤ x) (hx : x < 18446744073709551616) : aExt 1 [.int .u64 (x : Int), .int .u64 (y : Int), .int .u64 0] = some (.tup [.int .u64 ((x - y : Nat) : Int), .int .u64 0]) := by
  simp only [aExt]
  rw [if_pos (by omega), if_neg (by omega)]
  have h1 : ((x : Int) + 18446744073709551616 - y - 0) % 18446744073709551616 = ((x - y : Nat) : Int) := by omega
  rw [h1]
theorem ext_sub0 : aExt 1 [.int .u64 0, .int .u64 0, .int .u64 0] = some (.tup [.int .u64 0, .int .u64 0]) := rfl
set_option maxHeartbeats 4000000 in
theorem cross (a b c d e : Int) (ha1 : -2147483648 < a) (ha2 : a < 2147483648) (hb1 : -2147483648 < b) (hb2 : b < 2147483648) (hc1 : -2147483648 < c) (hc2 : c < 2147483648) (hd1 : -2147483648 < d) (hd2 : d < 2147483648)
    (he : e ≠ 0) (he1 : -4611686018427387904 ≤ e) (he2 : e ≤ 4611686018427387904) :
    PSpec Try.prog 72 [.int .i64 a, .int .i64 b, .int .i64 c, .int .i64 d, .int .i64 e] (.int .i64 ((a * b - c * d).tdiv e)) := by
  refine PSpec.of_flat 64 SK.ok72 rfl rfl rfl ?_
  have hM : a.natAbs * b.natAbs < 4611686018427387904 := Nat.lt_of_lt_of_le (Nat.mul_lt_mul'' (natAbs_lt ha1 ha2) (natAbs_lt hb1 hb2)) (by decide)
  have hL : c.natAbs * d.natAbs < 4611686018427387904 := Nat.lt_of_lt_of_le (Nat.mul_lt_mul'' (natAbs_lt hc1 hc2) (natAbs_lt hd1 hd2)) (by decide)
  rw [mul_sg a b, mul_sg c d]
  have hpa := product a b ha1 ha2 hb1 hb2
  have hpc := product c d hc1 hc2 hd1 hd2
  have hme := magnitude e he1 he2
  generalize (decide (a < 0) != decide (b < 0)) = n at hpa
  generalize (decide (c < 0) != decide (d < 0)) = m at hpc
  generalize a.natAbs * b.natAbs = M at hM hpa
  generalize c.natAbs * d.natAbs = L at hL hpc
  have hE : 0 < e.natAbs := by omega
  have hE2 : e.natAbs < 18446744073709551616 := by omega
  simp (maxSteps := 1000000) (disch := first | omega | (simp only [lenW] <;> omega)) only [SK.s72, wordsN, Int.reduceGT, wordsR, ne_eq, words, Nat.reduceAdd, Nat.reduceEqDiff, Nat.reduceBEq, ↓reduceIte, reduceCtorEq, SX.exit.injEq, if_true, if_false, Int.reduceAdd, Int.reduceSub, Int.reduceMul, Int.reduceLT, Int.reduceLE, Int.reduceEq, Int.reduceNe, Int.reduceNeg, Int.reduceToNat, Nat.reduceMul, Nat.reduceLT, Nat.reduceSub, Nat.reduceLeDiff]
  refine cp hpa ?_
  simp (maxSteps := 1000000) (disch := first | omega | (simp only [lenW] <;> omega)) only [wordsN, Int.reduceGT, wordsR, ne_eq, words, Nat.reduceAdd, Nat.reduceEqDiff, Nat.reduceBEq, ↓reduceIte, reduceCtorEq, SX.exit.injEq, if_true, if_false, Int.reduceAdd, Int.reduceSub, Int.reduceMul, Int.reduceLT, Int.reduceLE, Int.reduceEq, Int.reduceNe, Int.reduceNeg, Int.reduceToNat, Nat.reduceMul, Nat.reduceLT, Nat.reduceSub, Nat.reduceLeDiff]
  refine cp hpc ?_
  by_cases hnm : n = m
  · subst hnm
    by_cases hlt : M < L
    · have e1 : sg n M - sg n L = sg (!n) (L - M) := by cases n <;> simp [sg] <;> omega
      rw [e1, tdiv_sg]
      have hq : (L - M) / e.natAbs ≤ L - M := Nat.div_le_self _ _
      simp (maxSteps := 1000000) (disch := first | omega | (simp only [lenW] <;> omega)) only [aEq_bool, hlt, bne_tt, bne_ff, bne_tf, bne_ft, ext_sub L M (by omega) (by omega), ext_sub0, wR_ext, wordsN, Int.reduceGT, wordsR, ne_eq, words, Nat.reduceAdd, Nat.reduceEqDiff, Nat.reduceBEq, ↓reduceIte, reduceCtorEq, SX.exit.injEq, if_true, if_false, Int.reduceAdd, Int.reduceSub, Int.reduceMul, Int.reduceLT, Int.reduceLE, Int.reduceEq, Int.reduceNe, Int.reduceNeg, Int.reduceToNat, Nat.reduceMul, Nat.reduceLT, Nat.reduceSub, Nat.reduceLeDiff]
      refine cp hme ?_
      simp (maxSteps := 1000000) (disch := first | omega | (simp only [lenW] <;> omega)) only [wordsN, Int.reduceGT, wordsR, ne_eq, words, Nat.reduceAdd, Nat.reduceEqDiff, Nat.reduceBEq, ↓reduceIte, reduceCtorEq, SX.exit.injEq, if_true, if_false, Int.reduceAdd, Int.reduceSub, Int.reduceMul, Int.reduceLT, Int.reduceLE, Int.reduceEq, Int.reduceNe, Int.reduceNeg, Int.reduceToNat, Nat.reduceMul, Nat.reduceLT, Nat.reduceSub, Nat.reduceLeDiff]
      refine cp (div64 (L - M) e.natAbs (by omega) hE hE2) ?_
      generalize (L - M) / e.natAbs = q at hq
      by_cases hs : (!n) = decide (e < 0)
      · have hs' : ((!n) != decide (e < 0)) = false := by rw [hs]; cases decide (e < 0) <;> rfl
        simp (maxSteps := 1000000) (disch := first | omega | (simp only [lenW] <;> omega)) only [aEq_bool, hs, bne_tt, bne_ff, bne_tf, bne_ft, wordsN, Int.reduceGT, wordsR, ne_eq, words, Nat.reduceAdd, Nat.reduceEqDiff, Nat.reduceBEq, ↓reduceIte, reduceCtorEq, SX.exit.injEq, if_true, if_false, Int.reduceAdd, Int.reduceSub, Int.reduceMul, Int.reduceLT, Int.reduceLE, Int.reduceEq, Int.reduceNe, Int.reduceNeg, Int.reduceToNat, Nat.reduceMul, Nat.reduceLT, Nat.reduceSub, Nat.reduceLeDiff]
        refine ⟨.inr trivial, _, rfl, ?_⟩
        rw [← hs, bne_self_eq_false]; rfl
      · have hs' : ((!n) != decide (e < 0)) = true := by cases n <;> cases hd : decide (e < 0) <;> simp_all
        simp (maxSteps := 1000000) (disch := first | omega | (simp only [lenW] <;> omega)) only [aEq_bool, hs, bne_tt, bne_ff, bne_tf, bne_ft, Int.zero_sub, wordsN, Int.reduceGT, wordsR, ne_eq, words, Nat.reduceAdd, Nat.reduceEqDiff, Nat.reduceBEq, ↓reduceIte, reduceCtorEq, SX.exit.injEq, if_true, if_false, Int.reduceAdd, Int.reduceSub, Int.reduceMul, Int.reduceLT, Int.reduceLE, Int.reduceEq, Int.reduceNe, Int.reduceNeg, Int.reduceToNat, Nat.reduceMul, Nat.reduceLT, Nat.reduceSub, Nat.reduceLeDiff]
        refine ⟨.inr trivial, _, rfl, ?_⟩
        rw [hs']; rfl
    · have e1 : sg n M - sg n L = sg n (M - L) := by cases n <;> simp [sg] <;> omega
      rw [e1, tdiv_sg]
      have hq : (M - L) / e.natAbs ≤ M - L := Nat.div_le_self _ _
      simp (maxSteps := 1000000) (disch := first | omega | (simp only [lenW] <;> omega)) only [aEq_bool, hlt, bne_tt, bne_ff, bne_tf, bne_ft, ext_sub M L (by omega) (by omega), ext_sub0, wR_ext, wordsN, Int.reduceGT, wordsR, ne_eq, words, Nat.reduceAdd, Nat.reduceEqDiff, Nat.reduceBEq, ↓reduceIte, reduceCtorEq, SX.exit.injEq, if_true, if_false, Int.reduceAdd, Int.reduceSub, Int.reduceMul, Int.reduceLT, Int.reduceLE, Int.reduceEq, Int.reduceNe, Int.reduceNeg, Int.reduceToNat, Nat.reduceMul, Nat.reduceLT, Nat.reduceSub, Nat.reduceLeDiff]
      refine cp hme ?_
      simp (maxSteps := 1000000) (disch := first | omega | (simp only [lenW] <;> omega)) only [wordsN, Int.reduceGT, wordsR, ne_eq, words, Nat.reduceAdd, Nat.reduceEqDiff, Nat.reduceBEq, ↓reduceIte, reduceCtorEq, SX.exit.injEq, if_true, if_false, Int.reduceAdd, Int.reduceSub, Int.reduceMul, Int.reduceLT, Int.reduceLE, Int.reduceEq, Int.reduceNe, Int.reduceNeg, Int.reduceToNat, Nat.reduceMul, Nat.reduceLT, Nat.reduceSub, Nat.reduceLeDiff]
      refine cp (div64 (M - L) e.natAbs (by omega) hE hE2) ?_
      generalize (M - L) / e.natAbs = q at hq
      by_cases hs : n = decide (e < 0)
      · have hs' : (n != decide (e < 0)) = false := by rw [hs]; cases decide (e < 0) <;> rfl
        simp (maxSteps := 1000000) (disch := first | omega | (simp only [lenW] <;> omega)) only [aEq_bool, hs, bne_tt, bne_ff, bne_tf, bne_ft, wordsN, Int.reduceGT, wordsR, ne_eq, words, Nat.reduceAdd, Nat.reduceEqDiff, Nat.reduceBEq, ↓reduceIte, reduceCtorEq, SX.exit.injEq, if_true, if_false, Int.reduceAdd, Int.reduceSub, Int.reduceMul, Int.reduceLT, Int.reduceLE, Int.reduceEq, Int.reduceNe, Int.reduceNeg, Int.reduceToNat, Nat.reduceMul, Nat.reduceLT, Nat.reduceSub, Nat.reduceLeDiff]
        refine ⟨.inr trivial, _, rfl, ?_⟩
        rw [← hs, bne_self_eq_false]; rfl
      · have hs' : (n != decide (e < 0)) = true := by cases n <;> cases hd : decide (e < 0) <;> simp_all
        simp (maxSteps := 1000000) (disch := first | omega | (simp only [lenW] <;> omega)) only [aEq_bool, hs, bne_tt, bne_ff, bne_tf, bne_ft, Int.zero_sub, wordsN, Int.reduceGT, wordsR, ne_eq, words, Nat.reduceAdd, Nat.reduceEqDiff, Nat.reduceBEq, ↓reduceIte, reduceCtorEq, SX.exit.injEq, if_true, if_false, Int.reduceAdd, Int.reduceSub, Int.reduceMul, Int.reduceLT, Int.reduceLE, Int.reduceEq, Int.reduceNe, Int.reduceNeg, Int.reduceToNat, Nat.reduceMul, Nat.reduceLT, Nat.reduceSub, Nat.reduceLeDiff]
        refine ⟨.inr trivial, _, rfl, ?_⟩
        rw [hs']; rfl
  · have e1 : sg n M - sg m L = sg n (M + L) := by
      have : m = !n := by cases n <;> cases m <;> simp_all
      subst this
      cases n <;> simp [sg] <;> omega
    rw [e1, tdiv_sg]
    have hq : (M + L) / e.natAbs ≤ M + L := Nat.div_le_self _ _
    simp (maxSteps := 1000000) (disch := first | omega | (simp only [lenW] <;> omega)) only [aEq_bool, hnm, bne_tt, bne_ff, bne_tf, bne_ft, ext_add M L (by omega), ext_add0, wR_ext, wordsN, Int.reduceGT, wordsR, ne_eq, words, Nat.reduceAdd, Nat.reduceEqDiff, Nat.reduceBEq, ↓reduceIte, reduceCtorEq, SX.exit.injEq, if_true, if_false, Int.reduceAdd, Int.reduceSub, Int.reduceMul, Int.reduceLT, Int.reduceLE, Int.reduceEq, Int.reduceNe, Int.reduceNeg, Int.reduceToNat, Nat.reduceMul, Nat.reduceLT, Nat.reduceSub, Nat.reduceLeDiff]
    refine cp hme ?_
    simp (maxSteps := 1000000) (disch := first | omega | (simp only [lenW] <;> omega)) only [wordsN, Int.reduceGT, wordsR, ne_eq, words, Nat.reduceAdd, Nat.reduceEqDiff, Nat.reduceBEq, ↓reduceIte, reduceCtorEq, SX.exit.injEq, if_true, if_false, Int.reduceAdd, Int.reduceSub, Int.reduceMul, Int.reduceLT, Int.reduceLE, Int.reduceEq, Int.reduceNe, Int.reduceNeg, Int.reduceToNat, Nat.reduceMul, Nat.reduceLT, Nat.reduceSub, Nat.reduceLeDiff]
    refine cp (div64 (M + L) e.natAbs (by omega) hE hE2) ?_
    generalize (M + L) / e.natAbs = q at hq
    by_cases hs : n = decide (e < 0)
    · simp (maxSteps := 1000000) (disch := first | omega | (simp only [lenW] <;> omega)) only [aEq_bool, hs, bne_tt, bne_ff, bne_tf, bne_ft, wordsN, Int.reduceGT, wordsR, ne_eq, words, Nat.reduceAdd, Nat.reduceEqDiff, Nat.reduceBEq, ↓reduceIte, reduceCtorEq, SX.exit.injEq, if_true, if_false, Int.reduceAdd, Int.reduceSub, Int.reduceMul, Int.reduceLT, Int.reduceLE, Int.reduceEq, Int.reduceNe, Int.reduceNeg, Int.reduceToNat, Nat.reduceMul, Nat.reduceLT, Nat.reduceSub, Nat.reduceLeDiff]
      refine ⟨.inr trivial, _, rfl, ?_⟩
      rw [← hs, bne_self_eq_false]; rfl
    · have hs' : (n != decide (e < 0)) = true := by cases n <;> cases hd : decide (e < 0) <;> simp_all
      simp (maxSteps := 1000000) (disch := first | omega | (simp only [lenW] <;> omega)) only [aEq_bool, hs, bne_tt, bne_ff, bne_tf, bne_ft, Int.zero_sub, wordsN, Int.reduceGT, wordsR, ne_eq, words, Nat.reduceAdd, Nat.reduceEqDiff, Nat.reduceBEq, ↓reduceIte, reduceCtorEq, SX.exit.injEq, if_true, if_false, Int.reduceAdd, Int.reduceSub, Int.reduceMul, Int.reduceLT, Int.reduceLE, Int.reduceEq, Int.reduceNe, Int.reduceNeg, Int.reduceToNat, Nat.reduceMul, Nat.reduceLT, Nat.reduceSub, Nat.reduceLeDiff]
      refine ⟨.inr trivial, _, rfl, ?_⟩
      rw [hs']; rfl
theorem _root_.Go.AM.au6 {p : Prop} (h : p := by repeat' (first | exact RB.nil | (refine RnL.same ?_; first | rfl | (simp only [noRef, noRefs, noRefs_append, noRefs_ints, noRefs_lsts, noRefs_pad, noRef_arcs, noRef_tns, Bool.and_self, Bool.and_true, Bool.true_and]; done)) | exact RnM.keyM rfl | exact RnL.nil | refine RnL.cons ?_ ?_ | (refine Rn.same ?_; first | rfl | (simp only [noRef, noRefs, noRefs_append, noRefs_ints, noRefs_lsts, noRefs_pad, noRef_arcs, noRef_tns, Bool.and_self, Bool.and_true, Bool.true_and]; done)) | exact Rn.x1 rfl rfl | exact Rn.x2 rfl rfl | exact Rn.x3 rfl rfl | exact Rn.x4 rfl rfl | exact Rn.x5 rfl | exact Rn.x6 rfl | exact Rn.x7 rfl | refine RB.newnil rfl rfl ?_ | refine RB.cells rfl rfl rfl ?_ ?_ | refine RB.map rfl rfl rfl ?_ ?_ | refine RB.cellsB rfl rfl ?_ ?_ | refine RB.mapB rfl rfl ?_ ?_)) : p := h
theorem gcd (a b : Nat) (ha : a < 18446744073709551616) (hb : b < 18446744073709551616) : PSpec Try.prog 73 [.int .u64 a, .int .u64 b] (.int .u64 (Nat.gcd a b : Nat)) := by
  refine PSpec.of_flat 64 SK.ok73 rfl rfl rfl ?_
  simp (maxSteps := 1000000) (disch := first | omega | (simp only [lenW] <;> omega)) only [SK.s73, wordsN, Int.reduceGT, wordsR, ne_eq, words, Nat.reduceAdd, Nat.reduceEqDiff, Nat.reduceBEq, ↓reduceIte, reduceCtorEq, SX.exit.injEq, if_true, if_false, Int.reduceAdd, Int.reduceSub, Int.reduceMul, Int.reduceLT, Int.reduceLE, Int.reduceEq, Int.reduceNe, Int.reduceNeg, Int.reduceToNat, Nat.reduceMul, Nat.reduceLT, Nat.reduceSub, Nat.reduceLeDiff]
  refine wS_loopR 100 (fun p : Nat × Nat => [(0, .int .u64 p.1), (1, .int .u64 p.2)]) (fun _ => []) (fun p => Nat.gcd p.1 p.2 = Nat.gcd a b ∧ p.1 < 18446744073709551616 ∧ p.2 < 18446744073709551616) (fun p => p.2) (a, b) ⟨[], rfl, au0, au6, au1⟩ ⟨rfl, ha, hb⟩ ?_
  rintro ⟨x, y⟩ ⟨hg, hx, hy⟩
  dsimp only at hg hx hy ⊢
  by_cases h0 : y = 0
  · subst h0
    simp (maxSteps := 1000000) (disch := first | omega | (simp only [lenW] <;> omega)) only [wordsN, Int.reduceGT, wordsR, ne_eq, words, Nat.reduceAdd, Nat.reduceEqDiff, Nat.reduceBEq, ↓reduceIte, reduceCtorEq, SX.exit.injEq, if_true, if_false, Int.reduceAdd, Int.reduceSub, Int.reduceMul, Int.reduceLT, Int.reduceLE, Int.reduceEq, Int.reduceNe, Int.reduceNeg, Int.reduceToNat, Nat.reduceMul, Nat.reduceLT, Nat.reduceSub, Nat.reduceLeDiff]
    refine ⟨.inr trivial, _, rfl, ?_⟩
    rw [← hg, Nat.gcd_zero_right]; rfl
  · have h1 : ¬ (y : Int) = 0 := by omega
    simp (maxSteps := 1000000) (disch := first | omega | (simp only [lenW] <;> omega)) only [h1, tm_nat, wordsN, Int.reduceGT, wordsR, ne_eq, words, Nat.reduceAdd, Nat.reduceEqDiff, Nat.reduceBEq, ↓reduceIte, reduceCtorEq, SX.exit.injEq, if_true, if_false, Int.reduceAdd, Int.reduceSub, Int.reduceMul, Int.reduceLT, Int.reduceLE, Int.reduceEq, Int.reduceNe, Int.reduceNeg, Int.reduceToNat, Nat.reduceMul, Nat.reduceLT, Nat.reduceSub, Nat.reduceLeDiff]
    have hm : x % y < y := Nat.mod_lt x (by omega)
    refine ⟨(y, x % y), hm, ⟨?_, hy, by show x % y < _; omega⟩, ⟨[], rfl, au0, au6, au1⟩⟩
    show Nat.gcd y (x % y) = _
    rw [← hg, Nat.gcd_comm y, ← Nat.gcd_rec, Nat.gcd_comm]
end Go.AM.SN
set_option linter.unusedSimpArgs false
set_option linter.unusedVariables false
namespace Go.AM
variable {P : Program}
def FSpec (P : Program) (f : Nat) (args : List AV) (v : AV) : Prop :=
  Callable P f ∧ noRefs args = true ∧ noRef v = true ∧ ∀ (F : Nat → Prop) (w : World) (cargs : Array Value), (∀ k, F k → k < w.heap.size) → VRels (only F) w args cargs.toList →
    Calls P f cargs w fun e w' => ∃ cv F', e = .returned cv ∧ Evo2 0 (only F) w (only fun k => F k ∨ F' k) w' ∧ (∀ k, F' k → w.heap.size ≤ k ∧ k < w'.heap.size) ∧ VRel (only F') w' v cv
def RnO (h : Heap) (x y : AV) : Prop := ∀ (c : Ctx) (w : World) (v : Value), HRel c h w → VRel c w y v → VRel (only c.O) w x v
def RnOL (h : Heap) : List AV → List AV → Prop
  | [], [] => True
  | x :: xs, y :: ys => RnO h x y ∧ RnOL h xs ys
  | _, _ => False
section
variable {h : Heap}
theorem RnO.flat {x : AV} (hf : flatV x = true) : RnO h x x := fun c w v _ hv => VRel.flat _ _ hf hv
theorem RnOL.nil : RnOL h [] [] := trivial
theorem RnOL.cons {x y : AV} {xs ys : List AV} (h1 : RnO h x y) (h2 : RnOL h xs ys) : RnOL h (x :: xs) (y :: ys) := ⟨h1, h2⟩
theorem RnOL.rels {c : Ctx} {w : World} (H : HRel c h w) : ∀ {xs ys : List AV} {vs : List Value}, RnOL h xs ys → VRels c w ys vs → VRels (only c.O) w xs vs
  | [], [], _, _, hv => by simpa [VRels] using hv
  | [], _ :: _, _, hh, _ => hh.elim
  | _ :: _, [], _, hh, _ => hh.elim
  | x :: xs, y :: ys, vs, hh, hv => by
    simp only [VRels] at hv ⊢
    obtain ⟨v, vs', rfl, g1, g2⟩ := hv
    exact ⟨v, vs', rfl, hh.1 c w v H g1, RnOL.rels H hh.2 g2⟩
theorem RnO.tup {xs ys : List AV} (hL : RnOL h xs ys) : RnO h (.tup xs) (.tup ys) := fun c w v H hv => by
  simp only [VRel] at hv ⊢
  obtain ⟨vs, rfl, hv⟩ := hv
  exact ⟨vs, rfl, hL.rels H hv⟩
theorem VPre.flat {c c' : Ctx} {w w' : World} : ∀ {xs : List AV} {vs : List Value}, flatVs xs = true → VPre c w xs vs → VPre c' w' xs vs
  | [], _, _, _ => by simp [VPre]
  | x :: xs, vs, hf, hv => by
    simp only [flatVs, Bool.and_eq_true] at hf
    simp only [VPre] at hv ⊢
    obtain ⟨v, vs', rfl, g1, g2⟩ := hv
    exact ⟨v, vs', rfl, VRel.flat _ _ hf.1 g1, VPre.flat hf.2 g2⟩
theorem RnO.sl {b g len sz : Nat} {ds : List AV} (hb : h.get b = some (.cells g ds)) (hf : flatVs ds = true) (hl : ds.length = len * sz) : RnO h (.fsl ds len sz) (.sl b g 0 len sz) := fun c w v H hv => by
  simp only [VRel] at hv
  rcases hv with ⟨hp, rfl, _, rfl⟩ | ⟨cb, base, o, cap, C, e, fr, hp, rfl, hlc, hC, hcap⟩
  · have : ds = [] := List.eq_nil_of_length_eq_zero (by rw [hl]; simp)
    subst this
    simp only [VRel]; exact .inl (by simp)
  · obtain ⟨C', e', fr', hO, hC', hfr, hbs, hpre⟩ := H.here hb hp
    rw [hC] at hC'; cases hC'
    by_cases h0 : cap = 0
    · have hl0 : len = 0 := by omega
      subst hl0
      have : ds = [] := List.eq_nil_of_length_eq_zero (by rw [hl]; simp)
      subst this
      simp only [VRel]
      exact .inr ⟨cb, o, cap, C, e, fr, rfl, hlc, by simp, hO, hC, by simp [VPre]⟩
    · obtain ⟨ho, hbd⟩ := hcap.resolve_left h0
      simp only [VRel]
      exact .inr ⟨cb, o, cap, C, e, fr, rfl, hlc, hl, hO, hC, by rw [ho]; exact VPre.flat hf hpre⟩
theorem RnO.slm {b g len k sz : Nat} {ds es : List AV} (hb : h.get b = some (.cells g ds)) (he : es = ds) (hk : k = len) (hf : flatVs ds = true) (hl : ds.length = len * sz) : RnO h (.fsl es k sz) (.sl b g 0 len sz) := by
  subst he; subst hk; exact RnO.sl hb hf hl
end
theorem FSpec.of_W2 {f : Nat} {sf : SFn} {args : List AV} {v : AV} (hok : okFn P f sf = true) (hl : args.length ≤ sf.n) (ha : noRefs args = true) (hv : noRef v = true)
    (hw : W2 P ⟨sf.n, 0⟩ sf.body (fun e B => (e = .normal ∨ e = .ret) ∧ ∃ vs, resV B.T B.h sf.res = some vs ∧ RnO B.h v (resOf vs)) ⟨argT 0 args, .e⟩) : FSpec P f args v := by
  obtain ⟨_, _, _, _, _, _, _, hc⟩ := okFn_spec hok
  refine ⟨hc, ha, hv, fun F w cargs hF ha => (call_of_W2 (R := fun vs k => RnO k v (resOf vs)) hok hl hw (HRel.only hF) ha).mono ?_⟩
  rintro e w' ⟨cv, c', vs, k, rfl, E, H', V, hk⟩
  have hnew : ∀ k, c'.O k → w.heap.size ≤ k := fun k hO => (E.own k hO).elim (fun h => h.elim) id
  refine ⟨cv, c'.O, rfl, ?_, fun k hO => ⟨hnew k hO, H'.inO k hO⟩, hk c' w' cv H' V⟩
  refine ⟨E.os, E.tape, E.output, E.size, E.shape, fun k hk _ => E.keep k hk (fun h => h), fun b g p hb => absurd hb (Nat.not_lt_zero _), fun k hk => .inl hk, fun k hk => ?_, fun k hk => hk.elim⟩
  rcases hk with hk | hk
  · exact .inl hk
  · exact .inr (.inr (hnew k hk))
theorem FSpec.of_wS {f : Nat} {sf : SFn} {args : List AV} {v : AV} (n : Nat) (hok : okFn P f sf = true) (hl : Nat.ble args.length sf.n = true) (ha : noRefs args = true) (hv : noRef v = true)
    (hw : wS P ⟨sf.n, 0⟩ sf.body [] n (argT 0 args) .e fun e T h _ => (e = .normal ∨ e = .ret) ∧ ∃ vs, resV T h sf.res = some vs ∧ RnO h v (resOf vs)) : FSpec P f args v :=
  FSpec.of_W2 hok (Nat.le_of_ble_eq_true hl) ha hv ((wpC.toW hw).mono fun e B ⟨_, h⟩ => h)
section
variable {h : Heap}
theorem FrzTo.fn {f : Nat} {xs ys us vs : List AV} (hL : FrzL h xs ys) (hK : FrzL h us vs) : FrzTo h (.fn f xs us) (.fn f ys vs) := fun c w v H hv => by
  simp only [VRel] at hv ⊢
  obtain ⟨x', y', rfl, h1, h2⟩ := hv
  exact ⟨x', y', rfl, hL.rels H h1, hK.rels H h2⟩
theorem FrzTo.ptr {b g off : Nat} {cs ys : List AV} (hb : h.get b = some (.cells g cs)) (hL : FrzL h (cs.drop off) ys) : FrzTo h (.ptr b g off) (.fptr ys) := fun c w v H hv => by
  simp only [VRel] at hv
  obtain ⟨cb, base, hp, rfl⟩ := hv
  obtain ⟨C', e', fr', hO, hC', hfr, hbs, hpre⟩ := H.here hb hp
  have hp2 := VPre_drop off hpre
  rw [List.drop_drop] at hp2
  simp only [VRel]
  exact ⟨cb, base + off, C', e', fr', rfl, .inr hO, hC', hL.pre H hp2⟩
theorem HSpec.lend {f : Nat} {args bs : List AV} {v : AV} (hL : FrzL h args bs) (hp : PSpec P f bs v) (hv : flatV v = true) : HSpec P f args h v h := by
  obtain ⟨h', hc, _⟩ := hp.2.2
  exact ⟨hc, fun c w cargs H ha => (hp.borrow hv H (hL.rels H ha)).2⟩
theorem HSpec.of_F {f : Nat} {args bs : List AV} {v : AV} (hL : FrzL h args bs) (hp : FSpec P f bs v) : HSpec P f args h v h := by
  obtain ⟨hc, n1, n2, hs⟩ := hp
  refine ⟨hc, fun c w cargs H ha => ?_⟩
  have hF : ∀ k, (c.F k ∨ c.O k) → k < w.heap.size := fun k hk => hk.elim (H.inF k) (H.inO k)
  refine (hs (fun k => c.F k ∨ c.O k) w cargs hF (VRels.noRef (c := lent c) (c' := only fun k => c.F k ∨ c.O k) (fun _ h => h) _ _ n1 (hL.rels H ha))).mono ?_
  rintro e w' ⟨cv, F', rfl, E, hnew, V⟩
  have hk : ∀ k, k < w.heap.size → w'.heap[k]? = w.heap[k]? := fun k hk => E.keep k hk (fun h => h)
  obtain ⟨E1, H1⟩ := H.grow E.os E.tape E.output E.size hk
  refine ⟨cv, { c with F := fun k => c.F k ∨ F' k }, rfl, ?_, H1.frozen (fun k => c.F k ∨ F' k) (fun k hk => .inl hk) (fun k hk => ?_), VRel.noRef (c := only F') (c' := { c with F := fun k => c.F k ∨ F' k }) (fun _ h => .inr h) _ _ n2 V⟩
  · refine ⟨E1.os, E1.tape, E1.output, E1.size, E1.shape, E1.keep, E1.rho, fun k hk => .inl hk, fun k hk => ?_, E1.own⟩
    rcases hk with hk | hk
    · exact .inl hk
    · exact .inr (.inr (hnew k hk).1)
  · rcases hk with hk | hk
    · exact ⟨fun hO => H.disj k hk hO, Nat.lt_of_lt_of_le (H.inF k hk) E.size⟩
    · exact ⟨fun hO => by have := H.inO k hO; have := (hnew k hk).1; omega, (hnew k hk).2⟩
end
end Go.AM
namespace Go.AM.SN
open Go.Proofs Go.AM.SK
set_option maxRecDepth 100000
set_option linter.unusedSimpArgs false
set_option linter.unusedVariables false
abbrev Mx := Nat → Nat → Int
def rrow (cols : List Nat) (r : List Int) : List Int := cols.map fun c => r.getD c 0
def nz (r : List Int) : Bool := r.any (· != 0)
def rows0 (R : List (List Int)) (cols : List Nat) : List (List Int) := (R.map (rrow cols)).filter nz
structure KS where
  M : Mx
  piv : Nat
  last : Int
  free : Int
  pos : Nat → Nat
def mx (rows : List (List Int)) : Mx := fun i c => (rows.getD i []).getD c 0
def kfind (nr k : Nat) (s : KS) : Option Nat := (List.range (nr - s.piv)).findIdx? fun i => s.M (s.piv + i) k != 0
def kswap (M : Mx) (a b : Nat) : Mx := fun i c => if i = a then M b c else if i = b then M a c else M i c
def kelim (n k : Nat) (M : Mx) (piv : Nat) (last : Int) : Mx := fun j c => if j = piv ∨ n ≤ c then M j c else (M piv k * M j c - M j k * M piv c).tdiv last
def kstep (nr n k : Nat) (s : KS) : Option KS :=
  match kfind nr k s with
  | none => if 0 ≤ s.free then none else some ⟨s.M, s.piv, s.last, k, s.pos⟩
  | some i => some ⟨kelim n k (kswap s.M s.piv (s.piv + i)) s.piv s.last, s.piv + 1, kswap s.M s.piv (s.piv + i) s.piv k, s.free, fun c => if c = k then s.piv else s.pos c⟩
def krun (R : List (List Int)) (cols : List Nat) : Nat → Option KS
  | 0 => some ⟨mx (rows0 R cols), 0, 1, -1, fun _ => 0⟩
  | k + 1 => (krun R cols k).bind (kstep (rows0 R cols).length cols.length k)
def kout (s : KS) (k : Nat) : Int := if (k : Int) = s.free then s.last else -(s.M (s.pos k) s.free.toNat)
def kgcd (o : List Int) : Nat := o.foldl (fun g x => Nat.gcd g x.natAbs) 0
def kfin (n : Nat) (s : KS) : Option (List Int) :=
  if s.free < 0 then none else
  if ((List.range n).map (kout s)).any (· == 0) = true then none else
  some ((List.range n).map fun k => if kout s 0 < 0 then -((kout s k).tdiv (kgcd ((List.range n).map (kout s)))) else (kout s k).tdiv (kgcd ((List.range n).map (kout s))))
def kerR (R : List (List Int)) (cols : List Nat) : Option (List Int) := (krun R cols cols.length).bind (kfin cols.length)
def kerV : Option (List Int) → AV
  | none => .tup [.nilsl, .bool false]
  | some l => .tup [sli l, .bool true]
def colI (cols : List Nat) : List Int := cols.map fun c : Nat => (c : Int)
def KBd (R : List (List Int)) (cols : List Nat) : Prop := ∀ k s, krun R cols k = some s → (k < cols.length ∨ (k = cols.length ∧ 0 ≤ s.free)) → s.last ≠ 0 ∧ (-2147483648 < s.last ∧ s.last < 2147483648) ∧ ∀ i c, -2147483648 < s.M i c ∧ s.M i c < 2147483648
theorem colI_get {cols : List Nat} {i c : Nat} (h : cols[i]? = some c) : (colI cols)[i]? = some (c : Int) := by simp [colI, h]
theorem colI_len (cols : List Nat) : (colI cols).length = cols.length := by simp [colI]
theorem pad_rowF {r : List Int} (h : r.length ≤ 10) : pad r = rowF 10 (fun p => r.getD p 0) := pad_range h
theorem rows0_take (R : List (List Int)) (cols : List Nat) {a : Nat} {r : List Int} (h : R[a]? = some r) : rows0 (R.take (a + 1)) cols = rows0 (R.take a) cols ++ if nz (rrow cols r) = true then [rrow cols r] else [] := by
  unfold rows0
  rw [List.take_add_one, List.map_append, List.filter_append, h]
  congr 1
  simp only [Option.toList, List.map_cons, List.map_nil, List.filter_cons, List.filter_nil]
theorem pad_flat_len {R : List (List Int)} (h : ∀ r ∈ R, r.length ≤ 10) : (R.flatMap pad).length = R.length * 10 := by
  rw [flat10_tab h, flat10_len]
theorem rows0_len10 {R : List (List Int)} {cols : List Nat} (hn : cols.length ≤ 10) : ∀ r ∈ rows0 R cols, r.length ≤ 10 := by
  intro r hr
  unfold rows0 at hr
  obtain ⟨q, _, rfl⟩ := List.mem_map.1 (List.mem_filter.1 hr).1
  simp [rrow]; exact hn
theorem rows0_le (R : List (List Int)) (cols : List Nat) : (rows0 R cols).length ≤ R.length := by
  unfold rows0
  exact Nat.le_trans (List.length_filter_le _ _) (by simp)
theorem eq_row10 (f : Nat → Int) : aEq (.flat true [.i, .i, .i, .i, .i, .i, .i, .i, .i, .i]) true (.agg (rowF 10 f)) (.agg [.int .i64 0, .int .i64 0, .int .i64 0, .int .i64 0, .int .i64 0, .int .i64 0, .int .i64 0, .int .i64 0, .int .i64 0, .int .i64 0]) =
    some (.bool ((List.range 10).any fun c => f c != 0)) := by
  have e : rowF 10 f = [.int .i64 (f 0), .int .i64 (f 1), .int .i64 (f 2), .int .i64 (f 3), .int .i64 (f 4), .int .i64 (f 5), .int .i64 (f 6), .int .i64 (f 7), .int .i64 (f 8), .int .i64 (f 9)] := rfl
  rw [e]
  simp only [aEq, eqCells, eqCell, if_true]
  congr 2
  simp only [show List.range 10 = [0, 1, 2, 3, 4, 5, 6, 7, 8, 9] from rfl, List.any_cons, List.any_nil, Bool.or_false, bne, Bool.and_true]
  have : ∀ n : Int, (n == 0) = decide (n = 0) := fun n => rfl
  simp only [this]
  cases decide (f 0 = 0) <;> cases decide (f 1 = 0) <;> cases decide (f 2 = 0) <;> cases decide (f 3 = 0) <;> cases decide (f 4 = 0) <;> cases decide (f 5 = 0) <;> cases decide (f 6 = 0) <;> cases decide (f 7 = 0) <;> cases decide (f 8 = 0) <;> cases decide (f 9 = 0) <;> rfl
theorem any10 {r : List Int} (h : r.length ≤ 10) : ((List.range 10).any fun c => r.getD c 0 != 0) = nz r := by
  unfold nz
  refine Bool.eq_iff_iff.2 ?_
  simp only [List.any_eq_true, List.mem_range]
  constructor
  · rintro ⟨c, hc, h0⟩
    rw [List.getD_eq_getElem?_getD] at h0
    cases hx : r[c]? with
    | none => rw [hx] at h0; simp at h0
    | some x => rw [hx] at h0; exact ⟨x, List.mem_of_getElem? hx, h0⟩
  · rintro ⟨x, hx, h0⟩
    obtain ⟨j, hj, hl⟩ := mem_at hx
    exact ⟨j, by omega, by rw [List.getD_eq_getElem?_getD, hj]; exact h0⟩
theorem one_rowF (n : Nat) (f : Nat → Int) : (rowF n f).all AV.one = true := by
  rw [List.all_eq_true]; intro y hy
  simp only [rowF, ints, List.mem_map] at hy
  obtain ⟨z, _, rfl⟩ := hy; rfl
theorem put10 {cs : List AV} (h : cs.length = 10) : putR [.int .i64 0, .int .i64 0, .int .i64 0, .int .i64 0, .int .i64 0, .int .i64 0, .int .i64 0, .int .i64 0, .int .i64 0, .int .i64 0] 0 cs = cs := by
  rcases hp : cs with _ | ⟨a, _ | ⟨b, l⟩⟩
  · rw [hp] at h; cases h
  · rw [hp] at h; cases h
  · rw [hp] at h
    rw [putR_many, h]; simp
theorem zero10 : [AV.int .i64 0, .int .i64 0, .int .i64 0, .int .i64 0, .int .i64 0, .int .i64 0, .int .i64 0, .int .i64 0, .int .i64 0, .int .i64 0] = rowF 10 (fun _ => 0) := rfl
theorem flat10_get {nr i c : Nat} (M : Mx) (hi : i < nr) (hc : c < 10) : (flat10 nr M)[i * 10 + c]? = some (.int .i64 (M i c)) := by
  have h3 : i * 10 + c < nr * 10 := by omega
  have h1 : (i * 10 + c) / 10 = i := by omega
  have h2 : (i * 10 + c) % 10 = c := by omega
  simp [flat10, ints, List.getElem?_range h3, h1, h2]
theorem flat10_drop {nr p : Nat} (M : Mx) (hp : p ≤ nr) : ((flat10 nr M).drop (p * 10)).take ((nr - p) * 10) = flat10 (nr - p) (fun i c => M (p + i) c) := by
  rw [List.take_of_length_le (by rw [List.length_drop, flat10_len]; omega)]
  refine List.ext_getElem? fun j => ?_
  rw [List.getElem?_drop]
  by_cases hj : j < (nr - p) * 10
  · have e1 : p * 10 + j = (p + j / 10) * 10 + j % 10 := by omega
    have e2 : j = (j / 10) * 10 + j % 10 := by omega
    rw [e1, flat10_get M (by omega) (by omega)]
    conv => rhs; rw [e2]
    rw [flat10_get (fun i c => M (p + i) c) (by omega) (by omega)]
  · rw [List.getElem?_eq_none (by rw [flat10_len]; omega), List.getElem?_eq_none (by rw [flat10_len]; omega)]
theorem flat10_row {nr i : Nat} (M : Mx) (hi : i < nr) : ((flat10 nr M).drop (i * 10)).take 10 = rowF 10 (M i) := by
  refine List.ext_getElem? fun j => ?_
  by_cases hj : j < 10
  · rw [List.getElem?_take_of_lt hj, List.getElem?_drop, flat10_get M hi hj, rowF_get (M i) hj]
  · rw [List.getElem?_eq_none (by simp; omega), List.getElem?_eq_none (by rw [rowF_len]; omega)]
theorem flat10_put {nr i : Nat} (M : Mx) (f : Nat → Int) (hi : i < nr) : putR (flat10 nr M) (i * 10) (rowF 10 f) = flat10 nr (fun j c => if j = i then f c else M j c) := by
  have e : putR (flat10 nr M) (i * 10) (rowF 10 f) = (flat10 nr M).take (i * 10) ++ rowF 10 f ++ (flat10 nr M).drop (i * 10 + 10) := rfl
  rw [e]
  refine List.ext_getElem? fun j => ?_
  have hl := flat10_len nr M
  have hlt : ((flat10 nr M).take (i * 10)).length = i * 10 := by rw [List.length_take]; omega
  by_cases hj : j < nr * 10
  · have e2 : j = (j / 10) * 10 + j % 10 := by omega
    conv => rhs; rw [e2]
    rw [flat10_get _ (by omega) (by omega)]
    by_cases c1 : j < i * 10
    · rw [List.append_assoc, List.getElem?_append_left (by omega), List.getElem?_take_of_lt c1]
      conv => lhs; rw [e2]
      rw [flat10_get _ (by omega) (by omega), if_neg (by omega)]
    · by_cases c2 : j < i * 10 + 10
      · rw [List.append_assoc, List.getElem?_append_right (by omega), hlt, List.getElem?_append_left (by rw [rowF_len]; omega), rowF_get f (by omega), if_pos (by omega)]
        congr 3; omega
      · rw [List.getElem?_append_right (by rw [List.length_append, hlt, rowF_len]; omega), List.length_append, hlt, rowF_len, List.getElem?_drop, show i * 10 + 10 + (j - (i * 10 + 10)) = j by omega]
        conv => lhs; rw [e2]
        rw [flat10_get _ (by omega) (by omega), if_neg (by omega)]
  · rw [List.getElem?_eq_none (by rw [List.length_append, List.length_append, hlt, rowF_len, List.length_drop]; omega), List.getElem?_eq_none (by rw [flat10_len]; omega)]
theorem rowNz (f : Nat → Int) (k : Nat) (hk : k < 10) : PSpec Try.prog 71 [.agg (rowF 10 f), .fptr [.int .i64 k]] (.bool (f k != 0)) := by
  refine PSpec.of_rn 64 SK.ok71 rfl (by simp only [noRefs, noRef, noRefs_rowF]; rfl) rfl ?_
  have hk' : (k : Int) < 10 := by omega
  simp (maxSteps := 1000000) (disch := first | omega | (simp only [lenW] <;> omega)) only [SK.s71, hk', rowF_get f hk, wordsN, Int.reduceGT, wordsR, ne_eq, words, Nat.reduceAdd, Nat.reduceEqDiff, Nat.reduceBEq, ↓reduceIte, reduceCtorEq, SX.exit.injEq, if_true, if_false, Int.reduceAdd, Int.reduceSub, Int.reduceMul, Int.reduceLT, Int.reduceLE, Int.reduceEq, Int.reduceNe, Int.reduceNeg, Int.reduceToNat, Nat.reduceMul, Nat.reduceLT, Nat.reduceSub, Nat.reduceLeDiff]
  refine ⟨.inr trivial, _, rfl, ?_⟩
  have : (f k != 0) = !decide (f k = 0) := rfl
  rw [this]; exact Rn.same rfl
def kidx : Option Nat → Int
  | none => -1
  | some i => i
theorem index70 (n k : Nat) (M : Mx) (hk : k < 10) (hn : n ≤ 1000) : PSpec Try.prog 70 [.fsl (flat10 n M) n 10, .fn 71 [] [.fptr [.int .i64 k]]] (.int .i64 (kidx ((List.range n).findIdx? fun i => M i k != 0))) := by
  have hnf : noRefs (flat10 n M) = true := noRefs_ints _
  refine PSpec.of_rn 64 SK.ok70 rfl (by simp only [noRefs, noRef, hnf]; rfl) rfl ?_
  simp (maxSteps := 1000000) (disch := first | omega | (simp only [lenW] <;> omega)) only [SK.s70, wordsN, Int.reduceGT, wordsR, ne_eq, words, Nat.reduceAdd, Nat.reduceEqDiff, Nat.reduceBEq, ↓reduceIte, reduceCtorEq, SX.exit.injEq, if_true, if_false, Int.reduceAdd, Int.reduceSub, Int.reduceMul, Int.reduceLT, Int.reduceLE, Int.reduceEq, Int.reduceNe, Int.reduceNeg, Int.reduceToNat, Nat.reduceMul, Nat.reduceLT, Nat.reduceSub, Nat.reduceLeDiff]
  refine wS_loopR 100 (fun i : Nat => [(0, .fsl (flat10 n M) n 10), (1, .fn 71 [] [.fptr [.int .i64 k]]), (7, .int .i64 n), (8, .int .i64 i)]) (fun _ => []) (fun i => i ≤ n ∧ ∀ j, j < i → (M j k != 0) = false) (fun i => n - i) 0 ?_ ⟨Nat.zero_le _, fun j hj => absurd hj (Nat.not_lt_zero _)⟩ ?_
  · refine ⟨[], rfl, RO.zero, trivial, RT.cons' rfl (Rn.same (by simp only [noRef, hnf])) (RT.cons' rfl (Rn.same rfl) (RT.cons' rfl (Rn.same rfl) (RT.cons' rfl (Rn.same rfl) RT.nil)))⟩
  rintro i ⟨hi, hb⟩
  by_cases hlt : i < n
  · have hd : ((flat10 n M).drop (i * 10)).take 10 = rowF 10 (M i) := flat10_row M hlt
    have hl10 : (10 ≤ ((flat10 n M).drop (i * 10)).length) = True := eq_true (by rw [List.length_drop, flat10_len]; omega)
    simp (maxSteps := 1000000) (disch := first | omega | (simp only [lenW] <;> omega)) only [hlt, hd, hl10, wordsN, Int.reduceGT, wordsR, ne_eq, words, Nat.reduceAdd, Nat.reduceEqDiff, Nat.reduceBEq, ↓reduceIte, reduceCtorEq, SX.exit.injEq, if_true, if_false, Int.reduceAdd, Int.reduceSub, Int.reduceMul, Int.reduceLT, Int.reduceLE, Int.reduceEq, Int.reduceNe, Int.reduceNeg, Int.reduceToNat, Nat.reduceMul, Nat.reduceLT, Nat.reduceSub, Nat.reduceLeDiff]
    refine call_pure (by simpa using rowNz (M i) k hk) ?_
    cases hz : (M i k != 0) with
    | true =>
      simp (maxSteps := 1000000) (disch := first | omega | (simp only [lenW] <;> omega)) only [wordsN, Int.reduceGT, wordsR, ne_eq, words, Nat.reduceAdd, Nat.reduceEqDiff, Nat.reduceBEq, ↓reduceIte, reduceCtorEq, SX.exit.injEq, if_true, if_false, Int.reduceAdd, Int.reduceSub, Int.reduceMul, Int.reduceLT, Int.reduceLE, Int.reduceEq, Int.reduceNe, Int.reduceNeg, Int.reduceToNat, Nat.reduceMul, Nat.reduceLT, Nat.reduceSub, Nat.reduceLeDiff]
      refine ⟨.inr trivial, _, rfl, ?_⟩
      have e : (List.range n).findIdx? (fun i => M i k != 0) = some i := by
        rw [List.findIdx?_eq_some_iff_getElem]
        refine ⟨by simp; exact hlt, by simpa using hz, fun j hj => ?_⟩
        have := hb j hj
        simpa using this
      rw [e]; exact Rn.same rfl
    | false =>
      simp (maxSteps := 1000000) (disch := first | omega | (simp only [lenW] <;> omega)) only [wordsN, Int.reduceGT, wordsR, ne_eq, words, Nat.reduceAdd, Nat.reduceEqDiff, Nat.reduceBEq, ↓reduceIte, reduceCtorEq, SX.exit.injEq, if_true, if_false, Int.reduceAdd, Int.reduceSub, Int.reduceMul, Int.reduceLT, Int.reduceLE, Int.reduceEq, Int.reduceNe, Int.reduceNeg, Int.reduceToNat, Nat.reduceMul, Nat.reduceLT, Nat.reduceSub, Nat.reduceLeDiff]
      refine ⟨i + 1, by omega, ⟨by omega, fun j hj => ?_⟩, ?_⟩
      · by_cases e : j = i
        · subst e; exact hz
        · exact hb j (by omega)
      · exact ⟨[], rfl, RO.zero, trivial, RT.cons' rfl (Rn.same (by simp only [noRef, hnf])) (RT.cons' rfl (Rn.same rfl) (RT.cons' rfl (Rn.same rfl) (RT.cons' rfl (Rn.same rfl) RT.nil)))⟩
  · simp (maxSteps := 1000000) (disch := first | omega | (simp only [lenW] <;> omega)) only [hlt, wordsN, Int.reduceGT, wordsR, ne_eq, words, Nat.reduceAdd, Nat.reduceEqDiff, Nat.reduceBEq, ↓reduceIte, reduceCtorEq, SX.exit.injEq, if_true, if_false, Int.reduceAdd, Int.reduceSub, Int.reduceMul, Int.reduceLT, Int.reduceLE, Int.reduceEq, Int.reduceNe, Int.reduceNeg, Int.reduceToNat, Nat.reduceMul, Nat.reduceLT, Nat.reduceSub, Nat.reduceLeDiff]
    refine ⟨.inr trivial, _, rfl, ?_⟩
    have e : (List.range n).findIdx? (fun i => M i k != 0) = none := by
      rw [List.findIdx?_eq_none_iff]
      intro j hj
      exact hb j (by have := List.mem_range.1 hj; omega)
    rw [e]; exact Rn.same rfl
structure KInv (nr k : Nat) (s : KS) : Prop where
  piv : s.piv ≤ nr
  free : s.free = -1 ∨ (0 ≤ s.free ∧ s.free < k)
  pos : ∀ c, c < k → (c : Int) ≠ s.free → s.pos c < s.piv
theorem kfind_some {nr k i : Nat} {s : KS} (h : kfind nr k s = some i) : s.piv + i < nr ∧ s.M (s.piv + i) k ≠ 0 := by
  unfold kfind at h
  rw [List.findIdx?_eq_some_iff_getElem] at h
  obtain ⟨h1, h2, _⟩ := h
  simp at h1 h2
  exact ⟨by omega, h2⟩
theorem krun_inv (R : List (List Int)) (cols : List Nat) : ∀ (k : Nat) (s : KS), krun R cols k = some s → KInv (rows0 R cols).length k s
  | 0, s, h => by
    simp only [krun, Option.some.injEq] at h
    subst h
    exact ⟨Nat.zero_le _, .inl rfl, fun c hc => absurd hc (Nat.not_lt_zero _)⟩
  | k + 1, s, h => by
    simp only [krun, Option.bind_eq_some_iff] at h
    obtain ⟨s0, h0, h1⟩ := h
    obtain ⟨i1, i2, i3⟩ := krun_inv R cols k s0 h0
    unfold kstep at h1
    split at h1
    · split at h1
      · cases h1
      · rename_i hf
        cases h1
        refine ⟨i1, .inr ⟨by simp, by simp; omega⟩, fun c hc hne => ?_⟩
        have hck : c ≠ k := fun e => hne (by rw [e])
        exact i3 c (by omega) (by rcases i2 with h | h <;> omega)
    · rename_i i hi
      cases h1
      obtain ⟨q1, q2⟩ := kfind_some hi
      refine ⟨by show s0.piv + 1 ≤ _; omega, by rcases i2 with h | h
                                                · exact .inl h
                                                · exact .inr ⟨h.1, by show s0.free < _; omega⟩, fun c hc hne => ?_⟩
      show (if c = k then s0.piv else s0.pos c) < s0.piv + 1
      split
      · omega
      · have := i3 c (by omega) hne; omega
theorem krun_none (R : List (List Int)) (cols : List Nat) : ∀ (k j : Nat), krun R cols k = none → krun R cols (k + j) = none
  | k, 0, h => h
  | k, j + 1, h => by
    show (krun R cols (k + j)).bind _ = none
    rw [krun_none R cols k j h]; rfl
theorem kgcd_succ (f : Nat → Int) (k : Nat) : kgcd ((List.range (k + 1)).map f) = Nat.gcd (kgcd ((List.range k).map f)) (f k).natAbs := by
  unfold kgcd
  rw [List.range_succ, List.map_append, List.foldl_append]; rfl
theorem tdiv_small {x : Int} {g : Nat} (h1 : -2147483648 < x) (h2 : x < 2147483648) : -2147483648 < x.tdiv g ∧ x.tdiv g < 2147483648 := by
  have h : (x.tdiv g).natAbs ≤ x.natAbs := by rw [Int.natAbs_tdiv]; exact Nat.div_le_self _ _
  omega
end Go.AM.SN
namespace Go.AM.SN
set_option maxRecDepth 100000
set_option linter.unusedSimpArgs false
set_option linter.unusedVariables false
abbrev Rw := Nat → Int
def D2 (r0 r1 : Rw) (c0 c1 : Nat) : Int := r0 c0 * r1 c1 - r0 c1 * r1 c0
def D3 (r0 r1 r2 : Rw) (c0 c1 c2 : Nat) : Int := r2 c2 * D2 r0 r1 c0 c1 - r2 c1 * D2 r0 r1 c0 c2 + r2 c0 * D2 r0 r1 c1 c2
def D4 (r0 r1 r2 r3 : Rw) (c0 c1 c2 c3 : Nat) : Int := r3 c3 * D3 r0 r1 r2 c0 c1 c2 - r3 c2 * D3 r0 r1 r2 c0 c1 c3 + r3 c1 * D3 r0 r1 r2 c0 c2 c3 - r3 c0 * D3 r0 r1 r2 c1 c2 c3
def D5 (r0 r1 r2 r3 r4 : Rw) (c0 c1 c2 c3 c4 : Nat) : Int := r4 c4 * D4 r0 r1 r2 r3 c0 c1 c2 c3 - r4 c3 * D4 r0 r1 r2 r3 c0 c1 c2 c4 + r4 c2 * D4 r0 r1 r2 r3 c0 c1 c3 c4 - r4 c1 * D4 r0 r1 r2 r3 c0 c2 c3 c4 + r4 c0 * D4 r0 r1 r2 r3 c1 c2 c3 c4
theorem syl1 (a p j : Rw) (k0 k c : Nat) : D2 a p k0 k * D2 a j k0 c - D2 a j k0 k * D2 a p k0 c = a k0 * D3 a p j k0 k c := by
  unfold D3 D2; grind
theorem syl2 (a b p j : Rw) (k0 k1 k c : Nat) : D3 a b p k0 k1 k * D3 a b j k0 k1 c - D3 a b j k0 k1 k * D3 a b p k0 k1 c = D2 a b k0 k1 * D4 a b p j k0 k1 k c := by
  unfold D4 D3 D2; grind
set_option maxHeartbeats 4000000 in
theorem syl3 (a b e p j : Rw) (k0 k1 k2 k c : Nat) : D4 a b e p k0 k1 k2 k * D4 a b e j k0 k1 k2 c - D4 a b e j k0 k1 k2 k * D4 a b e p k0 k1 k2 c = D3 a b e k0 k1 k2 * D5 a b e p j k0 k1 k2 k c := by
  unfold D5 D4 D3 D2; grind
theorem piv1 (a p : Rw) (k0 k c : Nat) : D2 a p k0 k * a c - a k * D2 a p k0 c = a k0 * D2 a p c k := by
  unfold D2; grind
theorem piv2a (a b p : Rw) (k0 k1 k c : Nat) : D3 a b p k0 k1 k * D2 a b c k1 - D2 a b k k1 * D3 a b p k0 k1 c = D2 a b k0 k1 * D3 a b p c k1 k := by
  unfold D3 D2; grind
theorem piv2b (a b p : Rw) (k0 k1 k c : Nat) : D3 a b p k0 k1 k * D2 a b k0 c - D2 a b k0 k * D3 a b p k0 k1 c = D2 a b k0 k1 * D3 a b p k0 c k := by
  unfold D3 D2; grind
theorem piv3a (a b e p : Rw) (k0 k1 k2 k c : Nat) : D4 a b e p k0 k1 k2 k * D3 a b e c k1 k2 - D3 a b e k k1 k2 * D4 a b e p k0 k1 k2 c = D3 a b e k0 k1 k2 * D4 a b e p c k1 k2 k := by
  unfold D4 D3 D2; grind
theorem piv3b (a b e p : Rw) (k0 k1 k2 k c : Nat) : D4 a b e p k0 k1 k2 k * D3 a b e k0 c k2 - D3 a b e k0 k k2 * D4 a b e p k0 k1 k2 c = D3 a b e k0 k1 k2 * D4 a b e p k0 c k2 k := by
  unfold D4 D3 D2; grind
theorem piv3c (a b e p : Rw) (k0 k1 k2 k c : Nat) : D4 a b e p k0 k1 k2 k * D3 a b e k0 k1 c - D3 a b e k0 k1 k * D4 a b e p k0 k1 k2 c = D3 a b e k0 k1 k2 * D4 a b e p k0 k1 c k := by
  unfold D4 D3 D2; grind
theorem row1 (a j : Rw) (k0 f : Nat) : j f * a k0 - j k0 * a f = D2 a j k0 f := by unfold D2; grind
theorem row2 (a b j : Rw) (k0 k1 f : Nat) : j f * D2 a b k0 k1 - j k0 * D2 a b f k1 - j k1 * D2 a b k0 f = D3 a b j k0 k1 f := by unfold D3 D2; grind
theorem row3 (a b e j : Rw) (k0 k1 k2 f : Nat) : j f * D3 a b e k0 k1 k2 - j k0 * D3 a b e f k1 k2 - j k1 * D3 a b e k0 f k2 - j k2 * D3 a b e k0 k1 f = D4 a b e j k0 k1 k2 f := by unfold D4 D3 D2; grind
theorem row4 (a b e d j : Rw) (k0 k1 k2 k3 f : Nat) : j f * D4 a b e d k0 k1 k2 k3 - j k0 * D4 a b e d f k1 k2 k3 - j k1 * D4 a b e d k0 f k2 k3 - j k2 * D4 a b e d k0 k1 f k3 - j k3 * D4 a b e d k0 k1 k2 f = D5 a b e d j k0 k1 k2 k3 f := by unfold D5 D4 D3 D2; grind
theorem dup2 (a : Rw) (c0 c1 : Nat) : D2 a a c0 c1 = 0 := by unfold D2; grind
theorem dup3a (a b : Rw) (c0 c1 c2 : Nat) : D3 a b a c0 c1 c2 = 0 := by unfold D3 D2; grind
theorem dup3b (a b : Rw) (c0 c1 c2 : Nat) : D3 a b b c0 c1 c2 = 0 := by unfold D3 D2; grind
theorem dup4a (a b e : Rw) (c0 c1 c2 c3 : Nat) : D4 a b e a c0 c1 c2 c3 = 0 := by unfold D4 D3 D2; grind
theorem dup4b (a b e : Rw) (c0 c1 c2 c3 : Nat) : D4 a b e b c0 c1 c2 c3 = 0 := by unfold D4 D3 D2; grind
theorem dup4c (a b e : Rw) (c0 c1 c2 c3 : Nat) : D4 a b e e c0 c1 c2 c3 = 0 := by unfold D4 D3 D2; grind
theorem dup5a (a b e d : Rw) (c0 c1 c2 c3 c4 : Nat) : D5 a b e d a c0 c1 c2 c3 c4 = 0 := by unfold D5 D4 D3 D2; grind
theorem dup5b (a b e d : Rw) (c0 c1 c2 c3 c4 : Nat) : D5 a b e d b c0 c1 c2 c3 c4 = 0 := by unfold D5 D4 D3 D2; grind
theorem dup5c (a b e d : Rw) (c0 c1 c2 c3 c4 : Nat) : D5 a b e d e c0 c1 c2 c3 c4 = 0 := by unfold D5 D4 D3 D2; grind
theorem dup5d (a b e d : Rw) (c0 c1 c2 c3 c4 : Nat) : D5 a b e d d c0 c1 c2 c3 c4 = 0 := by unfold D5 D4 D3 D2; grind
theorem mul_bd {x y : Int} {a b : Nat} (hx : x.natAbs ≤ a) (hy : y.natAbs ≤ b) : (x * y).natAbs ≤ a * b := by
  rw [Int.natAbs_mul]; exact Nat.mul_le_mul hx hy
section
variable {B : Nat} {r0 r1 r2 r3 r4 : Rw} (h0 : ∀ c, (r0 c).natAbs ≤ B) (h1 : ∀ c, (r1 c).natAbs ≤ B) (h2 : ∀ c, (r2 c).natAbs ≤ B) (h3 : ∀ c, (r3 c).natAbs ≤ B) (h4 : ∀ c, (r4 c).natAbs ≤ B)
include h0 h1
theorem D2_bd (c0 c1 : Nat) : (D2 r0 r1 c0 c1).natAbs ≤ 2 * (B * B) := by
  have e1 := mul_bd (h0 c0) (h1 c1)
  have e2 := mul_bd (h0 c1) (h1 c0)
  unfold D2; omega
include h2
theorem D3_bd (c0 c1 c2 : Nat) : (D3 r0 r1 r2 c0 c1 c2).natAbs ≤ 3 * (B * (2 * (B * B))) := by
  have e1 := mul_bd (h2 c2) (D2_bd h0 h1 c0 c1)
  have e2 := mul_bd (h2 c1) (D2_bd h0 h1 c0 c2)
  have e3 := mul_bd (h2 c0) (D2_bd h0 h1 c1 c2)
  unfold D3; omega
include h3
theorem D4_bd (c0 c1 c2 c3 : Nat) : (D4 r0 r1 r2 r3 c0 c1 c2 c3).natAbs ≤ 4 * (B * (3 * (B * (2 * (B * B))))) := by
  have e1 := mul_bd (h3 c3) (D3_bd h0 h1 h2 c0 c1 c2)
  have e2 := mul_bd (h3 c2) (D3_bd h0 h1 h2 c0 c1 c3)
  have e3 := mul_bd (h3 c1) (D3_bd h0 h1 h2 c0 c2 c3)
  have e4 := mul_bd (h3 c0) (D3_bd h0 h1 h2 c1 c2 c3)
  unfold D4; omega
include h4
theorem D5_bd (c0 c1 c2 c3 c4 : Nat) : (D5 r0 r1 r2 r3 r4 c0 c1 c2 c3 c4).natAbs ≤ 5 * (B * (4 * (B * (3 * (B * (2 * (B * B))))))) := by
  have e1 := mul_bd (h4 c4) (D4_bd h0 h1 h2 h3 c0 c1 c2 c3)
  have e2 := mul_bd (h4 c3) (D4_bd h0 h1 h2 h3 c0 c1 c2 c4)
  have e3 := mul_bd (h4 c2) (D4_bd h0 h1 h2 h3 c0 c1 c3 c4)
  have e4 := mul_bd (h4 c1) (D4_bd h0 h1 h2 h3 c0 c2 c3 c4)
  have e5 := mul_bd (h4 c0) (D4_bd h0 h1 h2 h3 c1 c2 c3 c4)
  unfold D5; omega
end
end Go.AM.SN
namespace Go.AM.SN
set_option maxRecDepth 100000
set_option linter.unusedSimpArgs false
set_option linter.unusedVariables false
def Rel (n : Nat) (P : Nat → Rw) (K : Nat → Nat) : Nat → Mx → Int → Prop
  | 0, M, last => last = 1 ∧ ∀ j c, c < n → M j c = P j c
  | 1, M, last => last = P 0 (K 0) ∧ (∀ c, c < n → M 0 c = P 0 c) ∧ ∀ j c, 1 ≤ j → c < n → M j c = D2 (P 0) (P j) (K 0) c
  | 2, M, last => last = D2 (P 0) (P 1) (K 0) (K 1) ∧ (∀ c, c < n → M 0 c = D2 (P 0) (P 1) c (K 1)) ∧ (∀ c, c < n → M 1 c = D2 (P 0) (P 1) (K 0) c) ∧
      ∀ j c, 2 ≤ j → c < n → M j c = D3 (P 0) (P 1) (P j) (K 0) (K 1) c
  | 3, M, last => last = D3 (P 0) (P 1) (P 2) (K 0) (K 1) (K 2) ∧ (∀ c, c < n → M 0 c = D3 (P 0) (P 1) (P 2) c (K 1) (K 2)) ∧ (∀ c, c < n → M 1 c = D3 (P 0) (P 1) (P 2) (K 0) c (K 2)) ∧
      (∀ c, c < n → M 2 c = D3 (P 0) (P 1) (P 2) (K 0) (K 1) c) ∧ ∀ j c, 3 ≤ j → c < n → M j c = D4 (P 0) (P 1) (P 2) (P j) (K 0) (K 1) (K 2) c
  | 4, M, last => last = D4 (P 0) (P 1) (P 2) (P 3) (K 0) (K 1) (K 2) (K 3) ∧ (∀ c, c < n → M 0 c = D4 (P 0) (P 1) (P 2) (P 3) c (K 1) (K 2) (K 3)) ∧ (∀ c, c < n → M 1 c = D4 (P 0) (P 1) (P 2) (P 3) (K 0) c (K 2) (K 3)) ∧
      (∀ c, c < n → M 2 c = D4 (P 0) (P 1) (P 2) (P 3) (K 0) (K 1) c (K 3)) ∧ (∀ c, c < n → M 3 c = D4 (P 0) (P 1) (P 2) (P 3) (K 0) (K 1) (K 2) c) ∧
      ∀ j c, 4 ≤ j → c < n → M j c = D5 (P 0) (P 1) (P 2) (P 3) (P j) (K 0) (K 1) (K 2) (K 3) c
  | _, _, _ => True
def rswap (P : Nat → Rw) (a b : Nat) : Nat → Rw := fun j => if j = a then P b else if j = b then P a else P j
theorem rswap_lt {P : Nat → Rw} {a b j : Nat} (h1 : j < a) (h2 : a ≤ b) : rswap P a b j = P j := by
  unfold rswap; rw [if_neg (by omega), if_neg (by omega)]
theorem kswap_lt {M : Mx} {a b j : Nat} (h1 : j < a) (h2 : a ≤ b) : kswap M a b j = M j := by
  funext c; unfold kswap; rw [if_neg (by omega), if_neg (by omega)]
theorem swap_all {n : Nat} {P : Nat → Rw} {M : Mx} {s i : Nat} {F : Rw → Nat → Int} (h : ∀ j c, s ≤ j → c < n → M j c = F (P j) c) : ∀ j c, s ≤ j → c < n → kswap M s (s + i) j c = F (rswap P s (s + i) j) c := by
  intro j c hj hc
  unfold kswap rswap
  by_cases e1 : j = s
  · rw [if_pos e1, if_pos e1]; exact h _ _ (by omega) hc
  · by_cases e2 : j = s + i
    · rw [if_neg e1, if_neg e1, if_pos e2, if_pos e2]; exact h _ _ (Nat.le_refl _) hc
    · rw [if_neg e1, if_neg e1, if_neg e2, if_neg e2]; exact h _ _ hj hc
theorem Rel.swap {n : Nat} {P : Nat → Rw} {K : Nat → Nat} {s : Nat} {M : Mx} {last : Int} (i : Nat) (hs : s ≤ 4) (h : Rel n P K s M last) : Rel n (rswap P s (s + i)) K s (kswap M s (s + i)) last := by
  match s, hs, h with
  | 0, _, h => exact ⟨h.1, fun j c hc => swap_all (F := fun r c => r c) (fun j c _ hc => h.2 j c hc) j c (Nat.zero_le _) hc⟩
  | 1, _, ⟨h1, h2, h3⟩ =>
    simp only [Rel, rswap_lt (P := P) (show 0 < 1 by omega) (show 1 ≤ 1 + i by omega), kswap_lt (M := M) (show 0 < 1 by omega) (show 1 ≤ 1 + i by omega)]
    exact ⟨h1, h2, swap_all (F := fun r c => D2 (P 0) r (K 0) c) h3⟩
  | 2, _, ⟨h1, h2, h3, h4⟩ =>
    simp only [Rel, rswap_lt (P := P) (show 0 < 2 by omega) (show 2 ≤ 2 + i by omega), kswap_lt (M := M) (show 0 < 2 by omega) (show 2 ≤ 2 + i by omega), rswap_lt (P := P) (show 1 < 2 by omega) (show 2 ≤ 2 + i by omega), kswap_lt (M := M) (show 1 < 2 by omega) (show 2 ≤ 2 + i by omega)]
    exact ⟨h1, h2, h3, swap_all (F := fun r c => D3 (P 0) (P 1) r (K 0) (K 1) c) h4⟩
  | 3, _, ⟨h1, h2, h3, h4, h5⟩ =>
    simp only [Rel, rswap_lt (P := P) (show 0 < 3 by omega) (show 3 ≤ 3 + i by omega), kswap_lt (M := M) (show 0 < 3 by omega) (show 3 ≤ 3 + i by omega), rswap_lt (P := P) (show 1 < 3 by omega) (show 3 ≤ 3 + i by omega), kswap_lt (M := M) (show 1 < 3 by omega) (show 3 ≤ 3 + i by omega), rswap_lt (P := P) (show 2 < 3 by omega) (show 3 ≤ 3 + i by omega), kswap_lt (M := M) (show 2 < 3 by omega) (show 3 ≤ 3 + i by omega)]
    exact ⟨h1, h2, h3, h4, swap_all (F := fun r c => D4 (P 0) (P 1) (P 2) r (K 0) (K 1) (K 2) c) h5⟩
  | 4, _, ⟨h1, h2, h3, h4, h5, h6⟩ =>
    simp only [Rel, rswap_lt (P := P) (show 0 < 4 by omega) (show 4 ≤ 4 + i by omega), kswap_lt (M := M) (show 0 < 4 by omega) (show 4 ≤ 4 + i by omega), rswap_lt (P := P) (show 1 < 4 by omega) (show 4 ≤ 4 + i by omega), kswap_lt (M := M) (show 1 < 4 by omega) (show 4 ≤ 4 + i by omega), rswap_lt (P := P) (show 2 < 4 by omega) (show 4 ≤ 4 + i by omega), kswap_lt (M := M) (show 2 < 4 by omega) (show 4 ≤ 4 + i by omega), rswap_lt (P := P) (show 3 < 4 by omega) (show 4 ≤ 4 + i by omega), kswap_lt (M := M) (show 3 < 4 by omega) (show 4 ≤ 4 + i by omega)]
    exact ⟨h1, h2, h3, h4, h5, swap_all (F := fun r c => D5 (P 0) (P 1) (P 2) (P 3) r (K 0) (K 1) (K 2) (K 3) c) h6⟩
theorem kelim_piv {n k s c : Nat} {M : Mx} {last : Int} : kelim n k M s last s c = M s c := by unfold kelim; rw [if_pos (.inl rfl)]
theorem kelim_of {n k s j c : Nat} {M : Mx} {last v : Int} (hl : last ≠ 0) (hj : j ≠ s) (hc : c < n) (h : M s k * M j c - M j k * M s c = last * v) : kelim n k M s last j c = v := by
  unfold kelim; rw [if_neg (by omega), h, Int.mul_tdiv_cancel_left _ hl]
def kput (K : Nat → Nat) (s k : Nat) : Nat → Nat := fun l => if l = s then k else K l
theorem Rel.step {n : Nat} {P : Nat → Rw} {K : Nat → Nat} {s k : Nat} {M : Mx} {last : Int} (hs : s ≤ 3) (h : Rel n P K s M last) (hl : last ≠ 0) (hk : k < n) : Rel n P (kput K s k) (s + 1) (kelim n k M s last) (M s k) := by
  match s, hs, h with
  | 0, _, ⟨h1, h2⟩ =>
    refine ⟨h2 0 k hk, fun c hc => by rw [kelim_piv]; exact h2 0 c hc, fun j c hj hc => ?_⟩
    refine kelim_of hl (by omega) hc ?_
    rw [h2 _ _ hk, h2 _ _ hc, h2 _ _ hk, h2 _ _ hc, h1]
    show _ = 1 * D2 (P 0) (P j) k c
    unfold D2; grind
  | 1, _, ⟨h1, h2, h3⟩ =>
    have e0 : kput K 1 k 0 = K 0 := rfl
    have e1 : kput K 1 k 1 = k := rfl
    simp only [Rel, e0, e1]
    have hp : ∀ c, c < n → M 1 c = D2 (P 0) (P 1) (K 0) c := fun c hc => h3 1 c (Nat.le_refl _) hc
    refine ⟨hp k hk, fun c hc => ?_, fun c hc => by rw [kelim_piv]; exact hp c hc, fun j c hj hc => ?_⟩
    · refine kelim_of hl (by omega) hc ?_
      rw [hp _ hk, hp _ hc, h2 _ hk, h2 _ hc, h1, piv1]
    · refine kelim_of hl (by omega) hc ?_
      rw [hp _ hk, hp _ hc, h3 j _ (by omega) hk, h3 j _ (by omega) hc, h1, syl1]
  | 2, _, ⟨h1, h2, h3, h4⟩ =>
    have e0 : kput K 2 k 0 = K 0 := rfl
    have e1 : kput K 2 k 1 = K 1 := rfl
    have e2 : kput K 2 k 2 = k := rfl
    simp only [Rel, e0, e1, e2]
    have hp : ∀ c, c < n → M 2 c = D3 (P 0) (P 1) (P 2) (K 0) (K 1) c := fun c hc => h4 2 c (Nat.le_refl _) hc
    refine ⟨hp k hk, fun c hc => ?_, fun c hc => ?_, fun c hc => by rw [kelim_piv]; exact hp c hc, fun j c hj hc => ?_⟩
    · refine kelim_of hl (by omega) hc ?_
      rw [hp _ hk, hp _ hc, h2 _ hk, h2 _ hc, h1, piv2a]
    · refine kelim_of hl (by omega) hc ?_
      rw [hp _ hk, hp _ hc, h3 _ hk, h3 _ hc, h1, piv2b]
    · refine kelim_of hl (by omega) hc ?_
      rw [hp _ hk, hp _ hc, h4 j _ (by omega) hk, h4 j _ (by omega) hc, h1, syl2]
  | 3, _, ⟨h1, h2, h3, h4, h5⟩ =>
    have e0 : kput K 3 k 0 = K 0 := rfl
    have e1 : kput K 3 k 1 = K 1 := rfl
    have e2 : kput K 3 k 2 = K 2 := rfl
    have e3 : kput K 3 k 3 = k := rfl
    simp only [Rel, e0, e1, e2, e3]
    have hp : ∀ c, c < n → M 3 c = D4 (P 0) (P 1) (P 2) (P 3) (K 0) (K 1) (K 2) c := fun c hc => h5 3 c (Nat.le_refl _) hc
    refine ⟨hp k hk, fun c hc => ?_, fun c hc => ?_, fun c hc => ?_, fun c hc => by rw [kelim_piv]; exact hp c hc, fun j c hj hc => ?_⟩
    · refine kelim_of hl (by omega) hc ?_
      rw [hp _ hk, hp _ hc, h2 _ hk, h2 _ hc, h1, piv3a]
    · refine kelim_of hl (by omega) hc ?_
      rw [hp _ hk, hp _ hc, h3 _ hk, h3 _ hc, h1, piv3b]
    · refine kelim_of hl (by omega) hc ?_
      rw [hp _ hk, hp _ hc, h4 _ hk, h4 _ hc, h1, piv3c]
    · refine kelim_of hl (by omega) hc ?_
      rw [hp _ hk, hp _ hc, h5 j _ (by omega) hk, h5 j _ (by omega) hc, h1, syl3]
theorem Rel.bd {n : Nat} {P : Nat → Rw} {K : Nat → Nat} {s : Nat} {M : Mx} {last : Int} {B : Nat} (hB : ∀ j c, (P j c).natAbs ≤ B) (hB8 : B ≤ 8) (hs : s ≤ 4) (h : Rel n P K s M last) (hM : ∀ j c, n ≤ c → M j c = 0) :
    last.natAbs ≤ 3932160 ∧ ∀ j c, (M j c).natAbs ≤ 3932160 := by
  have hB' : ∀ j c, (P j c).natAbs ≤ 8 := fun j c => Nat.le_trans (hB j c) hB8
  have b2 := fun a b c d => D2_bd (hB' a) (hB' b) c d
  have b3 := fun a b e c d f => D3_bd (hB' a) (hB' b) (hB' e) c d f
  have b4 := fun a b e g c d f i => D4_bd (hB' a) (hB' b) (hB' e) (hB' g) c d f i
  have b5 := fun a b e g l c d f i m => D5_bd (hB' a) (hB' b) (hB' e) (hB' g) (hB' l) c d f i m
  have hz : ∀ j c, n ≤ c → (M j c).natAbs ≤ 3932160 := fun j c hc => by rw [hM j c hc]; decide
  match s, hs, h with
  | 0, _, ⟨h1, h2⟩ =>
    refine ⟨by rw [h1]; decide, fun j c => ?_⟩
    rcases Nat.lt_or_ge c n with hc | hc
    · rw [h2 j c hc]; have := hB' j c; omega
    · exact hz j c hc
  | 1, _, ⟨h1, h2, h3⟩ =>
    refine ⟨by rw [h1]; have := hB' 0 (K 0); omega, fun j c => ?_⟩
    rcases Nat.lt_or_ge c n with hc | hc
    · match j with
      | 0 => rw [h2 c hc]; have := hB' 0 c; omega
      | j + 1 => rw [h3 (j + 1) c (by omega) hc]; have := b2 0 (j + 1) (K 0) c; omega
    · exact hz j c hc
  | 2, _, ⟨h1, h2, h3, h4⟩ =>
    refine ⟨by rw [h1]; have := b2 0 1 (K 0) (K 1); omega, fun j c => ?_⟩
    rcases Nat.lt_or_ge c n with hc | hc
    · match j with
      | 0 => rw [h2 c hc]; have := b2 0 1 c (K 1); omega
      | 1 => rw [h3 c hc]; have := b2 0 1 (K 0) c; omega
      | j + 2 => rw [h4 (j + 2) c (by omega) hc]; have := b3 0 1 (j + 2) (K 0) (K 1) c; omega
    · exact hz j c hc
  | 3, _, ⟨h1, h2, h3, h4, h5⟩ =>
    refine ⟨by rw [h1]; have := b3 0 1 2 (K 0) (K 1) (K 2); omega, fun j c => ?_⟩
    rcases Nat.lt_or_ge c n with hc | hc
    · match j with
      | 0 => rw [h2 c hc]; have := b3 0 1 2 c (K 1) (K 2); omega
      | 1 => rw [h3 c hc]; have := b3 0 1 2 (K 0) c (K 2); omega
      | 2 => rw [h4 c hc]; have := b3 0 1 2 (K 0) (K 1) c; omega
      | j + 3 => rw [h5 (j + 3) c (by omega) hc]; have := b4 0 1 2 (j + 3) (K 0) (K 1) (K 2) c; omega
    · exact hz j c hc
  | 4, _, ⟨h1, h2, h3, h4, h5, h6⟩ =>
    refine ⟨by rw [h1]; have := b4 0 1 2 3 (K 0) (K 1) (K 2) (K 3); omega, fun j c => ?_⟩
    rcases Nat.lt_or_ge c n with hc | hc
    · match j with
      | 0 => rw [h2 c hc]; have := b4 0 1 2 3 c (K 1) (K 2) (K 3); omega
      | 1 => rw [h3 c hc]; have := b4 0 1 2 3 (K 0) c (K 2) (K 3); omega
      | 2 => rw [h4 c hc]; have := b4 0 1 2 3 (K 0) (K 1) c (K 3); omega
      | 3 => rw [h5 c hc]; have := b4 0 1 2 3 (K 0) (K 1) (K 2) c; omega
      | j + 4 => rw [h6 (j + 4) c (by omega) hc]; have := b5 0 1 2 3 (j + 4) (K 0) (K 1) (K 2) (K 3) c; omega
    · exact hz j c hc
end Go.AM.SN
namespace Go.AM.SN
set_option maxRecDepth 100000
set_option linter.unusedSimpArgs false
set_option linter.unusedVariables false
def kcol (free : Int) (l : Nat) : Nat := if free < 0 ∨ (l : Int) < free then l else l + 1
def kpos (free : Int) (c : Nat) : Nat := if free < 0 ∨ (c : Int) < free then c else c - 1
structure Inv (A : Nat → Rw) (nr n k : Nat) (s : KS) (P : Nat → Rw) (K : Nat → Nat) : Prop where
  from' : ∀ j, ∃ i, P j = A i
  onto : ∀ i, i < nr → ∃ j, j < nr ∧ P j = A i
  rel : Rel n P K s.piv s.M s.last
  nz : s.last ≠ 0
  out : ∀ j c, n ≤ c → s.M j c = 0
  cnt : (s.free = -1 ∧ s.piv = k) ∨ (0 ≤ s.free ∧ s.free < k ∧ s.piv + 1 = k ∧ ∀ j, s.piv ≤ j → j < nr → s.M j s.free.toNat = 0)
  col : ∀ l, l < s.piv → K l = kcol s.free l
  pos : ∀ c, c < k → (c : Int) ≠ s.free → s.pos c = kpos s.free c
theorem Rel.step' {n : Nat} {P : Nat → Rw} {K : Nat → Nat} {s k : Nat} {M : Mx} {last : Int} (hs : s ≤ 4) (h : Rel n P K s M last) (hl : last ≠ 0) (hk : k < n) : Rel n P (kput K s k) (s + 1) (kelim n k M s last) (M s k) := by
  by_cases e : s = 4
  · subst e; trivial
  · exact h.step (by omega) hl hk
theorem krun_Inv (R : List (List Int)) (cols : List Nat) (hn : cols.length ≤ 5) : ∀ (k : Nat) (s : KS), k ≤ cols.length → krun R cols k = some s → ∃ P K, Inv (mx (rows0 R cols)) (rows0 R cols).length cols.length k s P K
  | 0, s, _, h => by
    simp only [krun, Option.some.injEq] at h
    subst h
    refine ⟨mx (rows0 R cols), fun l => l, ⟨fun j => ⟨j, rfl⟩, fun i hi => ⟨i, hi, rfl⟩, ⟨rfl, fun _ _ _ => rfl⟩, (by show (1 : Int) ≠ 0; decide), fun j c hc => ?_, .inl ⟨rfl, rfl⟩, fun l hl => absurd hl (Nat.not_lt_zero _), fun c hc => absurd hc (Nat.not_lt_zero _)⟩⟩
    show ((rows0 R cols).getD j []).getD c 0 = 0
    rw [List.getD_eq_getElem?_getD, List.getD_eq_getElem?_getD]
    cases hj : (rows0 R cols)[j]? with
    | none => simp
    | some r =>
      have hr := List.mem_of_getElem? hj
      unfold rows0 at hr
      obtain ⟨q, _, rfl⟩ := List.mem_map.1 (List.mem_filter.1 hr).1
      simp only [Option.getD_some]
      rw [List.getElem?_eq_none (by simp [rrow]; exact hc)]; rfl
  | k + 1, s, hk, h => by
    simp only [krun, Option.bind_eq_some_iff] at h
    obtain ⟨s0, h0, h1⟩ := h
    obtain ⟨P, K, I⟩ := krun_Inv R cols hn k s0 (by omega) h0
    generalize (rows0 R cols).length = nr at *
    unfold kstep at h1
    split at h1
    · rename_i hf
      split at h1
      · cases h1
      · rename_i hfree
        cases h1
        have hm : s0.free = -1 ∧ s0.piv = k := by
          rcases I.cnt with h | h
          · exact h
          · exact absurd h.1 hfree
        refine ⟨P, K, ⟨I.from', I.onto, I.rel, I.nz, I.out, .inr ⟨by simp, by simp; omega, by show s0.piv + 1 = _; omega, ?_⟩, fun l hl => ?_, fun c hc hne => ?_⟩⟩
        · intro j hj hjn
          have hf' := hf
          unfold kfind at hf'
          rw [List.findIdx?_eq_none_iff] at hf'
          have := hf' (j - s0.piv) (by simp; have : s0.piv ≤ j := hj; omega)
          have hj' : s0.piv ≤ j := hj
          rw [show s0.piv + (j - s0.piv) = j by omega] at this
          simpa using this
        · have hl' : l < s0.piv := hl
          rw [I.col l hl']
          show kcol s0.free l = kcol (k : Int) l
          unfold kcol; rw [if_pos (.inl (by omega)), if_pos (.inr (by omega))]
        · have hck : c ≠ k := fun e => hne (by rw [e])
          show s0.pos c = kpos (k : Int) c
          rw [I.pos c (by omega) (by omega)]
          unfold kpos; rw [if_pos (.inl (by omega)), if_pos (.inr (by omega))]
    · rename_i i hi
      cases h1
      obtain ⟨q1, q2⟩ := kfind_some hi
      have hp4 : s0.piv ≤ 4 := by rcases I.cnt with h | h <;> omega
      have hsw : ∀ j, s0.piv ≤ j → j < nr → ∀ c, (∀ j, s0.piv ≤ j → j < nr → s0.M j c = 0) → kswap s0.M s0.piv (s0.piv + i) j c = 0 := by
        intro j hj hjn c hz
        unfold kswap
        split
        · exact hz _ (by omega) q1
        · split
          · exact hz _ (Nat.le_refl _) (by omega)
          · exact hz _ hj hjn
      refine ⟨rswap P s0.piv (s0.piv + i), kput K s0.piv k, ⟨fun j => ?_, fun a ha => ?_, (I.rel.swap i hp4).step' hp4 I.nz (by omega), ?_, fun j c hc => ?_, ?_, fun l hl => ?_, fun c hc hne => ?_⟩⟩
      · unfold rswap; split
        · exact I.from' _
        · split <;> exact I.from' _
      · obtain ⟨j, hj, e⟩ := I.onto a ha
        by_cases e1 : j = s0.piv
        · subst e1
          by_cases e2 : i = 0
          · subst e2; exact ⟨s0.piv, hj, by unfold rswap; rw [if_pos rfl]; exact e⟩
          · exact ⟨s0.piv + i, q1, by unfold rswap; rw [if_neg (by omega), if_pos rfl]; exact e⟩
        · by_cases e2 : j = s0.piv + i
          · subst e2
            exact ⟨s0.piv, by omega, by unfold rswap; rw [if_pos rfl]; exact e⟩
          · exact ⟨j, hj, by unfold rswap; rw [if_neg e1, if_neg e2]; exact e⟩
      · show kswap s0.M s0.piv (s0.piv + i) s0.piv k ≠ 0
        unfold kswap; rw [if_pos rfl]; exact q2
      · show kelim cols.length k (kswap s0.M s0.piv (s0.piv + i)) s0.piv s0.last j c = 0
        unfold kelim; rw [if_pos (.inr hc)]
        unfold kswap
        split
        · exact I.out _ _ hc
        · split <;> exact I.out _ _ hc
      · rcases I.cnt with h | ⟨h1, h2, h3, h4⟩
        · exact .inl ⟨h.1, by show s0.piv + 1 = _; omega⟩
        · refine .inr ⟨h1, by show s0.free < _; omega, by show s0.piv + 1 + 1 = _; omega, fun j hj hjn => ?_⟩
          have hj' : s0.piv + 1 ≤ j := hj
          show kelim cols.length k (kswap s0.M s0.piv (s0.piv + i)) s0.piv s0.last j s0.free.toNat = 0
          unfold kelim
          split
          · exact hsw j (by omega) hjn _ h4
          · rw [hsw j (by omega) hjn _ h4, hsw s0.piv (Nat.le_refl _) (by omega) _ h4]; simp
      · have hl' : l < s0.piv + 1 := hl
        show kput K s0.piv k l = kcol s0.free l
        unfold kput
        by_cases e : l = s0.piv
        · rw [if_pos e]; unfold kcol
          rcases I.cnt with h | h
          · rw [if_pos (.inl (by omega))]; omega
          · rw [if_neg (by omega)]; omega
        · rw [if_neg e]; exact I.col l (by omega)
      · show (if c = k then s0.piv else s0.pos c) = kpos s0.free c
        have hne' : (c : Int) ≠ s0.free := hne
        by_cases e : c = k
        · rw [if_pos e]; unfold kpos
          rcases I.cnt with h | h
          · rw [if_pos (.inl (by omega))]; omega
          · rw [if_neg (by omega)]; omega
        · rw [if_neg e]; exact I.pos c (by omega) hne'
theorem mx_bd {R : List (List Int)} {cols : List Nat} {B : Nat} (h : ∀ r ∈ R, ∀ x ∈ r, x.natAbs ≤ B) (i c : Nat) : (mx (rows0 R cols) i c).natAbs ≤ B := by
  unfold mx
  rw [List.getD_eq_getElem?_getD, List.getD_eq_getElem?_getD]
  cases hi : (rows0 R cols)[i]? with
  | none => simp
  | some r =>
    have hr := List.mem_of_getElem? hi
    unfold rows0 at hr
    obtain ⟨q, hq, rfl⟩ := List.mem_map.1 (List.mem_filter.1 hr).1
    simp only [Option.getD_some, rrow, List.getElem?_map]
    cases hc : cols[c]? with
    | none => simp
    | some d =>
      simp only [Option.map_some, Option.getD_some, List.getD_eq_getElem?_getD]
      cases hd : q[d]? with
      | none => simp
      | some x => exact h q hq x (List.mem_of_getElem? hd)
theorem Inv.piv4 {A : Nat → Rw} {nr n k : Nat} {s : KS} {P : Nat → Rw} {K : Nat → Nat} (I : Inv A nr n k s P K) (hn : n ≤ 5) (hk : k < n ∨ (k = n ∧ 0 ≤ s.free)) : s.piv ≤ 4 := by
  rcases I.cnt with h | h <;> omega
theorem KBd_of (R : List (List Int)) (cols : List Nat) (hn : cols.length ≤ 5) (hB : ∀ r ∈ R, ∀ x ∈ r, x.natAbs ≤ 8) : KBd R cols := by
  intro k s hs hk
  obtain ⟨P, K, I⟩ := krun_Inv R cols hn k s (by omega) hs
  have hP : ∀ j c, (P j c).natAbs ≤ 8 := fun j c => by obtain ⟨i, e⟩ := I.from' j; rw [e]; exact mx_bd hB i c
  obtain ⟨h1, h2⟩ := I.rel.bd hP (Nat.le_refl _) (I.piv4 hn hk) I.out
  exact ⟨I.nz, by omega, fun i c => by have := h2 i c; omega⟩
end Go.AM.SN
namespace Go.AM.SN
set_option maxRecDepth 100000
set_option linter.unusedSimpArgs false
set_option linter.unusedVariables false
def sumN (g : Nat → Int) : Nat → Int
  | 0 => 0
  | n + 1 => sumN g n + g n
theorem sumN_mul (g : Nat → Int) (a : Int) : ∀ n, sumN (fun c => g c * a) n = sumN g n * a
  | 0 => by simp [sumN]
  | n + 1 => by simp only [sumN, sumN_mul g a n, Int.add_mul]
theorem sumN_congr {f g : Nat → Int} : ∀ {n : Nat}, (∀ c, c < n → f c = g c) → sumN f n = sumN g n
  | 0, _ => rfl
  | n + 1, h => by simp only [sumN]; rw [sumN_congr (fun c hc => h c (by omega)), h n (by omega)]
theorem rowSum_sumN (f : Nat → Int) : ∀ (xs : List Int), rowSum xs ((List.range xs.length).map f) = sumN (fun c => xs.getD c 0 * f c) xs.length := by
  intro xs
  have key : ∀ i, i ≤ xs.length → rowSum (xs.take i) (((List.range xs.length).map f).take i) = sumN (fun c => xs.getD c 0 * f c) i := by
    intro i
    induction i with
    | zero => intro _; rfl
    | succ i ih =>
      intro hi
      obtain ⟨x, hx⟩ := get_ex (l := xs) (i := i) (by omega)
      rw [rowSum_take hx (y := f i) (by simp [List.getElem?_range (show i < xs.length by omega)]), ih (by omega)]
      show _ = sumN _ i + xs.getD i 0 * f i
      rw [show xs.getD i 0 = x by rw [List.getD_eq_getElem?_getD, hx]; rfl]
  have := key xs.length (Nat.le_refl _)
  rwa [List.take_length, List.take_of_length_le (by simp)] at this
theorem Rel.sum {n : Nat} {P : Nat → Rw} {K : Nat → Nat} {s f j : Nat} {M : Mx} {last : Int} (hs : s ≤ 4) (h : Rel n P K s M last) (hf : f < n) (hj : s ≤ j → M j f = 0) :
    P j f * last - sumN (fun l => P j (K l) * M l f) s = 0 := by
  match s, hs, h with
  | 0, _, ⟨h1, h2⟩ =>
    have := hj (Nat.zero_le _)
    rw [h2 j f hf] at this
    simp [sumN, this]
  | 1, _, ⟨h1, h2, h3⟩ =>
    simp only [sumN, Int.zero_add]
    rw [h1, h2 f hf, row1]
    match j, hj with
    | 0, _ => exact dup2 _ _ _
    | j + 1, hj => rw [← h3 (j + 1) f (by omega) hf]; exact hj (by omega)
  | 2, _, ⟨h1, h2, h3, h4⟩ =>
    simp only [sumN, Int.zero_add]
    rw [h1, h2 f hf, h3 f hf]
    have := row2 (P 0) (P 1) (P j) (K 0) (K 1) f
    rw [← Int.sub_sub, this]
    match j, hj with
    | 0, _ => exact dup3a _ _ _ _ _
    | 1, _ => exact dup3b _ _ _ _ _
    | j + 2, hj => rw [← h4 (j + 2) f (by omega) hf]; exact hj (by omega)
  | 3, _, ⟨h1, h2, h3, h4, h5⟩ =>
    simp only [sumN, Int.zero_add]
    rw [h1, h2 f hf, h3 f hf, h4 f hf]
    have := row3 (P 0) (P 1) (P 2) (P j) (K 0) (K 1) (K 2) f
    rw [← Int.sub_sub, ← Int.sub_sub, this]
    match j, hj with
    | 0, _ => exact dup4a _ _ _ _ _ _ _
    | 1, _ => exact dup4b _ _ _ _ _ _ _
    | 2, _ => exact dup4c _ _ _ _ _ _ _
    | j + 3, hj => rw [← h5 (j + 3) f (by omega) hf]; exact hj (by omega)
  | 4, _, ⟨h1, h2, h3, h4, h5, h6⟩ =>
    simp only [sumN, Int.zero_add]
    rw [h1, h2 f hf, h3 f hf, h4 f hf, h5 f hf]
    have := row4 (P 0) (P 1) (P 2) (P 3) (P j) (K 0) (K 1) (K 2) (K 3) f
    rw [← Int.sub_sub, ← Int.sub_sub, ← Int.sub_sub, this]
    match j, hj with
    | 0, _ => exact dup5a _ _ _ _ _ _ _ _ _
    | 1, _ => exact dup5b _ _ _ _ _ _ _ _ _
    | 2, _ => exact dup5c _ _ _ _ _ _ _ _ _
    | 3, _ => exact dup5d _ _ _ _ _ _ _ _ _
    | j + 4, hj => rw [← h6 (j + 4) f (by omega) hf]; exact hj (by omega)
theorem Rel.bd2 {n : Nat} {P : Nat → Rw} {K : Nat → Nat} {s : Nat} {M : Mx} {last : Int} (hB : ∀ j c, (P j c).natAbs ≤ 2) (hs : s ≤ 4) (h : Rel n P K s M last) :
    last.natAbs ≤ 384 ∧ ∀ l c, l < s → c < n → (M l c).natAbs ≤ 384 := by
  have b2 := fun a b c d => D2_bd (hB a) (hB b) c d
  have b3 := fun a b e c d f => D3_bd (hB a) (hB b) (hB e) c d f
  have b4 := fun a b e g c d f i => D4_bd (hB a) (hB b) (hB e) (hB g) c d f i
  match s, hs, h with
  | 0, _, ⟨h1, h2⟩ => exact ⟨by rw [h1]; decide, fun l c hl => absurd hl (Nat.not_lt_zero _)⟩
  | 1, _, ⟨h1, h2, h3⟩ =>
    refine ⟨by rw [h1]; have := hB 0 (K 0); omega, fun l c hl hc => ?_⟩
    obtain rfl : l = 0 := by omega
    rw [h2 c hc]; have := hB 0 c; omega
  | 2, _, ⟨h1, h2, h3, h4⟩ =>
    refine ⟨by rw [h1]; have := b2 0 1 (K 0) (K 1); omega, fun l c hl hc => ?_⟩
    match l, hl with
    | 0, _ => rw [h2 c hc]; have := b2 0 1 c (K 1); omega
    | 1, _ => rw [h3 c hc]; have := b2 0 1 (K 0) c; omega
  | 3, _, ⟨h1, h2, h3, h4, h5⟩ =>
    refine ⟨by rw [h1]; have := b3 0 1 2 (K 0) (K 1) (K 2); omega, fun l c hl hc => ?_⟩
    match l, hl with
    | 0, _ => rw [h2 c hc]; have := b3 0 1 2 c (K 1) (K 2); omega
    | 1, _ => rw [h3 c hc]; have := b3 0 1 2 (K 0) c (K 2); omega
    | 2, _ => rw [h4 c hc]; have := b3 0 1 2 (K 0) (K 1) c; omega
  | 4, _, ⟨h1, h2, h3, h4, h5, h6⟩ =>
    refine ⟨by rw [h1]; have := b4 0 1 2 3 (K 0) (K 1) (K 2) (K 3); omega, fun l c hl hc => ?_⟩
    match l, hl with
    | 0, _ => rw [h2 c hc]; have := b4 0 1 2 3 c (K 1) (K 2) (K 3); omega
    | 1, _ => rw [h3 c hc]; have := b4 0 1 2 3 (K 0) c (K 2) (K 3); omega
    | 2, _ => rw [h4 c hc]; have := b4 0 1 2 3 (K 0) (K 1) c (K 3); omega
    | 3, _ => rw [h5 c hc]; have := b4 0 1 2 3 (K 0) (K 1) (K 2) c; omega
theorem sumN_but (g : Nat → Int) (f : Nat) : ∀ s, f ≤ s → sumN g (s + 1) = g f + sumN (fun l => g (if l < f then l else l + 1)) s
  | 0, h => by
    obtain rfl : f = 0 := by omega
    simp [sumN]
  | s + 1, h => by
    rw [sumN]
    by_cases e : f = s + 1
    · subst e
      have : sumN (fun l => g (if l < s + 1 then l else l + 1)) (s + 1) = sumN g (s + 1) := sumN_congr fun c hc => by rw [if_pos hc]
      rw [this]; omega
    · rw [sumN_but g f s (by omega)]
      show _ = g f + (sumN _ s + g (if s < f then s else s + 1))
      rw [if_neg (by omega)]; omega
theorem kgcd_dvd (f : Nat → Int) : ∀ (n c : Nat), c < n → (kgcd ((List.range n).map f) : Int) ∣ f c
  | 0, c, h => absurd h (Nat.not_lt_zero _)
  | n + 1, c, h => by
    rw [kgcd_succ]
    by_cases e : c = n
    · subst e
      exact Int.dvd_natAbs.1 (Int.natCast_dvd_natCast.2 (Nat.gcd_dvd_right _ _))
    · exact Int.dvd_trans (Int.natCast_dvd_natCast.2 (Nat.gcd_dvd_left _ _)) (kgcd_dvd f n c (by omega))
theorem kgcd_pos {f : Nat → Int} {n : Nat} (hn : 0 < n) (h : ∀ c, c < n → f c ≠ 0) : kgcd ((List.range n).map f) ≠ 0 := by
  intro e
  have := kgcd_dvd f n 0 hn
  rw [e] at this
  exact h 0 hn (by simpa using this)
theorem kfin_some {n : Nat} {s : KS} {l : List Int} (h : kfin n s = some l) : 0 ≤ s.free ∧ (∀ c, c < n → kout s c ≠ 0) ∧ l = (List.range n).map fun k => if kout s 0 < 0 then -((kout s k).tdiv (kgcd ((List.range n).map (kout s)))) else (kout s k).tdiv (kgcd ((List.range n).map (kout s))) := by
  unfold kfin at h
  split at h
  · cases h
  · split at h
    · cases h
    · rename_i h1 h2
      cases h
      refine ⟨by omega, fun c hc e => h2 ?_, rfl⟩
      rw [List.any_eq_true]
      exact ⟨kout s c, List.mem_map.2 ⟨c, by simpa using hc, rfl⟩, by simp [e]⟩
theorem ker_propG {B C : Nat} (hbd : ∀ {n : Nat} {P : Nat → Rw} {K : Nat → Nat} {s : Nat} {M : Mx} {last : Int}, (∀ j c, (P j c).natAbs ≤ B) → s ≤ 4 → Rel n P K s M last → last.natAbs ≤ C ∧ ∀ l c, l < s → c < n → (M l c).natAbs ≤ C)
    {R : List (List Int)} {cols : List Nat} {l : List Int} (hn0 : 0 < cols.length) (hn : cols.length ≤ 5) (hB : ∀ r ∈ R, ∀ x ∈ r, x.natAbs ≤ B) (h : kerR R cols = some l) :
    l.length = cols.length ∧ (∀ x ∈ l, x ≠ 0 ∧ x.natAbs ≤ C) ∧ ∀ r ∈ R, rowSum (rrow cols r) l = 0 := by
  unfold kerR at h
  simp only [Option.bind_eq_some_iff] at h
  obtain ⟨s, hs, hf⟩ := h
  obtain ⟨P, K, I⟩ := krun_Inv R cols hn _ s (Nat.le_refl _) hs
  obtain ⟨f0, f1, rfl⟩ := kfin_some hf
  have hp4 := I.piv4 hn (.inr ⟨rfl, f0⟩)
  obtain ⟨fr, hfr⟩ : ∃ fr : Nat, s.free = fr := ⟨s.free.toNat, by omega⟩
  have hcnt : fr < cols.length ∧ s.piv + 1 = cols.length ∧ ∀ j, s.piv ≤ j → j < (rows0 R cols).length → s.M j fr = 0 := by
    rcases I.cnt with h | ⟨_, h2, h3, h4⟩
    · omega
    · rw [hfr] at h2 h4; exact ⟨by omega, h3, h4⟩
  obtain ⟨c1, c2, c3⟩ := hcnt
  have hP : ∀ j c, (P j c).natAbs ≤ B := fun j c => by obtain ⟨i, e⟩ := I.from' j; rw [e]; exact mx_bd hB i c
  obtain ⟨g1, g2⟩ := hbd hP hp4 I.rel
  have hko : ∀ c, c < cols.length → kout s c = if c = fr then s.last else -(s.M (kpos s.free c) fr) := fun c hc => by
    unfold kout
    by_cases e : c = fr
    · rw [if_pos (by omega), if_pos e]
    · rw [if_neg (by omega), if_neg e, I.pos c hc (by omega), hfr]; rfl
  have hg := kgcd_pos hn0 f1
  generalize hG : kgcd ((List.range cols.length).map (kout s)) = G at hg
  have hdv : ∀ c, c < cols.length → ((kout s c).tdiv G) * G = kout s c := fun c hc => Int.tdiv_mul_cancel (by rw [← hG]; exact kgcd_dvd _ _ c hc)
  refine ⟨by simp, fun x hx => ?_, fun r hr => ?_⟩
  · obtain ⟨c, hc, rfl⟩ := List.mem_map.1 hx
    rw [List.mem_range] at hc
    have hne := f1 c hc
    have hd := hdv c hc
    have hb : (kout s c).natAbs ≤ C := by
      rw [hko c hc]
      split
      · exact g1
      · rename_i e
        have : kpos s.free c < s.piv := by unfold kpos; split <;> omega
        have := g2 (kpos s.free c) fr this c1
        omega
    have hq : ((kout s c).tdiv G).natAbs ≤ C := Nat.le_trans (by rw [Int.natAbs_tdiv]; exact Nat.div_le_self _ _) hb
    have hq0 : (kout s c).tdiv G ≠ 0 := fun e => by rw [e] at hd; simp at hd; exact hne hd.symm
    split
    · exact ⟨by omega, by omega⟩
    · exact ⟨hq0, hq⟩
  · have hrl : (rrow cols r).length = cols.length := by simp [rrow]
    rw [← hrl, rowSum_sumN, hrl]
    have hG0 : (G : Int) ≠ 0 := by omega
    have key : sumN (fun c => (rrow cols r).getD c 0 * kout s c) cols.length = 0 := by
      by_cases hz : nz (rrow cols r) = true
      · have hmem : rrow cols r ∈ rows0 R cols := List.mem_filter.2 ⟨List.mem_map.2 ⟨r, hr, rfl⟩, hz⟩
        obtain ⟨a, ha, hal⟩ := mem_at hmem
        obtain ⟨j, hj, hPj⟩ := I.onto a hal
        have hrow : ∀ c, (rrow cols r).getD c 0 = P j c := fun c => by
          rw [hPj]; unfold mx
          rw [List.getD_eq_getElem?_getD (l := rows0 R cols), ha]; rfl
        have hsum := I.rel.sum hp4 c1 (j := j) (fun hsj => c3 j hsj hj)
        rw [← c2, sumN_but _ fr s.piv (by omega)]
        have e1 : kout s fr = s.last := by rw [hko fr c1, if_pos rfl]
        have e2 : sumN (fun l => (rrow cols r).getD (if l < fr then l else l + 1) 0 * kout s (if l < fr then l else l + 1)) s.piv = -(sumN (fun l => P j (K l) * s.M l fr) s.piv) := by
          rw [← Int.mul_neg_one, ← sumN_mul]
          refine sumN_congr fun l hl => ?_
          have hK : K l = if l < fr then l else l + 1 := by
            rw [I.col l hl]; unfold kcol
            by_cases e : l < fr
            · rw [if_pos (.inr (by omega)), if_pos e]
            · rw [if_neg (by omega), if_neg e]
          have hkp : kpos s.free (K l) = l := by
            rw [hK]; unfold kpos
            by_cases e : l < fr
            · simp only [if_pos e]; rw [if_pos (.inr (by omega))]
            · simp only [if_neg e]; rw [if_neg (by omega)]; omega
          rw [← hK, hrow, hko (K l) (by rw [hK]; split <;> omega), if_neg (by rw [hK]; split <;> omega), hkp]
          rw [Int.mul_neg_one, Int.mul_neg]
        rw [e2, hrow, e1]; omega
      · have hz' : ∀ c, (rrow cols r).getD c 0 = 0 := fun c => by
          rw [List.getD_eq_getElem?_getD]
          cases hc : (rrow cols r)[c]? with
          | none => rfl
          | some x =>
            simp only [Option.getD_some]
            cases hx : decide (x = 0) with
            | true => simpa using hx
            | false =>
              exact absurd (List.any_eq_true.2 ⟨x, List.mem_of_getElem? hc, by simpa using hx⟩) hz
        have : sumN (fun c => (rrow cols r).getD c 0 * kout s c) cols.length = sumN (fun _ => 0 * 0) cols.length := sumN_congr fun c _ => by rw [hz' c]; simp
        rw [this, sumN_mul]; simp
    by_cases hneg : kout s 0 < 0
    · have e : sumN (fun c => (rrow cols r).getD c 0 * kout s c) cols.length = sumN (fun c => (rrow cols r).getD c 0 * (if kout s 0 < 0 then -((kout s c).tdiv G) else (kout s c).tdiv G)) cols.length * (-(G : Int)) := by
        rw [← sumN_mul]
        refine sumN_congr fun c hc => ?_
        conv => lhs; rw [← hdv c hc]
        rw [if_pos hneg, Int.mul_neg, Int.mul_neg, Int.neg_mul, Int.neg_neg, Int.mul_assoc]
      rw [e] at key
      rcases Int.mul_eq_zero.1 key with h | h
      · exact h
      · omega
    · have e : sumN (fun c => (rrow cols r).getD c 0 * kout s c) cols.length = sumN (fun c => (rrow cols r).getD c 0 * (if kout s 0 < 0 then -((kout s c).tdiv G) else (kout s c).tdiv G)) cols.length * (G : Int) := by
        rw [← sumN_mul]
        refine sumN_congr fun c hc => ?_
        conv => lhs; rw [← hdv c hc]
        rw [if_neg hneg, Int.mul_assoc]
      rw [e] at key
      rcases Int.mul_eq_zero.1 key with h | h
      · exact h
      · omega
theorem ker_prop {R : List (List Int)} {cols : List Nat} {l : List Int} (hn0 : 0 < cols.length) (hn : cols.length ≤ 5) (hB : ∀ r ∈ R, ∀ x ∈ r, x.natAbs ≤ 2) (h : kerR R cols = some l) :
    l.length = cols.length ∧ (∀ x ∈ l, x ≠ 0 ∧ x.natAbs ≤ 384) ∧ ∀ r ∈ R, rowSum (rrow cols r) l = 0 := ker_propG (fun h1 h2 h3 => h3.bd2 h1 h2) hn0 hn hB h
end Go.AM.SN
namespace Go.AM.SN
set_option maxRecDepth 100000
set_option linter.unusedSimpArgs false
set_option linter.unusedVariables false
section
variable {n : Nat} {u : Nat → Int}
def dot (n : Nat) (u r : Nat → Int) : Int := sumN (fun c => r c * u c) n
theorem dot_lin1 (x : Int) (a : Nat → Int) : dot n u (fun c => x * a c) = x * dot n u a := by
  unfold dot
  have : ∀ n, sumN (fun c => x * a c * u c) n = x * sumN (fun c => a c * u c) n := by
    intro n
    induction n with
    | zero => simp [sumN]
    | succ n ih => simp only [sumN]; rw [ih, Int.mul_add, Int.mul_assoc]
  exact this n
theorem dot_add (a b : Nat → Int) : dot n u (fun c => a c + b c) = dot n u a + dot n u b := by
  unfold dot
  have : ∀ n, sumN (fun c => (a c + b c) * u c) n = sumN (fun c => a c * u c) n + sumN (fun c => b c * u c) n := by
    intro n
    induction n with
    | zero => simp [sumN]
    | succ n ih => simp only [sumN]; rw [ih, Int.add_mul]; omega
  exact this n
theorem dot_congr {a b : Nat → Int} (h : ∀ c, c < n → a c = b c) : dot n u a = dot n u b := sumN_congr fun c hc => by rw [h c hc]
theorem dot_z2 {a b : Rw} (ha : dot n u a = 0) (hb : dot n u b = 0) (x y : Int) {m : Nat → Int} (hm : ∀ c, c < n → m c = x * a c + y * b c) : dot n u m = 0 := by
  rw [dot_congr hm, dot_add, dot_lin1, dot_lin1, ha, hb]; simp
theorem dot_z3 {a b e : Rw} (ha : dot n u a = 0) (hb : dot n u b = 0) (he : dot n u e = 0) (x y z : Int) {m : Nat → Int} (hm : ∀ c, c < n → m c = x * a c + y * b c + z * e c) : dot n u m = 0 := by
  rw [dot_congr hm, dot_add (fun c => x * a c + y * b c), dot_add, dot_lin1, dot_lin1, dot_lin1, ha, hb, he]; simp
theorem dot_z4 {a b e d : Rw} (ha : dot n u a = 0) (hb : dot n u b = 0) (he : dot n u e = 0) (hd : dot n u d = 0) (x y z w : Int) {m : Nat → Int} (hm : ∀ c, c < n → m c = x * a c + y * b c + z * e c + w * d c) : dot n u m = 0 := by
  rw [dot_congr hm, dot_add (fun c => x * a c + y * b c + z * e c), dot_add (fun c => x * a c + y * b c), dot_add, dot_lin1, dot_lin1, dot_lin1, dot_lin1, ha, hb, he, hd]; simp
theorem dot_z5 {a b e d j : Rw} (ha : dot n u a = 0) (hb : dot n u b = 0) (he : dot n u e = 0) (hd : dot n u d = 0) (hj : dot n u j = 0) (x y z w v : Int) {m : Nat → Int} (hm : ∀ c, c < n → m c = x * a c + y * b c + z * e c + w * d c + v * j c) : dot n u m = 0 := by
  rw [dot_congr hm, dot_add (fun c => x * a c + y * b c + z * e c + w * d c), dot_add (fun c => x * a c + y * b c + z * e c), dot_add (fun c => x * a c + y * b c), dot_add, dot_lin1, dot_lin1, dot_lin1, dot_lin1, dot_lin1, ha, hb, he, hd, hj]; simp
end
theorem x2 (a j : Rw) (k c : Nat) : D2 a j k c = (-(j k)) * a c + a k * j c := by unfold D2; grind
theorem x2a (a j : Rw) (k c : Nat) : D2 a j c k = j k * a c + (-(a k)) * j c := by unfold D2; grind
theorem x3 (a b j : Rw) (k l c : Nat) : D3 a b j k l c = D2 b j k l * a c + (-(D2 a j k l)) * b c + D2 a b k l * j c := by unfold D3 D2; grind
theorem x3a (a b j : Rw) (k l c : Nat) : D3 a b j c k l = D2 b j k l * a c + (-(D2 a j k l)) * b c + D2 a b k l * j c := by unfold D3 D2; grind
theorem x3b (a b j : Rw) (k l c : Nat) : D3 a b j k c l = (-(D2 b j k l)) * a c + D2 a j k l * b c + (-(D2 a b k l)) * j c := by unfold D3 D2; grind
theorem x4 (a b e j : Rw) (k l m c : Nat) : D4 a b e j k l m c = (-(D3 b e j k l m)) * a c + D3 a e j k l m * b c + (-(D3 a b j k l m)) * e c + D3 a b e k l m * j c := by unfold D4 D3 D2; grind
theorem x4a (a b e j : Rw) (k l m c : Nat) : D4 a b e j c k l m = D3 b e j k l m * a c + (-(D3 a e j k l m)) * b c + D3 a b j k l m * e c + (-(D3 a b e k l m)) * j c := by unfold D4 D3 D2; grind
theorem x4b (a b e j : Rw) (k l m c : Nat) : D4 a b e j k c l m = (-(D3 b e j k l m)) * a c + D3 a e j k l m * b c + (-(D3 a b j k l m)) * e c + D3 a b e k l m * j c := by unfold D4 D3 D2; grind
theorem x4c (a b e j : Rw) (k l m c : Nat) : D4 a b e j k l c m = D3 b e j k l m * a c + (-(D3 a e j k l m)) * b c + D3 a b j k l m * e c + (-(D3 a b e k l m)) * j c := by unfold D4 D3 D2; grind
set_option maxHeartbeats 4000000 in
theorem x5 (a b e d j : Rw) (k l m p c : Nat) : D5 a b e d j k l m p c = D4 b e d j k l m p * a c + (-(D4 a e d j k l m p)) * b c + D4 a b d j k l m p * e c + (-(D4 a b e j k l m p)) * d c + D4 a b e d k l m p * j c := by unfold D5 D4 D3 D2; grind
theorem Rel.dot {n : Nat} {P : Nat → Rw} {K : Nat → Nat} {s : Nat} {M : Mx} {last : Int} {u : Nat → Int} (hs : s ≤ 4) (h : Rel n P K s M last) (hu : ∀ j, dot n u (P j) = 0) (j : Nat) : SN.dot n u (M j) = 0 := by
  match s, hs, h with
  | 0, _, ⟨h1, h2⟩ => rw [dot_congr (h2 j)]; exact hu j
  | 1, _, ⟨h1, h2, h3⟩ =>
    match j with
    | 0 => rw [dot_congr h2]; exact hu 0
    | j + 1 => exact dot_z2 (hu 0) (hu (j + 1)) _ _ fun c hc => by rw [h3 _ c (by omega) hc, x2]
  | 2, _, ⟨h1, h2, h3, h4⟩ =>
    match j with
    | 0 => exact dot_z2 (hu 0) (hu 1) _ _ fun c hc => by rw [h2 c hc, x2a]
    | 1 => exact dot_z2 (hu 0) (hu 1) _ _ fun c hc => by rw [h3 c hc, x2]
    | j + 2 => exact dot_z3 (hu 0) (hu 1) (hu (j + 2)) _ _ _ fun c hc => by rw [h4 _ c (by omega) hc, x3]
  | 3, _, ⟨h1, h2, h3, h4, h5⟩ =>
    match j with
    | 0 => exact dot_z3 (hu 0) (hu 1) (hu 2) _ _ _ fun c hc => by rw [h2 c hc, x3a]
    | 1 => exact dot_z3 (hu 0) (hu 1) (hu 2) _ _ _ fun c hc => by rw [h3 c hc, x3b]
    | 2 => exact dot_z3 (hu 0) (hu 1) (hu 2) _ _ _ fun c hc => by rw [h4 c hc, x3]
    | j + 3 => exact dot_z4 (hu 0) (hu 1) (hu 2) (hu (j + 3)) _ _ _ _ fun c hc => by rw [h5 _ c (by omega) hc, x4]
  | 4, _, ⟨h1, h2, h3, h4, h5, h6⟩ =>
    match j with
    | 0 => exact dot_z4 (hu 0) (hu 1) (hu 2) (hu 3) _ _ _ _ fun c hc => by rw [h2 c hc, x4a]
    | 1 => exact dot_z4 (hu 0) (hu 1) (hu 2) (hu 3) _ _ _ _ fun c hc => by rw [h3 c hc, x4b]
    | 2 => exact dot_z4 (hu 0) (hu 1) (hu 2) (hu 3) _ _ _ _ fun c hc => by rw [h4 c hc, x4c]
    | 3 => exact dot_z4 (hu 0) (hu 1) (hu 2) (hu 3) _ _ _ _ fun c hc => by rw [h5 c hc, x4]
    | j + 4 => exact dot_z5 (hu 0) (hu 1) (hu 2) (hu 3) (hu (j + 4)) _ _ _ _ _ fun c hc => by rw [h6 _ c (by omega) hc, x5]
theorem e2 (a j : Rw) (k : Nat) : D2 a j k k = 0 := by unfold D2; grind
theorem e3a (a b j : Rw) (k l : Nat) : D3 a b j k l k = 0 := by unfold D3 D2; grind
theorem e3b (a b j : Rw) (k l : Nat) : D3 a b j k l l = 0 := by unfold D3 D2; grind
theorem e3c (a b j : Rw) (k l : Nat) : D3 a b j k k l = 0 := by unfold D3 D2; grind
theorem e4a (a b e j : Rw) (k l m : Nat) : D4 a b e j k l m k = 0 := by unfold D4 D3 D2; grind
theorem e4b (a b e j : Rw) (k l m : Nat) : D4 a b e j k l m l = 0 := by unfold D4 D3 D2; grind
theorem e4c (a b e j : Rw) (k l m : Nat) : D4 a b e j k l m m = 0 := by unfold D4 D3 D2; grind
theorem e4d (a b e j : Rw) (k l m : Nat) : D4 a b e j k k l m = 0 := by unfold D4 D3 D2; grind
theorem e4e (a b e j : Rw) (k l m : Nat) : D4 a b e j k l k m = 0 := by unfold D4 D3 D2; grind
theorem e4f (a b e j : Rw) (k l m : Nat) : D4 a b e j k l l m = 0 := by unfold D4 D3 D2; grind
set_option maxHeartbeats 4000000 in
theorem e5 (a b e d j : Rw) (k l m p : Nat) : D5 a b e d j k l m p k = 0 ∧ D5 a b e d j k l m p l = 0 ∧ D5 a b e d j k l m p m = 0 ∧ D5 a b e d j k l m p p = 0 := by
  refine ⟨?_, ?_, ?_, ?_⟩ <;> unfold D5 D4 D3 D2 <;> grind
theorem Rel.piv {n : Nat} {P : Nat → Rw} {K : Nat → Nat} {s : Nat} {M : Mx} {last : Int} (hs : s ≤ 4) (h : Rel n P K s M last) {l : Nat} (hl : l < s) (hk : K l < n) (j : Nat) : M j (K l) = if j = l then last else 0 := by
  match s, hs, h with
  | 0, _, _ => omega
  | 1, _, ⟨h1, h2, h3⟩ =>
    obtain rfl : l = 0 := by omega
    match j with
    | 0 => rw [h2 _ hk, h1]; rfl
    | j + 1 => rw [h3 _ _ (by omega) hk, e2]; rfl
  | 2, _, ⟨h1, h2, h3, h4⟩ =>
    have hl2 : l = 0 ∨ l = 1 := by omega
    rcases hl2 with rfl | rfl
    · match j with
      | 0 => rw [h2 _ hk, h1]; rfl
      | 1 => rw [h3 _ hk, e2]; rfl
      | j + 2 => rw [h4 _ _ (by omega) hk, e3a]; rfl
    · match j with
      | 0 => rw [h2 _ hk, e2]; rfl
      | 1 => rw [h3 _ hk, h1]; rfl
      | j + 2 => rw [h4 _ _ (by omega) hk, e3b, if_neg (by omega)]
  | 3, _, ⟨h1, h2, h3, h4, h5⟩ =>
    have hl2 : l = 0 ∨ l = 1 ∨ l = 2 := by omega
    rcases hl2 with rfl | rfl | rfl
    · match j with
      | 0 => rw [h2 _ hk, h1]; rfl
      | 1 => rw [h3 _ hk, e3c]; rfl
      | 2 => rw [h4 _ hk, e3a]; rfl
      | j + 3 => rw [h5 _ _ (by omega) hk, e4a]; rfl
    · match j with
      | 0 => rw [h2 _ hk, e3c]; rfl
      | 1 => rw [h3 _ hk, h1]; rfl
      | 2 => rw [h4 _ hk, e3b]; rfl
      | j + 3 => rw [h5 _ _ (by omega) hk, e4b, if_neg (by omega)]
    · match j with
      | 0 => rw [h2 _ hk, e3a]; rfl
      | 1 => rw [h3 _ hk, e3b]; rfl
      | 2 => rw [h4 _ hk, h1]; rfl
      | j + 3 => rw [h5 _ _ (by omega) hk, e4c, if_neg (by omega)]
  | 4, _, ⟨h1, h2, h3, h4, h5, h6⟩ =>
    have hl2 : l = 0 ∨ l = 1 ∨ l = 2 ∨ l = 3 := by omega
    rcases hl2 with rfl | rfl | rfl | rfl
    · match j with
      | 0 => rw [h2 _ hk, h1]; rfl
      | 1 => rw [h3 _ hk, e4d]; rfl
      | 2 => rw [h4 _ hk, e4e]; rfl
      | 3 => rw [h5 _ hk, e4a]; rfl
      | j + 4 => rw [h6 _ _ (by omega) hk, (e5 _ _ _ _ _ _ _ _ _).1]; rfl
    · match j with
      | 0 => rw [h2 _ hk, e4d]; rfl
      | 1 => rw [h3 _ hk, h1]; rfl
      | 2 => rw [h4 _ hk, e4f]; rfl
      | 3 => rw [h5 _ hk, e4b]; rfl
      | j + 4 => rw [h6 _ _ (by omega) hk, (e5 _ _ _ _ _ _ _ _ _).2.1, if_neg (by omega)]
    · match j with
      | 0 => rw [h2 _ hk, e4e]; rfl
      | 1 => rw [h3 _ hk, e4f]; rfl
      | 2 => rw [h4 _ hk, h1]; rfl
      | 3 => rw [h5 _ hk, e4c]; rfl
      | j + 4 => rw [h6 _ _ (by omega) hk, (e5 _ _ _ _ _ _ _ _ _).2.2.1, if_neg (by omega)]
    · match j with
      | 0 => rw [h2 _ hk, e4a]; rfl
      | 1 => rw [h3 _ hk, e4b]; rfl
      | 2 => rw [h4 _ hk, e4c]; rfl
      | 3 => rw [h5 _ hk, h1]; rfl
      | j + 4 => rw [h6 _ _ (by omega) hk, (e5 _ _ _ _ _ _ _ _ _).2.2.2, if_neg (by omega)]
end Go.AM.SN
namespace Go.AM.SN
set_option maxRecDepth 100000
set_option linter.unusedSimpArgs false
set_option linter.unusedVariables false
theorem sumN_pick (g : Nat → Int) (f : Nat) : ∀ n, f < n → sumN g n = g f + sumN (fun c => if c = f then 0 else g c) n
  | 0, h => absurd h (Nat.not_lt_zero _)
  | n + 1, h => by
    simp only [sumN]
    by_cases e : f = n
    · subst e
      rw [if_pos rfl, sumN_congr (g := g) (f := fun c => if c = f then 0 else g c) fun c hc => if_neg (by omega)]; omega
    · rw [sumN_pick g f n (by omega), if_neg (fun h => e h.symm)]; omega
theorem sumN_cut (g : Nat → Int) (k : Nat) : ∀ n, k ≤ n → (∀ c, k ≤ c → c < n → g c = 0) → sumN g n = sumN g k
  | 0, h, _ => by obtain rfl : k = 0 := by omega
                  rfl
  | n + 1, h, hz => by
    by_cases e : k = n + 1
    · rw [e]
    · simp only [sumN]
      rw [sumN_cut g k n (by omega) (fun c h1 h2 => hz c h1 (by omega)), hz n (by omega) (by omega)]; omega
theorem sumN_delta (w : Nat → Int) (a : Int) (l : Nat) : ∀ m, sumN (fun j => (if l = j then a else 0) * w j) m = if l < m then a * w l else 0
  | 0 => by simp [sumN]
  | m + 1 => by
    simp only [sumN, sumN_delta w a l m]
    by_cases e : l = m
    · subst e; rw [if_neg (Nat.lt_irrefl _), if_pos rfl, if_pos (Nat.lt_succ_self _)]; omega
    · by_cases h : l < m
      · rw [if_pos h, if_neg e, if_pos (by omega)]; omega
      · rw [if_neg h, if_neg e, if_neg (by omega)]; omega
def InKer (R : List (List Int)) (cols : List Nat) (u : Nat → Int) : Prop := ∀ r ∈ R, dot cols.length u (fun c => (rrow cols r).getD c 0) = 0
section
variable {R : List (List Int)} {cols : List Nat} {k : Nat} {s : KS} {P : Nat → Rw} {K : Nat → Nat} {u : Nat → Int}
theorem dot_none {n : Nat} {u r : Nat → Int} (h : ∀ c, r c = 0) : dot n u r = 0 := by
  unfold dot
  rw [sumN_congr (g := fun c => 0 * u c) fun c _ => by rw [h c]]
  have : ∀ n, sumN (fun c => 0 * u c) n = 0 := by
    intro n
    induction n with
    | zero => rfl
    | succ n ih => simp only [sumN, ih]; simp
  exact this n
theorem InKer.row (I : Inv (mx (rows0 R cols)) (rows0 R cols).length cols.length k s P K) (hu : InKer R cols u) (j : Nat) : dot cols.length u (P j) = 0 := by
  obtain ⟨i, e⟩ := I.from' j
  rw [e]
  cases hi : (rows0 R cols)[i]? with
  | none => exact dot_none fun c => by unfold mx; rw [List.getD_eq_getElem?_getD, List.getD_eq_getElem?_getD, hi]; rfl
  | some r0 =>
    have hr := List.mem_of_getElem? hi
    unfold rows0 at hr
    obtain ⟨r, hrR, rfl⟩ := List.mem_map.1 (List.mem_filter.1 hr).1
    have : mx (rows0 R cols) i = fun c => (rrow cols r).getD c 0 := by
      funext c; unfold mx; rw [List.getD_eq_getElem?_getD (l := rows0 R cols), hi]; rfl
    rw [this]; exact hu r hrR
theorem InKer.of_P (I : Inv (mx (rows0 R cols)) (rows0 R cols).length cols.length k s P K) (h : ∀ j, j < (rows0 R cols).length → dot cols.length u (P j) = 0) : InKer R cols u := by
  intro r hr
  by_cases hz : nz (rrow cols r) = true
  · have hmem : rrow cols r ∈ rows0 R cols := List.mem_filter.2 ⟨List.mem_map.2 ⟨r, hr, rfl⟩, hz⟩
    obtain ⟨a, ha, hal⟩ := mem_at hmem
    obtain ⟨j, hj, hPj⟩ := I.onto a hal
    have : (fun c => (rrow cols r).getD c 0) = P j := by
      funext c
      rw [hPj]; unfold mx
      rw [List.getD_eq_getElem?_getD (l := rows0 R cols), ha]; rfl
    rw [this]; exact h j hj
  · refine dot_none fun c => ?_
    rw [List.getD_eq_getElem?_getD]
    cases hc : (rrow cols r)[c]? with
    | none => rfl
    | some x =>
      simp only [Option.getD_some]
      cases hx : decide (x = 0) with
      | true => simpa using hx
      | false => exact absurd (List.any_eq_true.2 ⟨x, List.mem_of_getElem? hc, by simpa using hx⟩) hz
def uvec (s : KS) (k f : Nat) : Nat → Int := fun c => if c = f then s.last else if c < k ∧ (c : Int) ≠ s.free then -(s.M (kpos s.free c) f) else 0
theorem uvec_ker (I : Inv (mx (rows0 R cols)) (rows0 R cols).length cols.length k s P K) (hk : k ≤ cols.length) (hp : s.piv ≤ 4) {f : Nat} (hf : f < cols.length) (hfp : k ≤ f ∨ (f : Int) = s.free)
    (hz : ∀ j, s.piv ≤ j → j < (rows0 R cols).length → s.M j f = 0) : InKer R cols (uvec s k f) := by
  refine .of_P I fun j hj => ?_
  have hsum := I.rel.sum hp hf (j := j) (fun h => hz j h hj)
  unfold dot
  rw [sumN_pick _ f _ hf, sumN_cut _ k _ hk (fun c h1 h2 => by
    by_cases e : c = f
    · rw [if_pos e]
    · rw [if_neg e]; unfold uvec; rw [if_neg e, if_neg (by omega)]; simp)]
  have e1 : uvec s k f f = s.last := if_pos rfl
  have e2 : sumN (fun c => if c = f then 0 else P j c * uvec s k f c) k = -(sumN (fun l => P j (K l) * s.M l f) s.piv) := by
    rw [← Int.mul_neg_one, ← sumN_mul]
    rcases I.cnt with ⟨h1, h2⟩ | ⟨h1, h2, h3, h4⟩
    · rw [h2]
      refine sumN_congr fun c hc => ?_
      have hcf : c ≠ f := by omega
      have hK : K c = c := by rw [I.col c (by omega)]; unfold kcol; rw [if_pos (.inl (by omega))]
      have hkp : kpos s.free c = c := by unfold kpos; rw [if_pos (.inl (by omega))]
      rw [if_neg hcf, hK]; unfold uvec
      rw [if_neg hcf, if_pos ⟨hc, by omega⟩, hkp, Int.mul_neg_one, Int.mul_neg]
    · obtain ⟨fr, hfr⟩ : ∃ fr : Nat, s.free = fr := ⟨s.free.toNat, by omega⟩
      subst h3
      rw [sumN_but _ fr s.piv (by omega)]
      have e3 : (if fr = f then 0 else P j fr * uvec s (s.piv + 1) f fr) = 0 := by
        by_cases e : fr = f
        · rw [if_pos e]
        · rw [if_neg e]; unfold uvec; rw [if_neg e, if_neg (by omega)]; simp
      rw [e3, Int.zero_add]
      refine sumN_congr fun l hl => ?_
      have hK : K l = if l < fr then l else l + 1 := by
        rw [I.col l hl]; unfold kcol
        by_cases e : l < fr
        · rw [if_pos (.inr (by omega)), if_pos e]
        · rw [if_neg (by omega), if_neg e]
      have hkp : kpos s.free (K l) = l := by
        rw [hK]; unfold kpos
        by_cases e : l < fr
        · simp only [if_pos e]; rw [if_pos (.inr (by omega))]
        · simp only [if_neg e]; rw [if_neg (by omega)]; omega
      have hKf : K l ≠ f := by
        rw [hK]
        rcases hfp with h | h
        · split <;> omega
        · split <;> omega
      have hKk : K l < s.piv + 1 ∧ ((K l : Nat) : Int) ≠ s.free := by rw [hK]; split <;> omega
      rw [← hK, if_neg hKf]; unfold uvec
      rw [if_neg hKf, if_pos hKk, hkp, Int.mul_neg_one, Int.mul_neg]
  rw [e1, e2]; omega
theorem row_of (I : Inv (mx (rows0 R cols)) (rows0 R cols).length cols.length k s P K) (hp : s.piv ≤ 4) {f : Nat} (hn : cols.length = s.piv + 1) (hf : f ≤ s.piv) (hK : ∀ l, l < s.piv → K l = if l < f then l else l + 1) (hu : InKer R cols u) (j : Nat) :
    s.M j f * u f + (if j < s.piv then s.last * u (K j) else 0) = 0 := by
  have h0 := I.rel.dot hp (hu.row I) j
  unfold dot at h0
  rw [hn, sumN_but _ f s.piv hf] at h0
  have e : sumN (fun l => s.M j (if l < f then l else l + 1) * u (if l < f then l else l + 1)) s.piv = sumN (fun l => (if j = l then s.last else 0) * u (K l)) s.piv := by
    refine sumN_congr fun l hl => ?_
    rw [← hK l hl, I.rel.piv hp hl (by rw [hK l hl]; split <;> omega) j]
  rw [e, sumN_delta] at h0
  exact h0
theorem ker_mult (hn : cols.length ≤ 5) (I : Inv (mx (rows0 R cols)) (rows0 R cols).length cols.length cols.length s P K) {fr : Nat} (hfr : s.free = fr) (hu : InKer R cols u) {c : Nat} (hc : c < cols.length) : s.last * u c = kout s c * u fr := by
  obtain ⟨h2, h3⟩ : fr < cols.length ∧ s.piv + 1 = cols.length := by
    rcases I.cnt with h | ⟨_, h2, h3, h4⟩
    · omega
    · exact ⟨by omega, h3⟩
  have hK : ∀ l, l < s.piv → K l = if l < fr then l else l + 1 := fun l hl => by
    rw [I.col l hl]; unfold kcol
    by_cases e : l < fr
    · rw [if_pos (.inr (by omega)), if_pos e]
    · rw [if_neg (by omega), if_neg e]
  unfold kout
  by_cases e : c = fr
  · subst e; rw [if_pos hfr.symm]
  · have hpos := I.pos c hc (by omega)
    have hlt : kpos s.free c < s.piv := by unfold kpos; split <;> omega
    have h0 := row_of I (by omega) h3.symm (by omega) hK hu (kpos s.free c)
    rw [if_pos hlt] at h0
    have hKc : K (kpos s.free c) = c := by
      by_cases e1 : c < fr
      · have hk' : kpos s.free c = c := by unfold kpos; rw [if_pos (.inr (by omega))]
        rw [hk'] at hlt ⊢
        rw [hK _ hlt, if_pos e1]
      · have hk' : kpos s.free c = c - 1 := by unfold kpos; rw [if_neg (by omega)]
        rw [hk'] at hlt ⊢
        rw [hK _ hlt, if_neg (by omega)]; omega
    rw [hKc] at h0
    rw [if_neg (by omega), hpos, hfr, Int.toNat_natCast]
    rw [hfr] at h0
    rw [Int.neg_mul]; omega
theorem kout_uvec (I : Inv (mx (rows0 R cols)) (rows0 R cols).length cols.length cols.length s P K) {fr : Nat} (hfr : s.free = fr) {c : Nat} (hc : c < cols.length) : kout s c = uvec s cols.length fr c := by
  unfold kout uvec
  by_cases e : c = fr
  · rw [if_pos (by omega), if_pos e]
  · rw [if_neg (by omega), if_neg e, if_pos ⟨hc, by omega⟩, I.pos c hc (by omega), hfr, Int.toNat_natCast]
theorem InKer.congr {u w : Nat → Int} (h : InKer R cols u) (e : ∀ c, c < cols.length → u c = w c) : InKer R cols w := fun r hr => by
  have e2 : sumN (fun c => (rrow cols r).getD c 0 * w c) cols.length = sumN (fun c => (rrow cols r).getD c 0 * u c) cols.length := sumN_congr fun c hc => by rw [e c hc]
  exact e2.trans (h r hr)
theorem kout_ker (hn : cols.length ≤ 5) (I : Inv (mx (rows0 R cols)) (rows0 R cols).length cols.length cols.length s P K) {fr : Nat} (hfr : s.free = fr) : InKer R cols (kout s) := by
  rcases I.cnt with h | ⟨_, h2, h3, h4⟩
  · omega
  · rw [hfr, Int.toNat_natCast] at h4
    exact (uvec_ker I (Nat.le_refl _) (by omega) (f := fr) (by omega) (.inr hfr.symm) h4).congr fun c hc => (kout_uvec I hfr hc).symm
def One (R : List (List Int)) (cols : List Nat) (x : Nat → Int) (f0 : Nat) : Prop := f0 < cols.length ∧ x f0 ≠ 0 ∧ InKer R cols x ∧ ∀ u, InKer R cols u → ∀ c, c < cols.length → x f0 * u c = x c * u f0
theorem krun_one (hn : cols.length ≤ 5) {x : Nat → Int} {f0 : Nat} (hx : One R cols x f0) : ∀ k, k ≤ cols.length → ∃ s, krun R cols k = some s
  | 0, _ => ⟨_, rfl⟩
  | k + 1, hk => by
    obtain ⟨s, hs⟩ := krun_one hn hx k (by omega)
    obtain ⟨P, K, I⟩ := krun_Inv R cols hn k s (by omega) hs
    obtain ⟨x1, x2, x3, x4⟩ := hx
    cases hst : kstep (rows0 R cols).length cols.length k s with
    | some t => exact ⟨t, by show (krun R cols k).bind _ = _; rw [hs]; exact hst⟩
    | none =>
      exfalso
      unfold kstep at hst
      split at hst
      · rename_i hfn
        split at hst
        · rename_i hfree
          rcases I.cnt with h | ⟨h1, h2, h3, h4⟩
          · omega
          · obtain ⟨fr, hfr⟩ : ∃ fr : Nat, s.free = fr := ⟨s.free.toNat, by omega⟩
            rw [hfr, Int.toNat_natCast] at h4
            have hz : ∀ j, s.piv ≤ j → j < (rows0 R cols).length → s.M j k = 0 := by
              intro j hj hjn
              unfold kfind at hfn
              rw [List.findIdx?_eq_none_iff] at hfn
              have := hfn (j - s.piv) (by simp; omega)
              rw [show s.piv + (j - s.piv) = j by omega] at this
              simpa using this
            have u1 := x4 _ (uvec_ker I (by omega) (by omega) (f := fr) (by omega) (.inr hfr.symm) h4)
            have u2 := x4 _ (uvec_ker I (by omega) (by omega) (f := k) (by omega) (.inl (Nat.le_refl _)) hz)
            have a1 := u1 k (by omega)
            have a2 := u2 k (by omega)
            have a3 := u1 fr (by omega)
            have b1 : uvec s k fr k = 0 := by unfold uvec; rw [if_neg (by omega), if_neg (by omega)]
            have b2 : uvec s k k k = s.last := by unfold uvec; rw [if_pos rfl]
            have b3 : uvec s k fr fr = s.last := by unfold uvec; rw [if_pos rfl]
            rw [b1, Int.mul_zero] at a1
            rw [b2] at a2
            rw [b3] at a3
            have n1 : x f0 * s.last ≠ 0 := Int.mul_ne_zero x2 I.nz
            rw [a2] at n1
            have n2 : x k ≠ 0 := fun h => n1 (by rw [h]; simp)
            have n3 : uvec s k fr f0 = 0 := by
              rcases Int.mul_eq_zero.1 a1.symm with h | h
              · exact absurd h n2
              · exact h
            rw [n3, Int.mul_zero] at a3
            exact Int.mul_ne_zero x2 I.nz a3
        · cases hst
      · cases hst
theorem krun_free (hn : cols.length ≤ 5) (hn0 : 0 < cols.length) {x : Nat → Int} {f0 : Nat} (hx : One R cols x f0) : ∃ s fr, krun R cols cols.length = some s ∧ s.free = (fr : Nat) := by
  obtain ⟨s, hs⟩ := krun_one hn hx cols.length (Nat.le_refl _)
  obtain ⟨x1, x2, x3, x4⟩ := hx
  by_cases hfree : 0 ≤ s.free
  · exact ⟨s, s.free.toNat, hs, by omega⟩
  exfalso
  obtain ⟨n, hnn⟩ : ∃ n, cols.length = n + 1 := ⟨cols.length - 1, by omega⟩
  have hs' := hs
  rw [hnn] at hs'
  simp only [krun, Option.bind_eq_some_iff] at hs'
  obtain ⟨s0, h0, h1⟩ := hs'
  obtain ⟨P, K, I⟩ := krun_Inv R cols hn n s0 (by omega) h0
  unfold kstep at h1
  split at h1
  · split at h1
    · cases h1
    · cases h1; exact hfree (by show (0 : Int) ≤ (n : Int); omega)
  · rename_i i hi
    cases h1
    obtain ⟨q1, q2⟩ := kfind_some hi
    have hcn : s0.free = -1 ∧ s0.piv = n := by
      rcases I.cnt with h | h
      · exact h
      · exact absurd h.1 hfree
    have hK : ∀ l, l < s0.piv → K l = if l < n then l else l + 1 := fun l hl => by
      rw [I.col l hl]; unfold kcol; rw [if_pos (.inl (by omega)), if_pos (by omega)]
    have r1 := row_of I (by omega) (by omega) (f := n) (by omega) hK x3 (s0.piv + i)
    rw [if_neg (by omega), Int.add_zero] at r1
    have un : x n = 0 := by
      rcases Int.mul_eq_zero.1 r1 with h | h
      · exact absurd h q2
      · exact h
    apply x2
    by_cases e : f0 = n
    · rw [e]; exact un
    · have r2 := row_of I (by omega) (by omega) (f := n) (by omega) hK x3 f0
      rw [if_pos (by omega), un, Int.mul_zero, Int.zero_add, hK f0 (by omega), if_pos (by omega)] at r2
      rcases Int.mul_eq_zero.1 r2 with h | h
      · exact absurd h I.nz
      · exact h
end
structure Gen (R : List (List Int)) (cols : List Nat) (v : Nat → Int) : Prop where
  pos : ∀ c, c < cols.length → 0 < v c
  ker : InKer R cols v
  one : ∀ u, InKer R cols u → ∀ c, c < cols.length → v 0 * u c = v c * u 0
  prim : ∀ d : Nat, (∀ c, c < cols.length → (d : Int) ∣ v c) → d = 1
theorem prop_eq {n : Nat} {v y : Nat → Int} (hn : 0 < n) (hv : ∀ c, c < n → 0 < v c) (hy : ∀ c, c < n → 0 < y c) (h : ∀ c, c < n → v 0 * y c = v c * y 0)
    (pv : ∀ d : Nat, (∀ c, c < n → (d : Int) ∣ v c) → d = 1) (py : ∀ d : Nat, (∀ c, c < n → (d : Int) ∣ y c) → d = 1) : ∀ c, c < n → v c = y c := by
  have hvN : ∀ c, c < n → v c = ((v c).toNat : Int) := fun c hc => by have := hv c hc; omega
  have hyN : ∀ c, c < n → y c = ((y c).toNat : Int) := fun c hc => by have := hy c hc; omega
  have hN : ∀ c, c < n → (v 0).toNat * (y c).toNat = (v c).toNat * (y 0).toNat := fun c hc => by
    have := h c hc
    rw [hvN 0 hn, hyN c hc, hvN c hc, hyN 0 hn] at this
    exact_mod_cast this
  have ha : 0 < (v 0).toNat := by have := hv 0 hn; omega
  have hb : 0 < (y 0).toNat := by have := hy 0 hn; omega
  have hg : 0 < Nat.gcd (v 0).toNat (y 0).toNat := Nat.gcd_pos_of_pos_left _ ha
  obtain ⟨a', ha'⟩ := Nat.gcd_dvd_left (v 0).toNat (y 0).toNat
  obtain ⟨b', hb'⟩ := Nat.gcd_dvd_right (v 0).toNat (y 0).toNat
  have hco : Nat.Coprime a' b' := by
    have := Nat.coprime_div_gcd_div_gcd hg
    rwa [Nat.div_eq_of_eq_mul_right hg ha', Nat.div_eq_of_eq_mul_right hg hb'] at this
  generalize hG : Nat.gcd (v 0).toNat (y 0).toNat = g at *
  have hN2 : ∀ c, c < n → a' * (y c).toNat = (v c).toNat * b' := fun c hc => by
    have := hN c hc
    rw [ha', hb', Nat.mul_assoc, Nat.mul_left_comm (v c).toNat g b'] at this
    exact Nat.eq_of_mul_eq_mul_left hg this
  have h1 : a' = 1 := pv a' fun c hc => by
    have : a' ∣ (v c).toNat * b' := ⟨_, (hN2 c hc).symm⟩
    rw [hvN c hc]
    exact Int.natCast_dvd_natCast.2 (hco.dvd_of_dvd_mul_right this)
  have h2 : b' = 1 := py b' fun c hc => by
    have : b' ∣ a' * (y c).toNat := ⟨_, by rw [hN2 c hc, Nat.mul_comm]⟩
    rw [hyN c hc]
    exact Int.natCast_dvd_natCast.2 (hco.symm.dvd_of_dvd_mul_left this)
  intro c hc
  have := hN2 c hc
  rw [h1, h2] at this
  have h3 := hvN c hc
  have h4 := hyN c hc
  omega
theorem dvd_kgcd {d : Nat} {f : Nat → Int} : ∀ n, (∀ c, c < n → (d : Int) ∣ f c) → d ∣ kgcd ((List.range n).map f)
  | 0, _ => by simp [kgcd]
  | n + 1, h => by
    rw [kgcd_succ]
    exact Nat.dvd_gcd (dvd_kgcd n fun c hc => h c (by omega)) (Int.natCast_dvd_natCast.1 (Int.dvd_natAbs.2 (h n (by omega))))
section
variable {R : List (List Int)} {cols : List Nat}
def ysgn (s : KS) (n c : Nat) : Int := if kout s 0 < 0 then -((kout s c).tdiv (kgcd ((List.range n).map (kout s)))) else (kout s c).tdiv (kgcd ((List.range n).map (kout s)))
theorem ysgn_mul {s : KS} {n : Nat} (hn : 0 < n) (h0 : ∀ c, c < n → kout s c ≠ 0) : ∃ g : Int, g ≠ 0 ∧ (0 < ysgn s n 0) ∧ (∀ c, c < n → kout s c = g * ysgn s n c) ∧ ∀ d : Nat, (∀ c, c < n → (d : Int) ∣ ysgn s n c) → d = 1 := by
  have hg := kgcd_pos hn h0
  have hdv : ∀ c, c < n → (kgcd ((List.range n).map (kout s)) : Int) ∣ kout s c := fun c hc => kgcd_dvd _ _ c hc
  have hle : ∀ d : Nat, (∀ c, c < n → (d : Int) ∣ kout s c) → d ∣ kgcd ((List.range n).map (kout s)) := fun d hd => dvd_kgcd n hd
  unfold ysgn
  generalize kgcd ((List.range n).map (kout s)) = G at *
  have hG : (G : Int) ≠ 0 := by omega
  have hm : ∀ c, c < n → (kout s c).tdiv G * G = kout s c := fun c hc => Int.tdiv_mul_cancel (hdv c hc)
  have prim : ∀ d : Nat, (∀ c, c < n → (d : Int) ∣ (kout s c).tdiv G) → d = 1 := fun d hd => by
    have : d * G ∣ G := hle (d * G) fun c hc => by
      rw [← hm c hc, Int.natCast_mul]
      exact Int.mul_dvd_mul_right _ (hd c hc)
    obtain ⟨q, hq⟩ := this
    have hq2 : G * 1 = G * (d * q) := by rw [Nat.mul_one, ← Nat.mul_assoc, Nat.mul_comm G d]; exact hq
    have := Nat.eq_of_mul_eq_mul_left (by omega) hq2
    exact Nat.eq_one_of_mul_eq_one_right this.symm
  have hs0 := hm 0 hn
  have hk0 := h0 0 hn
  by_cases hneg : kout s 0 < 0
  · simp only [if_pos hneg]
    refine ⟨-G, by omega, ?_, fun c hc => ?_, fun d hd => prim d fun c hc => Int.dvd_neg.1 (hd c hc)⟩
    · have : (kout s 0).tdiv G < 0 := by
        rcases (by omega : (kout s 0).tdiv G < 0 ∨ 0 ≤ (kout s 0).tdiv G) with h | h
        · exact h
        · have := Int.mul_nonneg h (show (0 : Int) ≤ G by omega)
          omega
      omega
    · rw [Int.neg_mul_neg, Int.mul_comm]; exact (hm c hc).symm
  · simp only [if_neg hneg]
    refine ⟨G, hG, ?_, fun c hc => by rw [Int.mul_comm]; exact (hm c hc).symm, prim⟩
    rcases (by omega : 0 < (kout s 0).tdiv G ∨ (kout s 0).tdiv G ≤ 0) with h | h
    · exact h
    · exfalso
      have := Int.mul_nonneg (show (0 : Int) ≤ -((kout s 0).tdiv G) by omega) (show (0 : Int) ≤ G by omega)
      rw [Int.neg_mul] at this
      omega
theorem kfin_ysgn {s : KS} {n fr : Nat} (hfr : s.free = (fr : Nat)) (h0 : ∀ c, c < n → kout s c ≠ 0) : kfin n s = some ((List.range n).map (ysgn s n)) := by
  unfold kfin
  rw [if_neg (by omega), if_neg]
  · rfl
  · intro h
    obtain ⟨y, hy, h2⟩ := List.any_eq_true.1 h
    obtain ⟨c, hc, rfl⟩ := List.mem_map.1 hy
    exact h0 c (by simpa using hc) (by simpa using h2)
theorem gen_ker (hn0 : 0 < cols.length) (hn : cols.length ≤ 5) {v : Nat → Int} (G : Gen R cols v) : kerR R cols = some ((List.range cols.length).map v) := by
  have hone : One R cols v 0 := ⟨hn0, by have := G.pos 0 hn0; omega, G.ker, G.one⟩
  obtain ⟨s, fr, hs, hfr⟩ := krun_free hn hn0 hone
  obtain ⟨P, K, I⟩ := krun_Inv R cols hn _ s (Nat.le_refl _) hs
  have hko := kout_ker hn I hfr
  have hp := G.one _ hko
  have hfrn : fr < cols.length := by rcases I.cnt with h | h <;> omega
  have hl : kout s fr = s.last := by unfold kout; rw [if_pos hfr.symm]
  have h00 : kout s 0 ≠ 0 := fun e => by
    have := hp fr hfrn
    rw [e, hl, Int.mul_zero] at this
    exact Int.mul_ne_zero hone.2.1 I.nz this
  have h0 : ∀ c, c < cols.length → kout s c ≠ 0 := fun c hc e => by
    have := hp c hc
    rw [e, Int.mul_zero] at this
    have h1 := G.pos c hc
    exact Int.mul_ne_zero (by omega) h00 this.symm
  obtain ⟨g, g0, y0, hy, prim⟩ := ysgn_mul hn0 h0
  unfold kerR
  rw [hs]
  show kfin _ s = _
  rw [kfin_ysgn hfr h0]
  congr 1
  refine List.map_congr_left fun c hc => ?_
  have hp2 : ∀ c, c < cols.length → v 0 * ysgn s cols.length c = v c * ysgn s cols.length 0 := fun c hc => by
    have := hp c hc
    rw [hy c hc, hy 0 hn0] at this
    refine Int.eq_of_mul_eq_mul_left g0 ?_
    rw [Int.mul_left_comm, this, Int.mul_left_comm]
  have hyp : ∀ c, c < cols.length → 0 < ysgn s cols.length c := fun c hc => by
    have h1 := hp2 c hc
    have h2 := Int.mul_pos (G.pos c hc) y0
    rcases (by omega : 0 < ysgn s cols.length c ∨ ysgn s cols.length c ≤ 0) with h | h
    · exact h
    · exfalso
      have := Int.mul_nonneg (show (0 : Int) ≤ v 0 by have := G.pos 0 hn0; omega) (show (0 : Int) ≤ -(ysgn s cols.length c) by omega)
      rw [Int.mul_neg] at this
      omega
  exact (prop_eq hn0 G.pos hyp hp2 G.prim prim c (by simpa using hc)).symm
theorem ker_gen (hn0 : 0 < cols.length) (hn : cols.length ≤ 5) {l : List Int} (h : kerR R cols = some l) (hpos : ∀ x ∈ l, 0 < x) : Gen R cols (fun c => l.getD c 0) := by
  unfold kerR at h
  simp only [Option.bind_eq_some_iff] at h
  obtain ⟨s, hs, hf⟩ := h
  obtain ⟨P, K, I⟩ := krun_Inv R cols hn _ s (Nat.le_refl _) hs
  obtain ⟨f0, f1, hl⟩ := kfin_some hf
  obtain ⟨fr, hfr⟩ : ∃ fr : Nat, s.free = fr := ⟨s.free.toNat, by omega⟩
  have hl : l = (List.range cols.length).map (ysgn s cols.length) := hl
  obtain ⟨g, g0, y0, hy, prim⟩ := ysgn_mul hn0 f1
  have hD : ∀ c, c < cols.length → l.getD c 0 = ysgn s cols.length c := fun c hc => by
    rw [hl, List.getD_eq_getElem?_getD, List.getElem?_map, List.getElem?_range hc]; rfl
  refine ⟨fun c hc => ?_, ?_, fun u hu c hc => ?_, fun d hd => prim d fun c hc => by rw [← hD c hc]; exact hd c hc⟩
  · rw [hD c hc]; exact hpos _ (by rw [hl]; exact List.mem_map.2 ⟨c, by simpa using hc, rfl⟩)
  · intro r hr
    have h1 := kout_ker hn I hfr r hr
    have e : dot cols.length (kout s) (fun c => (rrow cols r).getD c 0) = g * dot cols.length (fun c => l.getD c 0) (fun c => (rrow cols r).getD c 0) := by
      unfold dot
      rw [Int.mul_comm, ← sumN_mul]
      refine sumN_congr fun c hc => ?_
      show (rrow cols r).getD c 0 * kout s c = (rrow cols r).getD c 0 * l.getD c 0 * g
      rw [hD c hc, hy c hc, Int.mul_assoc, Int.mul_comm g]
    rw [e] at h1
    rcases Int.mul_eq_zero.1 h1 with h | h
    · exact absurd h g0
    · exact h
  · rw [hD c hc, hD 0 hn0]
    have a1 := ker_mult hn I hfr hu hc
    have a2 := ker_mult hn I hfr hu hn0
    rw [hy c hc] at a1
    rw [hy 0 hn0] at a2
    refine Int.eq_of_mul_eq_mul_left (Int.mul_ne_zero I.nz g0) ?_
    generalize ysgn s cols.length c = yc at *
    generalize ysgn s cols.length 0 = yz at *
    calc s.last * g * (yz * u c) = g * yz * (s.last * u c) := by grind
      _ = g * yz * (g * yc * u fr) := by rw [a1]
      _ = g * yc * (g * yz * u fr) := by grind
      _ = g * yc * (s.last * u 0) := by rw [a2]
      _ = s.last * g * (yc * u 0) := by grind
theorem small_ker (hn0 : 0 < cols.length) (hn : cols.length ≤ 5) (hB : ∀ r ∈ R, ∀ x ∈ r, x.natAbs ≤ 2) {x : Nat → Int} {f0 : Nat} (hx : One R cols x f0) : ∃ w, InKer R cols w ∧ (∀ c, c < cols.length → (w c).natAbs ≤ 384) ∧ ∃ c, c < cols.length ∧ w c ≠ 0 := by
  obtain ⟨s, fr, hs, hfr⟩ := krun_free hn hn0 hx
  obtain ⟨P, K, I⟩ := krun_Inv R cols hn _ s (Nat.le_refl _) hs
  obtain ⟨h2, h3⟩ : fr < cols.length ∧ s.piv + 1 = cols.length := by
    rcases I.cnt with h | ⟨_, h2, h3, h4⟩
    · omega
    · exact ⟨by omega, h3⟩
  have hP : ∀ j c, (P j c).natAbs ≤ 2 := fun j c => by obtain ⟨i, e⟩ := I.from' j; rw [e]; exact mx_bd hB i c
  obtain ⟨g1, g2⟩ := I.rel.bd2 hP (by omega)
  refine ⟨kout s, kout_ker hn I hfr, fun c hc => ?_, fr, h2, by unfold kout; rw [if_pos hfr.symm]; exact I.nz⟩
  unfold kout
  split
  · exact g1
  · rename_i e
    rw [I.pos c hc (by omega), hfr, Int.toNat_natCast]
    have : kpos (fr : Int) c < s.piv := by unfold kpos; split <;> omega
    have := g2 (kpos (fr : Int) c) fr this h2
    rw [Int.natAbs_neg]; exact this
end
end Go.AM.SN
namespace Go.AM.SN
set_option maxRecDepth 100000
set_option linter.unusedSimpArgs false
set_option linter.unusedVariables false
def ld (L : List (List Int)) (i c : Nat) : Int := (L.getD i []).getD c 0
def KerL (n : Nat) (L : List (List Int)) (u : Nat → Int) : Prop := ∀ i, i < L.length → dot n u (ld L i) = 0
theorem ld_set {L : List (List Int)} {i : Nat} (hi : i < L.length) (r : List Int) (j : Nat) : ld (L.set i r) j = if j = i then fun c => r.getD c 0 else ld L j := by
  funext c
  unfold ld
  rw [List.getD_eq_getElem?_getD (l := L.set i r), List.getElem?_set]
  by_cases e : i = j
  · subst e; rw [if_pos rfl, if_pos hi, if_pos rfl]; rfl
  · rw [if_neg e, if_neg (fun h => e h.symm), ← List.getD_eq_getElem?_getD (l := L)]
def redR (r : List Int) : List Int := if 1 < kgcd r then r.map fun x => x.tdiv (kgcd r) else r
theorem kgcd_list (r : List Int) : kgcd r = kgcd ((List.range r.length).map fun c => r.getD c 0) := by
  congr 1
  refine List.ext_getElem? fun j => ?_
  by_cases hj : j < r.length
  · simp [List.getElem?_range hj, List.getD_eq_getElem?_getD, hj]
  · simp [List.getElem?_eq_none (show (List.range r.length).length ≤ j by simp; omega), hj]
theorem redR_len (r : List Int) : (redR r).length = r.length := by unfold redR; split <;> simp
theorem getD_map_tdiv (r : List Int) (g : Int) (c : Nat) : (r.map fun x => x.tdiv g).getD c 0 = (r.getD c 0).tdiv g := by
  rw [List.getD_eq_getElem?_getD, List.getD_eq_getElem?_getD, List.getElem?_map]
  cases r[c]? <;> simp
theorem redR_mul (r : List Int) : ∃ g : Int, 1 ≤ g ∧ ∀ c, r.getD c 0 = g * (redR r).getD c 0 := by
  unfold redR
  by_cases h : 1 < kgcd r
  · rw [if_pos h]
    refine ⟨kgcd r, by omega, fun c => ?_⟩
    rw [getD_map_tdiv]
    by_cases hc : c < r.length
    · have := kgcd_dvd (fun c => r.getD c 0) r.length c hc
      rw [← kgcd_list] at this
      rw [Int.mul_comm]; exact (Int.tdiv_mul_cancel this).symm
    · rw [List.getD_eq_getElem?_getD, List.getElem?_eq_none (by omega)]; simp
  · rw [if_neg h]; exact ⟨1, by omega, fun c => by omega⟩
theorem redR_abs (r : List Int) (c : Nat) : ((redR r).getD c 0).natAbs ≤ (r.getD c 0).natAbs := by
  unfold redR
  split
  · rw [getD_map_tdiv, Int.natAbs_tdiv]; exact Nat.div_le_self _ _
  · exact Nat.le_refl _
theorem redR_prim (r : List Int) (q : Nat) (hq : ∀ c, c < r.length → (q : Int) ∣ (redR r).getD c 0) : q = 1 ∨ ∀ c, (redR r).getD c 0 = 0 := by
  have hd : ∀ d : Nat, (∀ c, c < r.length → (d : Int) ∣ r.getD c 0) → d ∣ kgcd r := fun d h => by rw [kgcd_list]; exact dvd_kgcd _ h
  by_cases h : 1 < kgcd r
  · left
    have hr : redR r = r.map fun x => x.tdiv (kgcd r) := by unfold redR; rw [if_pos h]
    rw [hr] at hq
    have : q * kgcd r ∣ kgcd r := hd _ fun c hc => by
      have h1 := kgcd_dvd (fun c => r.getD c 0) r.length c hc
      rw [← kgcd_list] at h1
      have h2 := hq c hc
      rw [getD_map_tdiv] at h2
      have h3 := Int.mul_dvd_mul_right (kgcd r : Int) h2
      rw [Int.tdiv_mul_cancel h1] at h3
      rw [Int.natCast_mul]; exact h3
    obtain ⟨k, hk⟩ := this
    have hk2 : kgcd r * 1 = kgcd r * (q * k) := by rw [Nat.mul_one, ← Nat.mul_assoc, Nat.mul_comm (kgcd r) q]; exact hk
    exact Nat.eq_one_of_mul_eq_one_right (Nat.eq_of_mul_eq_mul_left (by omega) hk2).symm
  · have hr : redR r = r := by unfold redR; rw [if_neg h]
    rw [hr] at hq ⊢
    by_cases h0 : kgcd r = 0
    · right
      intro c
      by_cases hc : c < r.length
      · have h1 := kgcd_dvd (fun c => r.getD c 0) r.length c hc
        rw [← kgcd_list, h0] at h1
        simpa using h1
      · rw [List.getD_eq_getElem?_getD, List.getElem?_eq_none (by omega)]; rfl
    · left
      have h1 := hd q hq
      have h2 : kgcd r = 1 := by omega
      rw [h2] at h1
      exact Nat.dvd_one.1 h1
def bndK : Nat → Nat
  | 0 => 2
  | 1 => 8
  | 2 => 128
  | 3 => 32768
  | 4 => 2147483648
  | _ => 4611686018427387904
def Fine (n : Nat) (r : Nat → Int) : Prop := (∀ d, (r d).natAbs ≤ 2) ∨ ∀ q : Nat, (∀ d, d < n → (q : Int) ∣ r d) → q = 1 ∨ ∀ d, r d = 0
structure EI (n E c : Nat) (KA : (Nat → Int) → Prop) (L : List (List Int)) (pv : List Nat) : Prop where
  len : L.length = E
  rl : ∀ r ∈ L, r.length = n
  ker : ∀ u, KerL n L u ↔ KA u
  pvl : pv.length ≤ E
  pinc : pv.Pairwise (· < ·)
  plt : ∀ p ∈ pv, p < c
  pnz : ∀ i p, pv[i]? = some p → ld L i p ≠ 0
  pz : ∀ i p j, pv[i]? = some p → j ≠ i → j < E → ld L j p = 0
  low : ∀ j d, pv.length ≤ j → j < E → d < c → ld L j d = 0
  bd : ∀ i d, (ld L i d).natAbs ≤ bndK pv.length
  red : ∀ i, i < E → Fine n (ld L i)
structure EM (n E c : Nat) (KA : (Nat → Int) → Prop) (pv : List Nat) (i : Nat) (L : List (List Int)) : Prop where
  len : L.length = E
  rl : ∀ r ∈ L, r.length = n
  ker : ∀ u, KerL n L u ↔ KA u
  atE : pv.length < E
  pinc : pv.Pairwise (· < ·)
  plt : ∀ p ∈ pv, p < c
  pnz : ∀ i p, pv[i]? = some p → ld L i p ≠ 0
  pz : ∀ i p j, pv[i]? = some p → j ≠ i → j < E → ld L j p = 0
  low : ∀ j d, pv.length ≤ j → j < E → d < c → ld L j d = 0
  nz : ld L pv.length c ≠ 0
  done : ∀ j, j < i → j ≠ pv.length → ld L j c = 0
  bdD : ∀ j d, j < i → j ≠ pv.length → (ld L j d).natAbs ≤ bndK (pv.length + 1)
  bdU : ∀ j d, i ≤ j ∨ j = pv.length → (ld L j d).natAbs ≤ bndK pv.length
  red : ∀ i, i < E → Fine n (ld L i)
theorem inc_len {pv : List Nat} {c : Nat} (h : pv.Pairwise (· < ·)) (hc : ∀ p ∈ pv, p < c) : ∀ i p, pv[i]? = some p → i ≤ p ∧ p + (pv.length - i) ≤ c := by
  have key : ∀ d i (hi : i < pv.length) (hj : i + d < pv.length), pv[i] + d ≤ pv[i + d] := by
    intro d
    induction d with
    | zero => intro i hi hj; simp
    | succ d ih =>
      intro i hi hj
      have h1 := ih i hi (by omega)
      have h2 := List.pairwise_iff_getElem.1 h (i + d) (i + (d + 1)) (by omega) hj (by omega)
      omega
  intro i p hp
  obtain ⟨hi, rfl⟩ := List.getElem?_eq_some_iff.1 hp
  have h1 := key i 0 (by omega) (by omega)
  have h2 := key (pv.length - 1 - i) i hi (by omega)
  have h3 := hc _ (List.getElem_mem (show i + (pv.length - 1 - i) < pv.length by omega))
  simp only [Nat.zero_add] at h1
  omega
theorem len_le {pv : List Nat} {c : Nat} (h : pv.Pairwise (· < ·)) (hc : ∀ p ∈ pv, p < c) : pv.length ≤ c := by
  cases hl : pv.length with
  | zero => omega
  | succ m =>
    obtain ⟨p, hp⟩ := get_ex (l := pv) (i := 0) (by omega)
    have := (inc_len h hc 0 p hp).2
    omega
theorem ld_none {L : List (List Int)} {i d : Nat} (hi : L.length ≤ i) : ld L i d = 0 := by
  unfold ld
  rw [List.getD_eq_getElem?_getD (l := L), List.getElem?_eq_none hi]; rfl
section
variable {n E c : Nat} {KA : (Nat → Int) → Prop} {L : List (List Int)} {pv : List Nat}
theorem EI.skip (h : EI n E c KA L pv) (hz : ∀ j, pv.length ≤ j → j < E → ld L j c = 0) : EI n E (c + 1) KA L pv := by
  refine ⟨h.len, h.rl, h.ker, h.pvl, h.pinc, fun p hp => ?_, h.pnz, h.pz, fun j d h1 h2 h3 => ?_, h.bd, h.red⟩
  · have := h.plt p hp; omega
  · by_cases e : d = c
    · subst e; exact hz j h1 h2
    · exact h.low j d h1 h2 (by omega)
def swapL (L : List (List Int)) (p a : Nat) : List (List Int) := (L.set p (L.getD a [])).set a (L.getD p [])
theorem ld_swap {L : List (List Int)} {p a : Nat} (hp : p < L.length) (ha : a < L.length) (j : Nat) : ld (swapL L p a) j = if j = a then ld L p else if j = p then ld L a else ld L j := by
  unfold swapL
  rw [ld_set (by simp; exact ha), ld_set hp]; rfl
theorem EI.swap (h : EI n E c KA L pv) {p : Nat} (hp1 : pv.length ≤ p) (hp2 : p < E) (hnz : ld L p c ≠ 0) : EM n E c KA pv 0 (swapL L p pv.length) := by
  have hlen := h.len
  have hsw := fun j => ld_swap (L := L) (p := p) (a := pv.length) (by omega) (by omega) j
  have hl2 : (swapL L p pv.length).length = E := by unfold swapL; simp [hlen]
  have hmem : ∀ i, i < E → L.getD i [] ∈ L := fun i hi => by rw [List.getD_eq_getElem?_getD, List.getElem?_eq_getElem (by omega)]; simp
  refine ⟨hl2, fun r hr => ?_, fun u => ?_, by omega, h.pinc, h.plt, fun i q hq => ?_, fun i q j hq hj hjE => ?_, fun j d h1 h2 h3 => ?_, ?_, fun j hj => absurd hj (Nat.not_lt_zero _), fun j d hj => absurd hj (Nat.not_lt_zero _), fun j d _ => ?_, fun i hi => ?_⟩
  · unfold swapL at hr
    rcases List.mem_or_eq_of_mem_set hr with hr | rfl
    · rcases List.mem_or_eq_of_mem_set hr with hr | rfl
      · exact h.rl r hr
      · exact h.rl _ (hmem _ (by omega))
    · exact h.rl _ (hmem _ hp2)
  · rw [← h.ker u]
    unfold KerL
    rw [hl2, hlen]
    constructor
    · intro hk i hi
      by_cases e1 : i = pv.length
      · have := hk p hp2
        rw [hsw p] at this
        by_cases e2 : p = pv.length
        · rw [if_pos e2] at this; rw [e1, ← e2]; exact this
        · rw [if_neg e2, if_pos rfl] at this; rw [e1]; exact this
      · by_cases e2 : i = p
        · have := hk pv.length (by omega)
          rw [hsw, if_pos rfl] at this; rw [e2]; exact this
        · have := hk i hi
          rw [hsw, if_neg e1, if_neg e2] at this; exact this
    · intro hk i hi
      rw [hsw]
      split
      · exact hk p hp2
      · split
        · exact hk _ (by omega)
        · exact hk i hi
  · have hi := (List.getElem?_eq_some_iff.1 hq).1
    rw [hsw, if_neg (by omega), if_neg (by omega)]; exact h.pnz i q hq
  · have hi := (List.getElem?_eq_some_iff.1 hq).1
    rw [hsw]
    split
    · exact h.pz i q p hq (by omega) hp2
    · split
      · exact h.pz i q _ hq (by omega) (by omega)
      · exact h.pz i q j hq hj hjE
  · rw [hsw]
    split
    · exact h.low p d hp1 hp2 h3
    · split
      · exact h.low _ d (Nat.le_refl _) (by omega) h3
      · exact h.low j d h1 h2 h3
  · rw [hsw, if_pos rfl]; exact hnz
  · rw [hsw]
    split
    · exact h.bd _ _
    · split <;> exact h.bd _ _
  · rw [hsw]
    split
    · exact h.red p hp2
    · split
      · exact h.red _ (by omega)
      · exact h.red i hi
theorem EM.skip {i : Nat} (h : EM n E c KA pv i L) (hi : i = pv.length ∨ ld L i c = 0) (hB : bndK pv.length ≤ bndK (pv.length + 1)) : EM n E c KA pv (i + 1) L := by
  refine ⟨h.len, h.rl, h.ker, h.atE, h.pinc, h.plt, h.pnz, h.pz, h.low, h.nz, fun j hj hne => ?_, fun j d hj hne => ?_, fun j d hj => h.bdU j d (hj.elim (fun h => .inl (by omega)) .inr), h.red⟩
  · by_cases e : j = i
    · subst e
      rcases hi with h | h
      · exact absurd h hne
      · exact h
    · exact h.done j (by omega) hne
  · by_cases e : j = i
    · subst e; exact Nat.le_trans (h.bdU j d (.inl (Nat.le_refl _))) hB
    · exact h.bdD j d (by omega) hne
def rowE (n : Nat) (L : List (List Int)) (i a c : Nat) : List Int := (List.range n).map fun k => ld L a c * ld L i k - ld L i c * ld L a k
theorem rowE_get {n : Nat} {L : List (List Int)} {i a c k : Nat} (hk : k < n) : (rowE n L i a c).getD k 0 = ld L a c * ld L i k - ld L i c * ld L a k := by
  simp [rowE, List.getD_eq_getElem?_getD, List.getElem?_range hk]
theorem bnd_sq : ∀ k, k ≤ 3 → 2 * (bndK k * bndK k) ≤ bndK (k + 1) := by decide
theorem bnd_mono : ∀ k, k ≤ 4 → bndK k ≤ bndK (k + 1) := by decide
theorem bnd_top : ∀ k, bndK k ≤ 4611686018427387904 := by
  intro k
  match k with
  | 0 | 1 | 2 | 3 | 4 => decide
  | k + 5 => exact Nat.le_refl _
theorem EM.at4 {i : Nat} (h : EM n E c KA pv i L) (hn : n ≤ 5) (hc : c < n) : pv.length ≤ 4 := by
  have := len_le h.pinc h.plt; omega
theorem EM.prods {i : Nat} (h : EM n E c KA pv i L) (hn : n ≤ 5) (hc : c < n) {k : Nat} : (ld L pv.length c * ld L i k).natAbs ≤ 4611686018427387904 ∧ (ld L i c * ld L pv.length k).natAbs ≤ 4611686018427387904 := by
  have h4 := h.at4 hn hc
  have hb : bndK pv.length ≤ 2147483648 := by
    have : ∀ k, k ≤ 4 → bndK k ≤ 2147483648 := by decide
    exact this _ h4
  have b1 := h.bdU pv.length c (.inr rfl)
  have b2 := h.bdU i k (.inl (Nat.le_refl _))
  have b3 := h.bdU i c (.inl (Nat.le_refl _))
  have b4 := h.bdU pv.length k (.inr rfl)
  have p1 := Nat.mul_le_mul (Nat.le_trans b1 hb) (Nat.le_trans b2 hb)
  have p2 := Nat.mul_le_mul (Nat.le_trans b3 hb) (Nat.le_trans b4 hb)
  rw [Int.natAbs_mul, Int.natAbs_mul]
  exact ⟨by omega, by omega⟩
theorem EM.rowE_bd {i : Nat} (h : EM n E c KA pv i L) (hn : n ≤ 5) (hc : c < n) (hi : i < E) (hne : i ≠ pv.length) (k : Nat) : ((rowE n L i pv.length c).getD k 0).natAbs ≤ bndK (pv.length + 1) := by
  by_cases hk : k < n
  · rw [rowE_get hk]
    have h4 := h.at4 hn hc
    have b1 := h.bdU pv.length c (.inr rfl)
    have b2 := h.bdU i k (.inl (Nat.le_refl _))
    have b3 := h.bdU i c (.inl (Nat.le_refl _))
    have b4 := h.bdU pv.length k (.inr rfl)
    have p1 := Nat.mul_le_mul b1 b2
    have p2 := Nat.mul_le_mul b3 b4
    rw [← Int.natAbs_mul] at p1 p2
    by_cases h3 : pv.length ≤ 3
    · have := bnd_sq _ h3
      omega
    · have e4 : pv.length = 4 := by omega
      obtain ⟨q, hq⟩ := get_ex (l := pv) (i := 3) (by omega)
      have hq3 := (inc_len h.pinc h.plt 3 q hq)
      have hc4 : c = 4 := by omega
      by_cases hk4 : k = c
      · subst hk4
        rw [Int.mul_comm (ld L i k)]; simp
      · have hz := h.low pv.length k (Nat.le_refl _) h.atE (by omega)
        rw [hz]
        rw [e4] at p1 ⊢
        simp only [Int.mul_zero, Int.sub_zero]
        exact Nat.le_trans p1 (by decide)
  · rw [List.getD_eq_getElem?_getD, List.getElem?_eq_none (by simp [rowE]; omega)]; simp
theorem EM.step {i : Nat} (h : EM n E c KA pv i L) (hn : n ≤ 5) (hc : c < n) (hi : i < E) (hne : i ≠ pv.length) (hz : ld L i c ≠ 0) : EM n E c KA pv (i + 1) (L.set i (redR (rowE n L i pv.length c))) := by
  have hlen := h.len
  have hiL : i < L.length := by omega
  have hrl : (rowE n L i pv.length c).length = n := by simp [rowE]
  obtain ⟨g, hg1, hg⟩ := redR_mul (rowE n L i pv.length c)
  have hprim := redR_prim (rowE n L i pv.length c)
  have habs := redR_abs (rowE n L i pv.length c)
  have hbd := h.rowE_bd hn hc hi hne
  have hset := fun j => ld_set hiL (redR (rowE n L i pv.length c)) j
  have hat : ld (L.set i (redR (rowE n L i pv.length c))) pv.length = ld L pv.length := by rw [hset, if_neg (fun h => hne h.symm)]
  have hval : ∀ k, k < n → g * (redR (rowE n L i pv.length c)).getD k 0 = ld L pv.length c * ld L i k - ld L i c * ld L pv.length k := fun k hk => by rw [← hg k, rowE_get hk]
  have hzero : ∀ k, k < n → ld L pv.length c * ld L i k - ld L i c * ld L pv.length k = 0 → (redR (rowE n L i pv.length c)).getD k 0 = 0 := fun k hk h0 => by
    have := hval k hk
    rw [h0] at this
    rcases Int.mul_eq_zero.1 this with h | h
    · omega
    · exact h
  refine ⟨by simp [hlen], fun r hr => ?_, fun u => ?_, h.atE, h.pinc, h.plt, fun j p hp => ?_, fun j p q hp hq hqE => ?_, fun j d h1 h2 h3 => ?_, by rw [hat]; exact h.nz, fun j hj hja => ?_, fun j d hj hja => ?_, fun j d hj => ?_, fun j hj => ?_⟩
  · rcases List.mem_or_eq_of_mem_set hr with hr | rfl
    · exact h.rl r hr
    · rw [redR_len, hrl]
  · rw [← h.ker u]
    have hdot : g * dot n u (fun k => (redR (rowE n L i pv.length c)).getD k 0) = ld L pv.length c * dot n u (ld L i) + (-(ld L i c)) * dot n u (ld L pv.length) := by
      rw [← dot_lin1, ← dot_lin1, ← dot_lin1, ← dot_add]
      exact dot_congr fun k hk => by rw [hval k hk, Int.neg_mul]; omega
    unfold KerL
    rw [List.length_set]
    constructor
    · intro hk j hj
      have ha := hk pv.length (by have := h.atE; omega)
      rw [hat] at ha
      by_cases e : j = i
      · subst e
        have hi' := hk j hj
        rw [hset, if_pos rfl] at hi'
        rw [hi', ha, Int.mul_zero, Int.mul_zero, Int.add_zero] at hdot
        rcases Int.mul_eq_zero.1 hdot.symm with h' | h'
        · exact absurd h' h.nz
        · exact h'
      · have := hk j hj
        rw [hset, if_neg e] at this; exact this
    · intro hk j hj
      rw [hset]
      by_cases e : j = i
      · rw [if_pos e]
        rw [hk i hiL, hk pv.length (by have := h.atE; omega), Int.mul_zero, Int.mul_zero, Int.add_zero] at hdot
        rcases Int.mul_eq_zero.1 hdot with h' | h'
        · omega
        · exact h'
      · rw [if_neg e]; exact hk j hj
  · have hpl := h.plt p (List.mem_of_getElem? hp)
    have hjl := (List.getElem?_eq_some_iff.1 hp).1
    rw [hset]
    by_cases e : j = i
    · subst e
      rw [if_pos rfl]
      intro h0
      have h1 := hval p (by omega)
      rw [h0, h.pz j p pv.length hp (by omega) h.atE, Int.mul_zero, Int.mul_zero, Int.sub_zero] at h1
      exact Int.mul_ne_zero h.nz (h.pnz j p hp) h1.symm
    · rw [if_neg e]; exact h.pnz j p hp
  · have hpl := h.plt p (List.mem_of_getElem? hp)
    have hjl := (List.getElem?_eq_some_iff.1 hp).1
    rw [hset]
    by_cases e : q = i
    · subst e
      rw [if_pos rfl]
      refine hzero p (by omega) ?_
      rw [h.pz j p pv.length hp (by omega) h.atE, h.pz j p q hp hq hqE]; simp
    · rw [if_neg e]; exact h.pz j p q hp hq hqE
  · rw [hset]
    by_cases e : j = i
    · subst e
      rw [if_pos rfl]
      refine hzero d (by omega) ?_
      rw [h.low j d h1 h2 h3, h.low pv.length d (Nat.le_refl _) h.atE h3]; simp
    · rw [if_neg e]; exact h.low j d h1 h2 h3
  · rw [hset]
    by_cases e : j = i
    · subst e
      rw [if_pos rfl]
      exact hzero c hc (by rw [Int.mul_comm]; omega)
    · rw [if_neg e]; exact h.done j (by omega) hja
  · rw [hset]
    by_cases e : j = i
    · rw [if_pos e]; exact Nat.le_trans (habs d) (hbd d)
    · rw [if_neg e]; exact h.bdD j d (by omega) hja
  · rw [hset, if_neg (by omega)]
    exact h.bdU j d (hj.elim (fun h => .inl (by omega)) .inr)
  · rw [hset]
    by_cases e : j = i
    · rw [if_pos e]
      right
      intro q hq
      exact hprim q (by rw [hrl]; exact hq)
    · rw [if_neg e]; exact h.red j hj
theorem EM.done' (h : EM n E c KA pv E L) (hn : n ≤ 5) (hc : c < n) : EI n E (c + 1) KA L (pv ++ [c]) := by
  have h4 := h.at4 hn hc
  have hl : (pv ++ [c]).length = pv.length + 1 := by simp
  have hget : ∀ i p, (pv ++ [c])[i]? = some p → (pv[i]? = some p ∧ i < pv.length) ∨ (i = pv.length ∧ p = c) := fun i p hp => by
    by_cases hi : i < pv.length
    · rw [List.getElem?_append_left hi] at hp; exact .inl ⟨hp, hi⟩
    · rw [List.getElem?_append_right (by omega)] at hp
      have : i - pv.length = 0 := by
        have := (List.getElem?_eq_some_iff.1 hp).1
        simp at this; omega
      rw [this] at hp
      simp at hp
      exact .inr ⟨by omega, hp.symm⟩
  refine ⟨h.len, h.rl, h.ker, by rw [hl]; exact h.atE, ?_, fun p hp => ?_, fun i p hp => ?_, fun i p j hp hj hjE => ?_, fun j d h1 h2 h3 => ?_, fun i d => ?_, h.red⟩
  · rw [List.pairwise_append]
    exact ⟨h.pinc, by simp, fun a ha b hb => by simp at hb; rw [hb]; exact h.plt a ha⟩
  · rcases List.mem_append.1 hp with hp | hp
    · have := h.plt p hp; omega
    · simp at hp; omega
  · rcases hget i p hp with ⟨h1, _⟩ | ⟨rfl, rfl⟩
    · exact h.pnz i p h1
    · exact h.nz
  · rcases hget i p hp with ⟨h1, _⟩ | ⟨rfl, rfl⟩
    · exact h.pz i p j h1 hj hjE
    · exact h.done j hjE hj
  · rw [hl] at h1
    by_cases e : d = c
    · subst e; exact h.done j h2 (by omega)
    · exact h.low j d (by omega) h2 (by omega)
  · rw [hl]
    by_cases hi : i < E
    · by_cases e : i = pv.length
      · exact Nat.le_trans (h.bdU i d (.inr e)) (bnd_mono _ h4)
      · exact h.bdD i d hi e
    · rw [ld_none (by rw [h.len]; omega)]; simp
end
end Go.AM.SN
namespace Go.AM.SN
set_option maxRecDepth 100000
set_option linter.unusedSimpArgs false
set_option linter.unusedVariables false
theorem dvd_cop {p q w : Int} (h : p ∣ q * w) (hg : Int.gcd p q = 1) : p ∣ w := by
  rw [← Int.natAbs_dvd_natAbs] at h ⊢
  rw [Int.natAbs_mul] at h
  exact Nat.Coprime.dvd_of_dvd_mul_left hg h
theorem one_free : ∀ (n : Nat) (pv : List Nat), pv.Pairwise (· < ·) → (∀ p ∈ pv, p < n) → pv.length + 1 ≤ n → ∃ f, f < n ∧ f ∉ pv
  | 0, pv, _, _, h => absurd h (by omega)
  | m + 1, pv, hp, hl, h => by
    by_cases hm : m ∈ pv
    · have h1 := List.length_erase_of_mem hm
      have hpos := List.length_pos_of_mem hm
      obtain ⟨f, hf, hn⟩ := one_free m (pv.erase m) (hp.sublist List.erase_sublist) (fun p hpm => by
        have h2 := hl p (List.mem_of_mem_erase hpm)
        have h3 : p ≠ m := by
          rintro rfl
          have hnd : pv.Nodup := hp.imp fun h => Nat.ne_of_lt h
          exact (List.Nodup.not_mem_erase hnd) hpm
        omega) (by omega)
      exact ⟨f, by omega, fun hh => hn ((List.mem_erase_of_ne (by omega)).2 hh)⟩
    · exact ⟨m, by omega, hm⟩
theorem two_free : ∀ (n : Nat) (pv : List Nat), pv.Pairwise (· < ·) → (∀ p ∈ pv, p < n) → pv.length + 2 ≤ n → ∃ f g, f < g ∧ g < n ∧ f ∉ pv ∧ g ∉ pv
  | 0, pv, _, _, h => absurd h (by omega)
  | m + 1, pv, hp, hl, h => by
    by_cases hm : m ∈ pv
    · have h1 := List.length_erase_of_mem hm
      have hpos := List.length_pos_of_mem hm
      obtain ⟨f, g, hfg, hg, hnf, hng⟩ := two_free m (pv.erase m) (hp.sublist List.erase_sublist) (fun p hpm => by
        have h2 := hl p (List.mem_of_mem_erase hpm)
        have h3 : p ≠ m := by
          rintro rfl
          have hnd : pv.Nodup := hp.imp fun h => Nat.ne_of_lt h
          exact (List.Nodup.not_mem_erase hnd) hpm
        omega) (by omega)
      exact ⟨f, g, hfg, by omega, fun hh => hnf ((List.mem_erase_of_ne (by omega)).2 hh), fun hh => hng ((List.mem_erase_of_ne (by omega)).2 hh)⟩
    · obtain ⟨f, hf, hn⟩ := one_free m pv hp (fun p hpm => by
        have := hl p hpm
        have : p ≠ m := fun e => hm (e ▸ hpm)
        omega) (by omega)
      exact ⟨f, m, hf, by omega, hn, hm⟩
def prodN (P : Nat → Int) : Nat → Int
  | 0 => 1
  | k + 1 => prodN P k * P k
theorem prodN_ne {P : Nat → Int} : ∀ m, (∀ i, i < m → P i ≠ 0) → prodN P m ≠ 0
  | 0, _ => by simp [prodN]
  | m + 1, h => Int.mul_ne_zero (prodN_ne m fun i hi => h i (by omega)) (h m (by omega))
theorem prodN_dvd {P : Nat → Int} : ∀ m i, i < m → P i ∣ prodN P m
  | 0, i, h => absurd h (Nat.not_lt_zero _)
  | m + 1, i, h => by
    by_cases e : i = m
    · subst e; exact Int.dvd_mul_left _ _
    · exact Int.dvd_trans (prodN_dvd m i (by omega)) (Int.dvd_mul_right _ _)
theorem dot_one {n p : Nat} {u r : Nat → Int} (hp : p < n) (hz : ∀ d, d < n → d ≠ p → r d = 0) : dot n u r = r p * u p := by
  unfold dot
  rw [sumN_pick _ p _ hp]
  have : sumN (fun c => if c = p then 0 else r c * u c) n = sumN (fun c => 0 * u c) n := sumN_congr fun c hc => by
    by_cases e : c = p
    · rw [if_pos e]; simp
    · rw [if_neg e, hz c hc e]
  rw [this]
  have h0 := dot_none (n := n) (u := u) (r := fun _ => 0) fun _ => rfl
  unfold dot at h0
  rw [h0]; omega
theorem dot_two {n p f : Nat} {u r : Nat → Int} (hp : p < n) (hf : f < n) (hpf : p ≠ f) (hz : ∀ d, d < n → d ≠ p → d ≠ f → r d = 0) : dot n u r = r p * u p + r f * u f := by
  have e : dot n u r = dot n u (fun c => (if c = p then r p else 0) + (if c = f then r f else 0)) := dot_congr fun c hc => by
    by_cases e1 : c = p
    · subst e1; rw [if_pos rfl, if_neg hpf]; omega
    · by_cases e2 : c = f
      · subst e2; rw [if_neg e1, if_pos rfl]; omega
      · rw [if_neg e1, if_neg e2, hz c hc e1 e2]; rfl
  rw [e, dot_add, dot_one (p := p) (r := fun c => if c = p then r p else 0) hp (fun d _ hd => if_neg hd), dot_one (p := f) (r := fun c => if c = f then r f else 0) hf (fun d _ hd => if_neg hd)]
  simp
section
variable {n E : Nat} {R : List (List Int)} {cols : List Nat} {L : List (List Int)} {pv : List Nat}
theorem free_vec (h : EI n E n (InKer R cols) L pv) {f : Nat} (hf : f < n) (hfp : f ∉ pv) : ∃ u, InKer R cols u ∧ u f ≠ 0 ∧ ∀ c, c < n → c ≠ f → c ∉ pv → u c = 0 := by
  let P : Nat → Int := fun i => ld L i (pv.getD i 0)
  have hPne : ∀ i, i < pv.length → P i ≠ 0 := fun i hi => by
    obtain ⟨p, hp⟩ := get_ex hi
    show ld L i (pv.getD i 0) ≠ 0
    rw [List.getD_eq_getElem?_getD, hp]; exact h.pnz i p hp
  let F := prodN P pv.length
  have hF : F ≠ 0 := prodN_ne _ hPne
  let u : Nat → Int := fun c => if c = f then F else match pv.findIdx? (· == c) with | some i => -((ld L i f * F).tdiv (P i)) | none => 0
  have hidx : ∀ i p, pv[i]? = some p → pv.findIdx? (· == p) = some i := fun i p hp => by
    obtain ⟨hi, rfl⟩ := List.getElem?_eq_some_iff.1 hp
    rw [List.findIdx?_eq_some_iff_getElem]
    refine ⟨hi, by simp, fun j hj => ?_⟩
    have := List.pairwise_iff_getElem.1 h.pinc j i (by omega) hi hj
    simp; omega
  have huf : u f = F := if_pos rfl
  have hup : ∀ i p, pv[i]? = some p → u p = -((ld L i f * F).tdiv (P i)) := fun i p hp => by
    show (if p = f then F else _) = _
    rw [if_neg (show p ≠ f from fun e => hfp (e ▸ List.mem_of_getElem? hp)), hidx i p hp]
  have hu0 : ∀ c, c ≠ f → c ∉ pv → u c = 0 := fun c hc hcp => by
    show (if c = f then F else _) = _
    rw [if_neg hc]
    cases hi : pv.findIdx? (· == c) with
    | none => rfl
    | some i =>
      exfalso
      rw [List.findIdx?_eq_some_iff_getElem] at hi
      obtain ⟨h1, h2, _⟩ := hi
      simp at h2
      exact hcp (h2 ▸ List.getElem_mem h1)
  refine ⟨u, (h.ker u).1 ?_, by rw [huf]; exact hF, fun c _ hc hcp => hu0 c hc hcp⟩
  intro i hi
  rw [h.len] at hi
  by_cases hil : i < pv.length
  · obtain ⟨p, hp⟩ := get_ex hil
    have hpn := h.plt p (List.mem_of_getElem? hp)
    have hpf : p ≠ f := fun e => hfp (e ▸ List.mem_of_getElem? hp)
    have e : dot n u (ld L i) = dot n u (fun c => if c = p ∨ c = f then ld L i c else 0) + dot n u (fun c => if c = p ∨ c = f then 0 else ld L i c) := by
      rw [← dot_add]
      exact dot_congr fun c hc => by split <;> omega
    have e2 : dot n u (fun c => if c = p ∨ c = f then 0 else ld L i c) = 0 := by
      unfold dot
      have : sumN (fun c => (if c = p ∨ c = f then 0 else ld L i c) * u c) n = sumN (fun c => 0 * u c) n := sumN_congr fun c hc => by
        by_cases e1 : c = p ∨ c = f
        · rw [if_pos e1]
        · rw [if_neg e1]
          by_cases hcp : c ∈ pv
          · obtain ⟨j, hj, hjl⟩ := mem_at hcp
            have hji : j ≠ i := by
              rintro rfl
              rw [hp] at hj; cases hj; exact e1 (.inl rfl)
            rw [h.pz j c i hj (fun e => hji e.symm) (by omega)]
          · rw [hu0 c (fun e => e1 (.inr e)) hcp]; simp
      rw [this]
      have h0 := dot_none (n := n) (u := u) (r := fun _ => 0) fun _ => rfl
      exact h0
    rw [e, e2, Int.add_zero, dot_two (p := p) (f := f) (r := fun c => if c = p ∨ c = f then ld L i c else 0) hpn hf hpf (fun d _ h1 h2 => if_neg (by omega))]
    simp only [true_or, or_true, if_true]
    rw [hup i p hp, huf]
    have hPi : P i = ld L i p := by show ld L i (pv.getD i 0) = _; rw [List.getD_eq_getElem?_getD, hp]; rfl
    have hd : P i ∣ ld L i f * F := Int.dvd_trans (prodN_dvd (P := P) _ i hil) (Int.dvd_mul_left _ _)
    have := Int.mul_tdiv_cancel' hd
    rw [← hPi, Int.mul_neg, this]; omega
  · exact dot_none' fun d hd => h.low i d (by omega) hi hd
where
  dot_none' {n : Nat} {u r : Nat → Int} (h : ∀ c, c < n → r c = 0) : dot n u r = 0 := by
    rw [dot_congr (b := fun _ => 0) h]; exact dot_none fun _ => rfl
theorem noGen_len (hn : n = cols.length) (hn0 : 0 < n) (h : EI n E n (InKer R cols) L pv) (hl : pv.length + 1 ≠ n) (v : Nat → Int) : ¬ Gen R cols v := by
  intro G
  have hle := len_le h.pinc h.plt
  subst hn
  by_cases hfull : pv.length = cols.length
  · have hpv : ∀ i, i < cols.length → pv[i]? = some i := fun i hi => by
      obtain ⟨p, hp⟩ := get_ex (l := pv) (i := i) (by omega)
      have := inc_len h.pinc h.plt i p hp
      have : p = i := by omega
      rw [hp, this]
    have hk := (h.ker v).2 G.ker 0 (by rw [h.len]; have := h.pvl; omega)
    rw [dot_one (p := 0) hn0 (fun d hd hd0 => h.pz d d 0 (hpv d hd) (fun e => hd0 e.symm) (by have := h.pvl; omega))] at hk
    exact Int.mul_ne_zero (h.pnz 0 0 (hpv 0 hn0)) (by have := G.pos 0 hn0; omega) hk
  · obtain ⟨f, g, hfg, hg, hfp, hgp⟩ := two_free cols.length pv h.pinc h.plt (by omega)
    obtain ⟨u, hu, huf, huz⟩ := free_vec h (f := f) (by omega) hfp
    have h1 := G.one u hu g hg
    have h2 := G.one u hu f (by omega)
    rw [huz g hg (by omega) hgp, Int.mul_zero] at h1
    have hvg := G.pos g hg
    have hv0 := G.pos 0 hn0
    have h3 : u 0 = 0 := by
      rcases Int.mul_eq_zero.1 h1.symm with h | h
      · omega
      · exact h
    rw [h3, Int.mul_zero] at h2
    exact Int.mul_ne_zero (by omega) huf h2
structure EF (n m E f : Nat) (R : List (List Int)) (cols : List Nat) (L : List (List Int)) (pv : List Nat) : Prop where
  ei : EI n E n (InKer R cols) L pv
  hn : n = m + 1
  hm : pv.length = m
  hf : f ≤ m
  hpv : ∀ i, i < m → pv[i]? = some (if i < f then i else i + 1)
theorem EF.of {m f : Nat} (h : EI n E n (InKer R cols) L pv) (hn : n = m + 1) (hm : pv.length = m) (hf : f ≤ m) (h1 : ∀ i, i < f → pv[i]? = some i) (h2 : f < m → pv[f]? ≠ some f) : EF n m E f R cols L pv := by
  refine ⟨h, hn, hm, hf, fun i hi => ?_⟩
  have key : ∀ d p, f + d < m → pv[f + d]? = some p → p = f + d + 1 := by
    intro d
    induction d with
    | zero =>
      intro p hd hp
      have := inc_len h.pinc h.plt _ p hp
      have hne : p ≠ f := fun e => h2 hd (by rw [show f + 0 = f from rfl] at hp; rw [hp, e])
      omega
    | succ d ih =>
      intro p hd hp
      obtain ⟨q, hq⟩ := get_ex (l := pv) (i := f + d) (by omega)
      have h3 := ih q (by omega) hq
      have h4 := inc_len h.pinc h.plt _ p hp
      obtain ⟨a1, a2⟩ := List.getElem?_eq_some_iff.1 hq
      obtain ⟨b1, b2⟩ := List.getElem?_eq_some_iff.1 hp
      have := List.pairwise_iff_getElem.1 h.pinc (f + d) (f + (d + 1)) a1 b1 (by omega)
      omega
  by_cases hif : i < f
  · rw [if_pos hif]; exact h1 i hif
  · rw [if_neg hif]
    obtain ⟨p, hp⟩ := get_ex (l := pv) (i := i) (by omega)
    have := key (i - f) p (by omega) (by rw [show f + (i - f) = i by omega]; exact hp)
    rw [hp, this, show f + (i - f) = i by omega]
def cl (f i : Nat) : Nat := if i < f then i else i + 1
def ic (f c : Nat) : Nat := if c < f then c else c - 1
section
variable {m f : Nat} (h : EF n m E f R cols L pv)
include h
theorem EF.pne {i : Nat} (hi : i < m) : ld L i (cl f i) ≠ 0 := h.ei.pnz i _ (h.hpv i hi)
theorem EF.mE : m ≤ E := by have := h.ei.pvl; have := h.hm; omega
theorem EF.row {i : Nat} (hi : i < m) (u : Nat → Int) : dot n u (ld L i) = ld L i (cl f i) * u (cl f i) + ld L i f * u f := by
  have h1 := h.hn
  have h2 := h.hf
  have hE := h.mE
  refine dot_two (by unfold cl; split <;> omega) (by omega) (by unfold cl; split <;> omega) fun d hd hdp hdf => ?_
  have hj : pv[ic f d]? = some d := by
    rw [h.hpv (ic f d) (by unfold ic; split <;> omega)]
    unfold ic
    congr 1
    by_cases e : d < f
    · rw [if_pos e, if_pos e]
    · rw [if_neg e, if_neg (by omega)]; omega
  refine h.ei.pz (ic f d) d i hj (fun e => hdp ?_) (by omega)
  subst e
  unfold cl ic
  by_cases e : d < f
  · rw [if_pos e, if_pos e]
  · rw [if_neg e, if_neg (by omega)]; omega
theorem EF.to {u : Nat → Int} (hu : InKer R cols u) {i : Nat} (hi : i < m) : ld L i (cl f i) * u (cl f i) + ld L i f * u f = 0 := by
  have hE := h.mE
  rw [← h.row hi u]
  exact (h.ei.ker u).2 hu i (by rw [h.ei.len]; omega)
theorem EF.from {u : Nat → Int} (hu : ∀ i, i < m → ld L i (cl f i) * u (cl f i) + ld L i f * u f = 0) : InKer R cols u := by
  refine (h.ei.ker u).1 fun i hi => ?_
  rw [h.ei.len] at hi
  by_cases him : i < m
  · rw [h.row him u]; exact hu i him
  · rw [dot_congr (b := fun _ => 0) fun d hd => h.ei.low i d (by rw [h.hm]; omega) hi hd]
    exact dot_none fun _ => rfl
end
def yv (L : List (List Int)) (f : Nat) (F : Int) (c : Nat) : Int := if c = f then F else 0 - (ld L (ic f c) f * F).tdiv (ld L (ic f c) c)
theorem ic_cl (f i : Nat) : ic f (cl f i) = i := by
  unfold ic cl
  by_cases e : i < f
  · rw [if_pos e, if_pos e]
  · rw [if_neg e, if_neg (by omega)]; omega
theorem cl_ne (f i : Nat) : cl f i ≠ f := by unfold cl; split <;> omega
section
variable {m f : Nat} {F : Int} (h : EF n m E f R cols L pv) (hF : ∀ i, i < m → ld L i (cl f i) ∣ F)
include h hF
theorem yv_mul {i : Nat} (hi : i < m) : ld L i (cl f i) * yv L f F (cl f i) = -(ld L i f * F) := by
  unfold yv
  rw [if_neg (cl_ne f i), ic_cl]
  have := Int.mul_tdiv_cancel' (Int.dvd_trans (hF i hi) (Int.dvd_mul_left (ld L i f) F))
  rw [Int.mul_sub, this]; omega
theorem yv_ker : InKer R cols (yv L f F) := h.from fun i hi => by
  rw [yv_mul h hF hi]
  have : yv L f F f = F := if_pos rfl
  rw [this]; omega
theorem yv_one {u : Nat → Int} (hu : InKer R cols u) {c : Nat} (hc : c < n) : yv L f F f * u c = yv L f F c * u f := by
  by_cases e : c = f
  · rw [e]
  · have h1 := h.hn
    have h2 := h.hf
    have hcl : cl f (ic f c) = c := by
      unfold cl ic
      by_cases e1 : c < f
      · rw [if_pos e1, if_pos e1]
      · rw [if_neg e1, if_neg (by omega)]; omega
    have hi : ic f c < m := by unfold ic; split <;> omega
    have k1 := h.to hu hi
    have k2 := yv_mul h hF hi
    have k3 := h.pne hi
    rw [hcl] at k1 k2 k3
    have k4 : yv L f F f = F := if_pos rfl
    rw [k4]
    refine Int.eq_of_mul_eq_mul_left k3 ?_
    generalize ld L (ic f c) c = p at *
    generalize ld L (ic f c) f = q at *
    generalize yv L f F c = y at *
    have k5 : p * u c = -(q * u f) := by omega
    calc p * (F * u c) = F * (p * u c) := by grind
      _ = F * (-(q * u f)) := by rw [k5]
      _ = -(q * F) * u f := by grind
      _ = (p * y) * u f := by rw [k2]
      _ = p * (y * u f) := by grind
end
theorem EF.small {m f : Nat} (h : EF n m E f R cols L pv) (hn : n = cols.length) (hn5 : n ≤ 5) (hB : ∀ r ∈ R, ∀ x ∈ r, x.natAbs ≤ 2) : ∃ D : Int, D ≠ 0 ∧ D.natAbs ≤ 768 ∧ ∀ i, i < m → ld L i (cl f i) ∣ D := by
  have h1 := h.hn
  have h2 := h.hf
  have hE := h.mE
  let P : Nat → Int := fun i => ld L i (cl f i)
  have hPne : ∀ i, i < m → P i ≠ 0 := fun i hi => h.pne hi
  have hPd : ∀ i, i < m → ld L i (cl f i) ∣ prodN P m := fun i hi => prodN_dvd (P := P) m i hi
  have hone : One R cols (yv L f (prodN P m)) f := ⟨by omega, by unfold yv; rw [if_pos rfl]; exact prodN_ne m hPne, yv_ker h hPd, fun u hu c hc => yv_one h hPd hu (by omega)⟩
  obtain ⟨w, hw, hwb, c0, hc0, hcn⟩ := small_ker (by omega) (by omega) hB hone
  have hwf : w f ≠ 0 := by
    intro e
    apply hcn
    have := yv_one h hPd hw (show c0 < n by omega)
    rw [e, Int.mul_zero] at this
    rcases Int.mul_eq_zero.1 this with h3 | h3
    · exact absurd h3 hone.2.1
    · exact h3
  refine ⟨2 * w f, by omega, by have := hwb f (by omega); omega, fun i hi => ?_⟩
  have k1 := h.to hw hi
  rcases h.ei.red i (by omega) with hs | hp
  · have k2 := hs (cl f i)
    have k3 := h.pne hi
    have : ld L i (cl f i) = 1 ∨ ld L i (cl f i) = -1 ∨ ld L i (cl f i) = 2 ∨ ld L i (cl f i) = -2 := by omega
    rcases this with e | e | e | e <;> rw [e]
    · exact Int.one_dvd _
    · exact ⟨-(2 * w f), by omega⟩
    · exact Int.dvd_mul_right _ _
    · exact ⟨-(w f), by omega⟩
  · have hg : Int.gcd (ld L i (cl f i)) (ld L i f) = 1 := by
      rcases hp (Int.gcd (ld L i (cl f i)) (ld L i f)) (fun d hd => by
        by_cases e1 : d = cl f i
        · rw [e1]; exact Int.gcd_dvd_left ..
        · by_cases e2 : d = f
          · rw [e2]; exact Int.gcd_dvd_right ..
          · have hj : pv[ic f d]? = some d := by
              rw [h.hpv (ic f d) (by unfold ic; split <;> omega)]
              unfold ic
              congr 1
              by_cases e : d < f
              · rw [if_pos e, if_pos e]
              · rw [if_neg e, if_neg (by omega)]; omega
            rw [h.ei.pz (ic f d) d i hj (fun e => e1 (by
              subst e
              unfold cl ic
              by_cases e : d < f
              · rw [if_pos e, if_pos e]
              · rw [if_neg e, if_neg (by omega)]; omega)) (by omega)]
            exact Int.dvd_zero _) with h3 | h3
      · exact h3
      · exact absurd (h3 _) (h.pne hi)
    have k2 : ld L i (cl f i) ∣ ld L i f * w f := ⟨-(w (cl f i)), by rw [Int.mul_neg]; omega⟩
    have k3 : ld L i (cl f i) ∣ w f := dvd_cop k2 hg
    exact Int.dvd_trans k3 (Int.dvd_mul_left _ _)
theorem lcm_step {f p D : Int} (hf : f ≠ 0) (hp : p ≠ 0) (hfD : f ∣ D) (hpD : p ∣ D) : f.tdiv (Int.gcd f p) * p ≠ 0 ∧ f ∣ f.tdiv (Int.gcd f p) * p ∧ p ∣ f.tdiv (Int.gcd f p) * p ∧ f.tdiv (Int.gcd f p) * p ∣ D := by
  have hg : (Int.gcd f p : Int) ≠ 0 := by
    intro e
    have := Int.gcd_dvd_left f p
    rw [e] at this
    exact hf (by simpa using this)
  obtain ⟨f', hf'⟩ := Int.gcd_dvd_left f p
  obtain ⟨p', hp'⟩ := Int.gcd_dvd_right f p
  generalize hG : Int.gcd f p = g at *
  have hd : f.tdiv g = f' := by rw [hf']; exact Int.mul_tdiv_cancel_left _ hg
  have hco : Int.gcd f' p' = 1 := by
    have h1 : g = g * Int.gcd f' p' := by
      conv => lhs; rw [← hG, hf', hp', Int.gcd_mul_left]
      simp
    exact (Nat.eq_of_mul_eq_mul_left (show 0 < g by omega) (by rw [Nat.mul_one]; exact h1)).symm
  rw [hd]
  have hf0 : f' ≠ 0 := fun e => hf (by rw [hf', e]; simp)
  refine ⟨Int.mul_ne_zero hf0 hp, ⟨p', by rw [hf', hp']; grind⟩, Int.dvd_mul_left _ _, ?_⟩
  obtain ⟨k, hk⟩ := hfD
  obtain ⟨j, hj⟩ := hpD
  have e1 : (g : Int) * (f' * k) = g * (p' * j) := by
    rw [← Int.mul_assoc, ← hf', ← hk, hj, hp', Int.mul_assoc]
  have e2 := Int.eq_of_mul_eq_mul_left hg e1
  have e3 : p' ∣ f' * k := ⟨j, e2⟩
  have e4 : p' ∣ k := dvd_cop e3 (by rw [Int.gcd_comm]; exact hco)
  obtain ⟨t, ht⟩ := e4
  exact ⟨t, by rw [hk, hf', ht, hp']; grind⟩
theorem sol_some {m f : Nat} {F : Int} (h : EF n m E f R cols L pv) (hn : n = cols.length) (hF : ∀ i, i < m → ld L i (cl f i) ∣ F) (hF0 : 0 < F) (hpos : ∀ c, c < n → 0 < yv L f F c) :
    Gen R cols (fun c => (redR ((List.range n).map (yv L f F))).getD c 0) := by
  have h1 := h.hn
  have h2 := h.hf
  obtain ⟨g, hg1, hg⟩ := redR_mul ((List.range n).map (yv L f F))
  have hD : ∀ c, c < n → yv L f F c = g * (redR ((List.range n).map (yv L f F))).getD c 0 := fun c hc => by
    rw [← hg c, List.getD_eq_getElem?_getD, List.getElem?_map, List.getElem?_range hc]; rfl
  have hp := redR_prim ((List.range n).map (yv L f F))
  have hgp : ∀ c, c < n → 0 < (redR ((List.range n).map (yv L f F))).getD c 0 := fun c hc => by
    have a := hpos c hc
    rw [hD c hc] at a
    rcases (by omega : 0 < (redR ((List.range n).map (yv L f F))).getD c 0 ∨ (redR ((List.range n).map (yv L f F))).getD c 0 ≤ 0) with b | b
    · exact b
    · exfalso
      have := Int.mul_nonneg (show (0 : Int) ≤ g by omega) (show (0 : Int) ≤ -((redR ((List.range n).map (yv L f F))).getD c 0) by omega)
      rw [Int.mul_neg] at this; omega
  subst hn
  refine ⟨hgp, fun r hr => ?_, fun u hu c hc => ?_, fun d hd => ?_⟩
  · have k := yv_ker h hF r hr
    have e : dot cols.length (yv L f F) (fun c => (rrow cols r).getD c 0) = g * dot cols.length (fun c => (redR ((List.range cols.length).map (yv L f F))).getD c 0) (fun c => (rrow cols r).getD c 0) := by
      unfold dot
      rw [Int.mul_comm, ← sumN_mul]
      refine sumN_congr fun c hc => ?_
      show (rrow cols r).getD c 0 * yv L f F c = (rrow cols r).getD c 0 * (redR _).getD c 0 * g
      rw [hD c hc, Int.mul_assoc, Int.mul_comm g]
    rw [e] at k
    rcases Int.mul_eq_zero.1 k with k | k
    · omega
    · exact k
  · have a1 := yv_one h hF hu hc
    have a2 := yv_one h hF hu (show 0 < cols.length by omega)
    rw [hD c hc] at a1
    rw [hD 0 (by omega)] at a2
    have a3 : yv L f F f = F := if_pos rfl
    rw [a3] at a1 a2
    generalize (redR ((List.range cols.length).map (yv L f F))).getD c 0 = yc at *
    generalize (redR ((List.range cols.length).map (yv L f F))).getD 0 0 = yz at *
    refine Int.eq_of_mul_eq_mul_left (Int.mul_ne_zero (show F ≠ 0 by omega) (show g ≠ 0 by omega)) ?_
    calc F * g * (yz * u c) = g * yz * (F * u c) := by grind
      _ = g * yz * (g * yc * u f) := by rw [a1]
      _ = g * yc * (g * yz * u f) := by grind
      _ = g * yc * (F * u 0) := by rw [a2]
      _ = F * g * (yc * u 0) := by grind
  · rcases hp d (by simpa using hd) with k | k
    · exact k
    · have := hgp 0 (by omega)
      rw [k 0] at this; omega
theorem sol_none {m f : Nat} {F : Int} (h : EF n m E f R cols L pv) (hn : n = cols.length) (hF : ∀ i, i < m → ld L i (cl f i) ∣ F) (hF0 : 0 < F) {c : Nat} (hc : c < n) (hneg : yv L f F c ≤ 0) (v : Nat → Int) : ¬ Gen R cols v := by
  intro G
  have h1 := h.hn
  have h2 := h.hf
  have a := yv_one h hF G.ker hc
  have a3 : yv L f F f = F := if_pos rfl
  rw [a3] at a
  have b1 := G.pos c (by omega)
  have b2 := G.pos f (by omega)
  have c1 := Int.mul_pos hF0 b1
  have c2 := Int.mul_nonneg (show (0 : Int) ≤ -(yv L f F c) by omega) (show (0 : Int) ≤ v f by omega)
  rw [Int.neg_mul] at c2
  omega
end
end Go.AM.SN
set_option maxRecDepth 100000
namespace Go.AM.SJ
open Go.Proofs
def s3 : SFn := ⟨85, [.tmp 4],
 (.seq (.region [⟨(some 2), .box .dyn (.t 0), [], none⟩,
 ⟨(some 4), .mov (.c (.bool false)), [], none⟩] [] [0, 4])
 (.seq (.seq (.region [⟨(some 16), .call .pure (.f 12) [], [], none⟩,
 ⟨(some 17), .un .not (.t 16), [0], none⟩] [] [16])
 (.cond (.t 17)
 (.seq (.region [⟨(some 4), .mov (.c (.bool false)), [], none⟩] [] [1, 2, 17])
 .ret)
 .skip))
 (.seq (.region [⟨(some 18), .load (some 7) (.t 2), [], none⟩,
 ⟨(some 19), .call .pure (.f 13) [(.t 18)], [0], none⟩,
 ⟨(some 5), .alloc .dyn (.agg [.nilsl, .nilsl]), [], none⟩,
 ⟨none, .store 2 (.t 5) (.t 19), [2, 1, 1, 0, 1, 2], none⟩] [] [4, 2, 17, 18, 19])
 (.seq (.region [⟨(some 20), .mov (.t 1), [], none⟩,
 ⟨(some 21), .bin .rem (.t 20) (.c (.int .u8 2)), [0], none⟩,
 ⟨(some 22), .conv .i64 (.t 21), [1], none⟩,
 ⟨(some 23), .bin .add (.c (.int .i64 1)) (.t 22), [2], none⟩,
 ⟨(some 6), .mov (.t 23), [3, 0, 1, 2, 3], none⟩] [] [1, 20, 21, 22, 23])
 (.seq (.region [⟨(some 25), .load (some 2) (.t 5), [], none⟩,
 ⟨(some 26), .mov (.t 6), [], none⟩,
 ⟨(some 27), .call .pure (.f 14) [(.t 25), (.t 26)], [0, 1], none⟩,
 ⟨(some 24), .mov (.t 27), [2], none⟩,
 ⟨(some 28), .extract 0 (.t 24), [3], none⟩,
 ⟨(some 29), .extract 1 (.t 24), [3], none⟩,
 ⟨(some 7), .mov (.t 28), [4, 2, 0, 1, 2, 3, 4], none⟩,
 ⟨(some 8), .mov (.t 29), [5, 6, 0, 1, 2, 3, 4, 5, 6], none⟩] [] [25, 26, 27, 24, 28, 29])
 (.seq (.region [⟨(some 31), .load (some 2) (.t 5), [], none⟩,
 ⟨(some 32), .mov (.t 6), [], none⟩,
 ⟨(some 33), .call .pure (.f 15) [(.t 31), (.t 32)], [0, 1], none⟩,
 ⟨(some 30), .mov (.t 33), [2], none⟩,
 ⟨(some 34), .extract 0 (.t 30), [3], none⟩,
 ⟨(some 35), .extract 1 (.t 30), [3], none⟩,
 ⟨(some 9), .mov (.t 34), [4, 2, 0, 1, 2, 3, 4], none⟩,
 ⟨(some 10), .mov (.t 35), [5, 6, 0, 1, 2, 3, 4, 5, 6], none⟩] [] [31, 32, 33, 30, 34, 35])
 (.seq (.region [⟨(some 36), .load (some 2) (.t 5), [], none⟩,
 ⟨(some 37), .mov (.t 6), [], none⟩,
 ⟨(some 38), .call .pure (.f 17) [(.t 36), (.t 37)], [0, 1], none⟩,
 ⟨(some 39), .call .pure (.f 16) [(.t 38)], [2, 2], none⟩,
 ⟨(some 11), .mov (.t 39), [3, 3, 0, 1, 2, 3], none⟩] [] [36, 37, 38, 39])
 (.seq (.region [⟨(some 12), .mov (.c (.bool true)), [], none⟩] [] [])
 (.seq (.seq (.region [⟨(some 13), .mov (.c (.int .i64 0)), [], none⟩] [] [])
 (.block 0 (.loop (.seq (.seq (.region [⟨(some 40), .mov (.t 13), [], none⟩,
 ⟨(some 41), .load (some 2) (.t 5), [], none⟩,
 ⟨(some 42), .mov (.t 6), [], none⟩,
 ⟨(some 43), .call .pure (.f 17) [(.t 41), (.t 42)], [1, 2], none⟩,
 ⟨(some 44), .len 1 (.t 43), [3], none⟩,
 ⟨(some 45), .bin .lss (.t 40) (.t 44), [0, 4], none⟩] [] [40, 41, 42, 43, 44])
 (.cond (.t 45)
 .skip
 (.exit 0)))
 (.seq (.block 1 (.seq (.region [⟨(some 14), .mov (.c (.bool false)), [], none⟩] [] [45])
 (.seq (.seq (.region [⟨(some 15), .mov (.c (.int .i64 0)), [], none⟩] [] [])
 (.block 2 (.loop (.seq (.seq (.region [⟨(some 48), .mov (.t 15), [], none⟩,
 ⟨(some 49), .mov (.t 11), [], none⟩,
 ⟨(some 50), .len 1 (.t 49), [1], none⟩,
 ⟨(some 51), .bin .lss (.t 48) (.t 50), [0, 2], none⟩] [] [48, 49, 50])
 (.cond (.t 51)
 .skip
 (.exit 2)))
 (.seq (.block 3 (.region [⟨(some 54), .mov (.t 14), [], none⟩,
 ⟨(some 55), .mov (.t 54), [0], none⟩,
 ⟨(some 56), .mov (.t 11), [1], (some (55, false))⟩,
 ⟨(some 57), .mov (.t 15), [1], (some (55, false))⟩,
 ⟨(some 58), .iaddr none 1 (.t 56) (.t 57), [2, 3, 1], (some (55, false))⟩,
 ⟨(some 59), .load none (.t 58), [4, 1], (some (55, false))⟩,
 ⟨(some 60), .mov (.t 13), [1], (some (55, false))⟩,
 ⟨(some 61), .iaddr none 1 (.t 59) (.t 60), [5, 6, 1], (some (55, false))⟩,
 ⟨(some 62), .load none (.t 61), [7, 1], (some (55, false))⟩,
 ⟨(some 63), .bin .neq (.t 62) (.c (.int .i64 0)), [8, 1], (some (55, false))⟩,
 ⟨(some 64), .pick (.t 55) (.c (.bool true)) (.t 63), [1, 9], none⟩,
 ⟨(some 14), .mov (.t 64), [10, 1, 0, 1, 2, 3, 4, 5, 6, 7, 8, 9, 10], none⟩] [] [51, 54, 55, 64]))
 (.region [⟨(some 52), .mov (.t 15), [], none⟩,
 ⟨(some 53), .bin .add (.t 52) (.c (.int .i64 1)), [0], none⟩,
 ⟨(some 15), .mov (.t 53), [1, 0, 1], none⟩] [] [52, 53]))))))
 (.region [⟨(some 65), .mov (.t 12), [], none⟩,
 ⟨(some 66), .mov (.t 65), [0], none⟩,
 ⟨(some 67), .mov (.t 14), [1], (some (66, true))⟩,
 ⟨(some 68), .pick (.t 66) (.t 67) (.c (.bool false)), [1, 2], none⟩,
 ⟨(some 12), .mov (.t 68), [3, 1, 0, 1, 2, 3], none⟩] [] [14, 15, 65, 66, 68]))))
 (.region [⟨(some 46), .mov (.t 13), [], none⟩,
 ⟨(some 47), .bin .add (.t 46) (.c (.int .i64 1)), [0], none⟩,
 ⟨(some 13), .mov (.t 47), [1, 0, 1], none⟩] [] [46, 47]))))))
 (.seq (.region [⟨(some 69), .mov (.t 8), [], none⟩,
 ⟨(some 70), .bin .eql (.t 69) (.c (.int .i64 0)), [0], none⟩,
 ⟨(some 71), .mov (.t 70), [1], none⟩,
 ⟨(some 72), .mov (.t 7), [2], (some (71, true))⟩,
 ⟨(some 73), .mov (.t 11), [2], (some (71, true))⟩,
 ⟨(some 74), .call .pure (.f 18) [(.t 72), (.t 73)], [3, 4, 2, 2], (some (71, true))⟩,
 ⟨(some 75), .pick (.t 71) (.t 74) (.c (.bool false)), [2, 5], none⟩,
 ⟨(some 76), .mov (.t 75), [6, 5], none⟩,
 ⟨(some 77), .mov (.t 10), [7], (some (76, true))⟩,
 ⟨(some 78), .bin .eql (.t 77) (.c (.int .i64 0)), [8, 7], (some (76, true))⟩,
 ⟨(some 79), .pick (.t 76) (.t 78) (.c (.bool false)), [7, 9], none⟩,
 ⟨(some 80), .mov (.t 79), [10, 7], none⟩,
 ⟨(some 81), .mov (.t 9), [11], (some (80, true))⟩,
 ⟨(some 82), .mov (.t 12), [11], (some (80, true))⟩,
 ⟨(some 83), .eq (.flat false [.b]) false (.t 81) (.t 82), [12, 13, 11], (some (80, true))⟩,
 ⟨(some 84), .pick (.t 80) (.t 83) (.c (.bool false)), [11, 14], none⟩,
 ⟨(some 4), .mov (.t 84), [15, 11, 0, 1, 2, 3, 4, 5, 6, 7, 8, 9, 10, 11, 12, 13, 14, 15], none⟩] [] [5, 6, 7, 8, 9, 10, 11, 12, 13, 63, 62, 61, 59, 60, 58, 56, 57, 67, 83, 81, 82, 78, 77, 74, 72, 73, 69, 70, 71, 75, 76, 79, 80, 84])
 .ret))))))))))⟩
def s16 : SFn := ⟨124, [.tmp 2],
 (.seq (.region [⟨(some 2), .mov (.c .nilsl), [], none⟩] [] [2])
 (.seq (.region [⟨(some 3), .mov (.c .nilsl), [], none⟩,
 ⟨(some 4), .mov (.c .nilsl), [0], none⟩] [] [])
 (.seq (.seq (.region [⟨(some 5), .mov (.c (.int .i64 1)), [], none⟩] [] [])
 (.block 0 (.loop (.seq (.seq (.region [⟨(some 15), .mov (.t 5), [], none⟩,
 ⟨(some 16), .mov (.t 0), [], none⟩,
 ⟨(some 17), .len 1 (.t 16), [1], none⟩,
 ⟨(some 18), .bin .leq (.t 15) (.t 17), [0, 2], none⟩] [] [15, 16, 17])
 (.cond (.t 18)
 .skip
 (.exit 0)))
 (.seq (.block 1 (.seq (.region [⟨(some 21), .mov (.t 0), [], none⟩,
 ⟨(some 22), .len 1 (.t 21), [0], none⟩,
 ⟨(some 23), .mov (.t 5), [], none⟩,
 ⟨(some 24), .call .pure (.f 42) [(.c (.int .i64 0)), (.t 22), (.t 23)], [1, 2], none⟩,
 ⟨(some 6), .mov (.t 24), [3, 3, 0, 1, 2, 3], none⟩] [] [18, 21, 22, 23, 24])
 (.seq (.region [⟨(some 7), .mov (.c (.int .i64 0)), [], none⟩] [] [])
 (.block 2 (.loop (.seq (.seq (.region [⟨(some 25), .mov (.t 7), [], none⟩,
 ⟨(some 26), .mov (.t 6), [], none⟩,
 ⟨(some 27), .len 1 (.t 26), [1], none⟩,
 ⟨(some 28), .bin .lss (.t 25) (.t 27), [0, 2], none⟩] [] [25, 26, 27])
 (.cond (.t 28)
 .skip
 (.exit 2)))
 (.seq (.block 3 (.seq (.region [⟨(some 8), .mov (.c (.bool true)), [], none⟩] [] [28])
 (.seq (.seq (.region [⟨(some 9), .mov (.c (.int .i64 0)), [], none⟩] [] [])
 (.block 4 (.loop (.seq (.seq (.region [⟨(some 31), .mov (.t 9), [], none⟩,
 ⟨(some 32), .mov (.t 4), [], none⟩,
 ⟨(some 33), .len 1 (.t 32), [1], none⟩,
 ⟨(some 34), .bin .lss (.t 31) (.t 33), [0, 2], none⟩] [] [31, 32, 33])
 (.cond (.t 34)
 .skip
 (.exit 4)))
 (.seq (.block 5 (.region [⟨(some 37), .mov (.t 8), [], none⟩,
 ⟨(some 38), .mov (.t 37), [0], none⟩,
 ⟨(some 39), .mov (.t 4), [1], (some (38, true))⟩,
 ⟨(some 40), .mov (.t 9), [1], (some (38, true))⟩,
 ⟨(some 41), .iaddr none 1 (.t 39) (.t 40), [2, 3, 1], (some (38, true))⟩,
 ⟨(some 42), .load none (.t 41), [4, 1], (some (38, true))⟩,
 ⟨(some 43), .mov (.t 6), [1], (some (38, true))⟩,
 ⟨(some 44), .mov (.t 7), [1], (some (38, true))⟩,
 ⟨(some 45), .iaddr none 1 (.t 43) (.t 44), [6, 7, 1], (some (38, true))⟩,
 ⟨(some 46), .load none (.t 45), [8, 1], (some (38, true))⟩,
 ⟨(some 47), .call .pure (.f 43) [(.t 42), (.t 46)], [5, 9, 1, 1], (some (38, true))⟩,
 ⟨(some 48), .un .not (.t 47), [10, 1], (some (38, true))⟩,
 ⟨(some 49), .pick (.t 38) (.t 48) (.c (.bool false)), [1, 11], none⟩,
 ⟨(some 8), .mov (.t 49), [12, 10, 0, 1, 2, 3, 4, 5, 6, 7, 8, 9, 10, 11, 12], none⟩] [] [34, 37, 38, 49]))
 (.region [⟨(some 35), .mov (.t 9), [], none⟩,
 ⟨(some 36), .bin .add (.t 35) (.c (.int .i64 1)), [0], none⟩,
 ⟨(some 9), .mov (.t 36), [1, 0, 1], none⟩] [] [35, 36]))))))
 (.seq (.seq (.region [⟨(some 50), .mov (.t 8), [], none⟩,
 ⟨(some 51), .un .not (.t 50), [0], none⟩] [] [8, 9, 50])
 (.cond (.t 51)
 (.exit 3)
 .skip))
 (.seq (.seq (.region [⟨(some 52), .mov (.t 0), [], none⟩,
 ⟨(some 53), .iaddr none 1 (.t 52) (.c (.int .i64 0)), [0], none⟩,
 ⟨(some 54), .load none (.t 53), [1], none⟩,
 ⟨(some 55), .len 1 (.t 54), [2], none⟩,
 ⟨(some 56), .bin .eql (.t 55) (.c (.int .i64 0)), [3], none⟩] [] [51, 52, 53, 54, 55])
 (.cond (.t 56)
 (.seq (.region [⟨(some 57), .mov (.t 0), [], none⟩,
 ⟨(some 58), .len 1 (.t 57), [0], none⟩,
 ⟨(some 59), .mkslice .dyn 1 8 [(.int .i64 0)] (.t 58) (.t 58), [1, 1], none⟩,
 ⟨(some 10), .mov (.t 59), [2, 0, 1, 2], none⟩] [] [56, 57, 58, 59])
 (.seq (.region [⟨(some 60), .mov (.t 10), [], none⟩,
 ⟨(some 61), .mov (.t 6), [], none⟩,
 ⟨(some 62), .mov (.t 7), [], none⟩,
 ⟨(some 63), .iaddr none 1 (.t 61) (.t 62), [1, 2], none⟩,
 ⟨(some 64), .load none (.t 63), [3], none⟩,
 ⟨(some 65), .iaddr none 1 (.t 64) (.c (.int .i64 0)), [4], none⟩,
 ⟨(some 66), .load none (.t 65), [5], none⟩,
 ⟨(some 67), .iaddr none 1 (.t 60) (.t 66), [0, 6, 0, 1, 2, 3, 4, 5, 6], none⟩,
 ⟨none, .store 1 (.t 67) (.c (.int .i64 1)), [7, 0, 1, 2, 3, 4, 5, 6], none⟩] [] [60, 61, 62, 63, 64, 65, 66, 67])
 (.seq (.region [⟨(some 68), .mov (.t 3), [], none⟩,
 ⟨(some 69), .mov (.t 10), [], none⟩,
 ⟨(some 70), .bslice false .dyn 1 1 [.nilsl] [(0, 1, (.t 69))], [1], none⟩,
 ⟨(some 71), .append .dyn 1 24 (.t 68) (.t 70), [0, 2], none⟩,
 ⟨(some 72), .mov (.t 4), [], none⟩,
 ⟨(some 73), .mov (.t 6), [], none⟩,
 ⟨(some 74), .mov (.t 7), [], none⟩,
 ⟨(some 75), .iaddr none 1 (.t 73) (.t 74), [5, 6], none⟩,
 ⟨(some 76), .load none (.t 75), [7], none⟩,
 ⟨(some 77), .bslice false .dyn 1 1 [.nilsl] [(0, 1, (.t 76))], [8], none⟩,
 ⟨(some 78), .append .dyn 1 24 (.t 72) (.t 77), [4, 9, 3], none⟩,
 ⟨(some 3), .mov (.t 71), [3, 10, 0, 1, 2, 3], none⟩,
 ⟨(some 4), .mov (.t 78), [10, 11, 0, 1, 2, 3, 4, 5, 6, 7, 8, 9, 10, 11], none⟩] [(2, 8), (3, 8), (3, 9)] [10, 68, 69, 70, 71, 72, 73, 74, 75, 76, 77, 78])
 (.exit 3))))
 .skip))
 (.seq (.region [⟨(some 80), .mov (.t 0), [], none⟩,
 ⟨(some 81), .mov (.t 6), [], none⟩,
 ⟨(some 82), .mov (.t 7), [], none⟩,
 ⟨(some 83), .iaddr none 1 (.t 81) (.t 82), [1, 2], none⟩,
 ⟨(some 84), .load none (.t 83), [3], none⟩,
 ⟨(some 85), .call .pure (.f 44) [(.t 80), (.t 84)], [0, 4], none⟩,
 ⟨(some 79), .mov (.t 85), [5], none⟩,
 ⟨(some 86), .extract 0 (.t 79), [6], none⟩,
 ⟨(some 87), .extract 1 (.t 79), [6], none⟩,
 ⟨(some 11), .mov (.t 86), [7, 5, 0, 1, 2, 3, 4, 5, 6, 7], none⟩,
 ⟨(some 12), .mov (.t 87), [8, 9, 0, 1, 2, 3, 4, 5, 6, 7, 8, 9], none⟩] [] [56, 80, 81, 82, 83, 84, 85, 79, 86, 87])
 (.seq (.seq (.region [⟨(some 88), .mov (.t 12), [], none⟩,
 ⟨(some 89), .un .not (.t 88), [0], none⟩] [] [12, 88])
 (.cond (.t 89)
 (.exit 3)
 .skip))
 (.seq (.region [⟨(some 90), .mov (.t 0), [], none⟩,
 ⟨(some 91), .len 1 (.t 90), [0], none⟩,
 ⟨(some 92), .mkslice .dyn 1 8 [(.int .i64 0)] (.t 91) (.t 91), [1, 1], none⟩,
 ⟨(some 13), .mov (.t 92), [2, 0, 1, 2], none⟩] [] [89, 90, 91, 92])
 (.seq (.seq (.region [⟨(some 14), .mov (.c (.int .i64 0)), [], none⟩] [] [])
 (.block 6 (.loop (.seq (.seq (.region [⟨(some 93), .mov (.t 14), [], none⟩,
 ⟨(some 94), .mov (.t 11), [], none⟩,
 ⟨(some 95), .len 1 (.t 94), [1], none⟩,
 ⟨(some 96), .bin .lss (.t 93) (.t 95), [0, 2], none⟩] [] [93, 94, 95])
 (.cond (.t 96)
 .skip
 (.exit 6)))
 (.seq (.block 7 (.region [⟨(some 99), .mov (.t 13), [], none⟩,
 ⟨(some 100), .mov (.t 6), [], none⟩,
 ⟨(some 101), .mov (.t 7), [], none⟩,
 ⟨(some 102), .iaddr none 1 (.t 100) (.t 101), [1, 2], none⟩,
 ⟨(some 103), .load none (.t 102), [3], none⟩,
 ⟨(some 104), .mov (.t 14), [], none⟩,
 ⟨(some 105), .iaddr none 1 (.t 103) (.t 104), [4, 5], none⟩,
 ⟨(some 106), .load none (.t 105), [6], none⟩,
 ⟨(some 107), .mov (.t 11), [], none⟩,
 ⟨(some 108), .mov (.t 14), [], none⟩,
 ⟨(some 109), .iaddr none 1 (.t 107) (.t 108), [8, 9], none⟩,
 ⟨(some 110), .load none (.t 109), [10], none⟩,
 ⟨(some 111), .iaddr none 1 (.t 99) (.t 106), [0, 7, 0, 1, 2, 3, 4, 5, 6, 7, 8, 9, 10, 11], none⟩,
 ⟨none, .store 1 (.t 111) (.t 110), [12, 11, 0, 1, 2, 3, 4, 5, 6, 7, 8, 9, 10, 11], none⟩] [] [96, 99, 100, 101, 102, 103, 104, 105, 106, 107, 108, 109, 110, 111]))
 (.region [⟨(some 97), .mov (.t 14), [], none⟩,
 ⟨(some 98), .bin .add (.t 97) (.c (.int .i64 1)), [0], none⟩,
 ⟨(some 14), .mov (.t 98), [1, 0, 1], none⟩] [] [97, 98]))))))
 (.region [⟨(some 112), .mov (.t 3), [], none⟩,
 ⟨(some 113), .mov (.t 13), [], none⟩,
 ⟨(some 114), .bslice false .dyn 1 1 [.nilsl] [(0, 1, (.t 113))], [1], none⟩,
 ⟨(some 115), .append .dyn 1 24 (.t 112) (.t 114), [0, 2], none⟩,
 ⟨(some 116), .mov (.t 4), [], none⟩,
 ⟨(some 117), .mov (.t 6), [], none⟩,
 ⟨(some 118), .mov (.t 7), [], none⟩,
 ⟨(some 119), .iaddr none 1 (.t 117) (.t 118), [5, 6], none⟩,
 ⟨(some 120), .load none (.t 119), [7], none⟩,
 ⟨(some 121), .bslice false .dyn 1 1 [.nilsl] [(0, 1, (.t 120))], [8], none⟩,
 ⟨(some 122), .append .dyn 1 24 (.t 116) (.t 121), [4, 9, 3], none⟩,
 ⟨(some 3), .mov (.t 115), [3, 10, 0, 1, 2, 3], none⟩,
 ⟨(some 4), .mov (.t 122), [10, 11, 0, 1, 2, 3, 4, 5, 6, 7, 8, 9, 10, 11], none⟩] [(2, 8), (3, 8), (3, 9)] [11, 13, 14, 112, 113, 114, 115, 116, 117, 118, 119, 120, 121, 122]))))))))))
 (.region [⟨(some 29), .mov (.t 7), [], none⟩,
 ⟨(some 30), .bin .add (.t 29) (.c (.int .i64 1)), [0], none⟩,
 ⟨(some 7), .mov (.t 30), [1, 0, 1], none⟩] [] [29, 30]))))))))
 (.region [⟨(some 19), .mov (.t 5), [], none⟩,
 ⟨(some 20), .bin .add (.t 19) (.c (.int .i64 1)), [0], none⟩,
 ⟨(some 5), .mov (.t 20), [1, 0, 1], none⟩] [] [6, 7, 19, 20]))))))
 (.seq (.region [⟨(some 123), .mov (.t 3), [], none⟩,
 ⟨(some 2), .mov (.t 123), [0, 0], none⟩] [] [0, 3, 4, 5, 48, 47, 42, 46, 45, 43, 44, 41, 39, 40, 123])
 .ret))))⟩
def s42 : SFn := ⟨43, [.tmp 6],
 (.seq (.region [⟨(some 6), .mov (.c .nilsl), [], none⟩] [] [6])
 (.seq (.seq (.region [⟨(some 11), .mov (.t 2), [], none⟩,
 ⟨(some 12), .bin .eql (.t 11) (.c (.int .i64 0)), [0], none⟩] [] [11])
 (.cond (.t 12)
 (.seq (.region [⟨(some 13), .bslice false .dyn 1 1 [.nilsl] [(0, 1, (.c .nilsl))], [], none⟩,
 ⟨(some 6), .mov (.t 13), [0, 0], none⟩] [] [0, 1, 2, 12, 13])
 .ret)
 .skip))
 (.seq (.region [⟨(some 7), .mov (.c .nilsl), [], none⟩] [] [6, 12])
 (.seq (.seq (.region [⟨(some 14), .mov (.t 0), [], none⟩,
 ⟨(some 8), .mov (.t 14), [0, 0], none⟩] [] [0, 14])
 (.block 0 (.loop (.seq (.seq (.region [⟨(some 15), .mov (.t 8), [], none⟩,
 ⟨(some 16), .mov (.t 1), [], none⟩,
 ⟨(some 17), .bin .lss (.t 15) (.t 16), [0, 1], none⟩] [] [15, 16])
 (.cond (.t 17)
 .skip
 (.exit 0)))
 (.seq (.block 1 (.seq (.region [⟨(some 20), .mov (.t 8), [], none⟩,
 ⟨(some 21), .bin .add (.t 20) (.c (.int .i64 1)), [0], none⟩,
 ⟨(some 22), .mov (.t 1), [], none⟩,
 ⟨(some 23), .mov (.t 2), [], none⟩,
 ⟨(some 24), .bin .sub (.t 23) (.c (.int .i64 1)), [3], none⟩,
 ⟨(some 25), .call .pure (.f 42) [(.t 21), (.t 22), (.t 24)], [1, 2, 4], none⟩,
 ⟨(some 9), .mov (.t 25), [5, 5, 0, 1, 2, 3, 4, 5], none⟩] [] [17, 20, 21, 22, 23, 24, 25])
 (.seq (.region [⟨(some 10), .mov (.c (.int .i64 0)), [], none⟩] [] [])
 (.block 2 (.loop (.seq (.seq (.region [⟨(some 26), .mov (.t 10), [], none⟩,
 ⟨(some 27), .mov (.t 9), [], none⟩,
 ⟨(some 28), .len 1 (.t 27), [1], none⟩,
 ⟨(some 29), .bin .lss (.t 26) (.t 28), [0, 2], none⟩] [] [26, 27, 28])
 (.cond (.t 29)
 .skip
 (.exit 2)))
 (.seq (.block 3 (.region [⟨(some 32), .mov (.t 7), [], none⟩,
 ⟨(some 33), .mov (.t 8), [], none⟩,
 ⟨(some 34), .bslice false .dyn 1 1 [(.int .i64 0)] [(0, 1, (.t 33))], [1], none⟩,
 ⟨(some 35), .mov (.t 9), [], none⟩,
 ⟨(some 36), .mov (.t 10), [], none⟩,
 ⟨(some 37), .iaddr none 1 (.t 35) (.t 36), [3, 4], none⟩,
 ⟨(some 38), .load none (.t 37), [5], none⟩,
 ⟨(some 39), .append .dyn 1 8 (.t 34) (.t 38), [2, 6], none⟩,
 ⟨(some 40), .bslice false .dyn 1 1 [.nilsl] [(0, 1, (.t 39))], [7], none⟩,
 ⟨(some 41), .append .dyn 1 24 (.t 32) (.t 40), [0, 8, 7], none⟩,
 ⟨(some 7), .mov (.t 41), [9, 9, 0, 1, 2, 3, 4, 5, 6, 7, 8, 9], none⟩] [] [29, 32, 33, 34, 35, 36, 37, 38, 39, 40, 41]))
 (.region [⟨(some 30), .mov (.t 10), [], none⟩,
 ⟨(some 31), .bin .add (.t 30) (.c (.int .i64 1)), [0], none⟩,
 ⟨(some 10), .mov (.t 31), [1, 0, 1], none⟩] [] [30, 31]))))))))
 (.region [⟨(some 18), .mov (.t 8), [], none⟩,
 ⟨(some 19), .bin .add (.t 18) (.c (.int .i64 1)), [0], none⟩,
 ⟨(some 8), .mov (.t 19), [1, 0, 1], none⟩] [] [9, 10, 18, 19]))))))
 (.seq (.region [⟨(some 42), .mov (.t 7), [], none⟩,
 ⟨(some 6), .mov (.t 42), [0, 0], none⟩] [] [1, 2, 7, 8, 42])
 .ret)))))⟩
def s43 : SFn := ⟨34, [.tmp 4],
 (.seq (.region [⟨(some 4), .mov (.c (.bool false)), [], none⟩] [] [4])
 (.seq (.seq (.region [⟨(some 5), .mov (.c (.int .i64 0)), [], none⟩] [] [])
 (.block 0 (.loop (.seq (.seq (.region [⟨(some 8), .mov (.t 5), [], none⟩,
 ⟨(some 9), .mov (.t 0), [], none⟩,
 ⟨(some 10), .len 1 (.t 9), [1], none⟩,
 ⟨(some 11), .bin .lss (.t 8) (.t 10), [0, 2], none⟩] [] [8, 9, 10])
 (.cond (.t 11)
 .skip
 (.exit 0)))
 (.seq (.block 1 (.seq (.region [⟨(some 6), .mov (.c (.bool false)), [], none⟩] [] [11])
 (.seq (.seq (.region [⟨(some 7), .mov (.c (.int .i64 0)), [], none⟩] [] [])
 (.block 2 (.loop (.seq (.seq (.region [⟨(some 14), .mov (.t 7), [], none⟩,
 ⟨(some 15), .mov (.t 1), [], none⟩,
 ⟨(some 16), .len 1 (.t 15), [1], none⟩,
 ⟨(some 17), .bin .lss (.t 14) (.t 16), [0, 2], none⟩] [] [14, 15, 16])
 (.cond (.t 17)
 .skip
 (.exit 2)))
 (.seq (.block 3 (.region [⟨(some 20), .mov (.t 6), [], none⟩,
 ⟨(some 21), .mov (.t 20), [0], none⟩,
 ⟨(some 22), .mov (.t 0), [1], (some (21, false))⟩,
 ⟨(some 23), .mov (.t 5), [1], (some (21, false))⟩,
 ⟨(some 24), .iaddr none 1 (.t 22) (.t 23), [2, 3, 1], (some (21, false))⟩,
 ⟨(some 25), .load none (.t 24), [4, 1], (some (21, false))⟩,
 ⟨(some 26), .mov (.t 1), [1], (some (21, false))⟩,
 ⟨(some 27), .mov (.t 7), [1], (some (21, false))⟩,
 ⟨(some 28), .iaddr none 1 (.t 26) (.t 27), [6, 7, 1], (some (21, false))⟩,
 ⟨(some 29), .load none (.t 28), [8, 1], (some (21, false))⟩,
 ⟨(some 30), .bin .eql (.t 25) (.t 29), [5, 9, 1], (some (21, false))⟩,
 ⟨(some 31), .pick (.t 21) (.c (.bool true)) (.t 30), [1, 10], none⟩,
 ⟨(some 6), .mov (.t 31), [11, 1, 0, 1, 2, 3, 4, 5, 6, 7, 8, 9, 10, 11], none⟩] [] [17, 20, 21, 31]))
 (.region [⟨(some 18), .mov (.t 7), [], none⟩,
 ⟨(some 19), .bin .add (.t 18) (.c (.int .i64 1)), [0], none⟩,
 ⟨(some 7), .mov (.t 19), [1, 0, 1], none⟩] [] [18, 19]))))))
 (.seq (.region [⟨(some 32), .mov (.t 6), [], none⟩,
 ⟨(some 33), .un .not (.t 32), [0], none⟩] [] [6, 7, 32])
 (.cond (.t 33)
 (.seq (.region [⟨(some 4), .mov (.c (.bool false)), [], none⟩] [] [0, 1, 5, 30, 25, 29, 28, 26, 27, 24, 22, 23, 33])
 .ret)
 .skip)))))
 (.region [⟨(some 12), .mov (.t 5), [], none⟩,
 ⟨(some 13), .bin .add (.t 12) (.c (.int .i64 1)), [0], none⟩,
 ⟨(some 5), .mov (.t 13), [1, 0, 1], none⟩] [] [4, 33, 12, 13]))))))
 (.seq (.region [⟨(some 4), .mov (.c (.bool true)), [], none⟩] [] [0, 1, 5, 30, 25, 29, 28, 26, 27, 24, 22, 23])
 .ret)))⟩
def s44 : SFn := ⟨280, [.tmp 4, .tmp 5],
 (.seq (.region [⟨(some 4), .mov (.c .nilsl), [], none⟩,
 ⟨(some 5), .mov (.c (.bool false)), [0], none⟩] [] [4, 5])
 (.seq (.region [⟨(some 6), .mov (.c .nilsl), [], none⟩] [] [])
 (.seq (.seq (.region [⟨(some 7), .mov (.c (.int .i64 0)), [], none⟩] [] [])
 (.block 0 (.loop (.seq (.seq (.region [⟨(some 26), .mov (.t 7), [], none⟩,
 ⟨(some 27), .mov (.t 0), [], none⟩,
 ⟨(some 28), .iaddr none 1 (.t 27) (.c (.int .i64 0)), [1], none⟩,
 ⟨(some 29), .load none (.t 28), [2], none⟩,
 ⟨(some 30), .len 1 (.t 29), [3], none⟩,
 ⟨(some 31), .bin .lss (.t 26) (.t 30), [0, 4], none⟩] [] [26, 27, 28, 29, 30])
 (.cond (.t 31)
 .skip
 (.exit 0)))
 (.seq (.block 1 (.seq (.region [⟨(some 8), .mov (.c .nilsl), [], none⟩] [] [31])
 (.seq (.seq (.region [⟨(some 9), .mov (.c (.int .i64 0)), [], none⟩] [] [])
 (.block 2 (.loop (.seq (.seq (.region [⟨(some 34), .mov (.t 9), [], none⟩,
 ⟨(some 35), .mov (.t 1), [], none⟩,
 ⟨(some 36), .len 1 (.t 35), [1], none⟩,
 ⟨(some 37), .bin .lss (.t 34) (.t 36), [0, 2], none⟩] [] [34, 35, 36])
 (.cond (.t 37)
 .skip
 (.exit 2)))
 (.seq (.block 3 (.region [⟨(some 40), .mov (.t 8), [], none⟩,
 ⟨(some 41), .mov (.t 0), [], none⟩,
 ⟨(some 42), .mov (.t 1), [], none⟩,
 ⟨(some 43), .mov (.t 9), [], none⟩,
 ⟨(some 44), .iaddr none 1 (.t 42) (.t 43), [2, 3], none⟩,
 ⟨(some 45), .load none (.t 44), [4], none⟩,
 ⟨(some 46), .iaddr none 1 (.t 41) (.t 45), [1, 5], none⟩,
 ⟨(some 47), .load none (.t 46), [6], none⟩,
 ⟨(some 48), .mov (.t 7), [], none⟩,
 ⟨(some 49), .iaddr none 1 (.t 47) (.t 48), [7, 8], none⟩,
 ⟨(some 50), .load none (.t 49), [9], none⟩,
 ⟨(some 51), .bslice false .dyn 1 1 [(.int .i64 0)] [(0, 1, (.t 50))], [10], none⟩,
 ⟨(some 52), .append .dyn 1 8 (.t 40) (.t 51), [0, 11], none⟩,
 ⟨(some 8), .mov (.t 52), [12, 12, 0, 1, 2, 3, 4, 5, 6, 7, 8, 9, 10, 11, 12], none⟩] [] [37, 40, 41, 42, 43, 44, 45, 46, 47, 48, 49, 50, 51, 52]))
 (.region [⟨(some 38), .mov (.t 9), [], none⟩,
 ⟨(some 39), .bin .add (.t 38) (.c (.int .i64 1)), [0], none⟩,
 ⟨(some 9), .mov (.t 39), [1, 0, 1], none⟩] [] [38, 39]))))))
 (.region [⟨(some 53), .mov (.t 6), [], none⟩,
 ⟨(some 54), .mov (.t 8), [], none⟩,
 ⟨(some 55), .bslice false .dyn 1 1 [.nilsl] [(0, 1, (.t 54))], [1], none⟩,
 ⟨(some 56), .append .dyn 1 24 (.t 53) (.t 55), [0, 2], none⟩,
 ⟨(some 6), .mov (.t 56), [3, 3, 0, 1, 2, 3], none⟩] [] [8, 9, 53, 54, 55, 56]))))
 (.region [⟨(some 32), .mov (.t 7), [], none⟩,
 ⟨(some 33), .bin .add (.t 32) (.c (.int .i64 1)), [0], none⟩,
 ⟨(some 7), .mov (.t 33), [1, 0, 1], none⟩] [] [32, 33]))))))
 (.seq (.region [⟨(some 10), .mov (.c .nilsl), [], none⟩] [] [0, 7])
 (.seq (.seq (.region [⟨(some 11), .mov (.c (.int .i64 0)), [], none⟩,
 ⟨(some 12), .mov (.c (.int .i64 0)), [0, 0], none⟩] [] [])
 (.block 4 (.loop (.seq (.seq (.region [⟨(some 57), .mov (.t 11), [], none⟩,
 ⟨(some 58), .mov (.t 1), [], none⟩,
 ⟨(some 59), .len 1 (.t 58), [1], none⟩,
 ⟨(some 60), .bin .lss (.t 57) (.t 59), [0, 2], none⟩] [] [57, 58, 59])
 (.cond (.t 60)
 .skip
 (.exit 4)))
 (.seq (.block 5 (.seq (.region [⟨(some 63), .mov (.t 12), [], none⟩,
 ⟨(some 13), .mov (.t 63), [0, 0], none⟩] [] [60, 63])
 (.seq (.block 6 (.loop (.seq (.seq (.region [⟨(some 64), .mov (.t 13), [], none⟩,
 ⟨(some 65), .mov (.t 6), [], none⟩,
 ⟨(some 66), .len 1 (.t 65), [1], none⟩,
 ⟨(some 67), .bin .lss (.t 64) (.t 66), [0, 2], none⟩,
 ⟨(some 68), .mov (.t 67), [3], none⟩,
 ⟨(some 69), .mov (.t 6), [4], (some (68, true))⟩,
 ⟨(some 70), .mov (.t 13), [4], (some (68, true))⟩,
 ⟨(some 71), .iaddr none 1 (.t 69) (.t 70), [5, 6, 4], (some (68, true))⟩,
 ⟨(some 72), .load none (.t 71), [7, 4], (some (68, true))⟩,
 ⟨(some 73), .mov (.t 11), [4], (some (68, true))⟩,
 ⟨(some 74), .iaddr none 1 (.t 72) (.t 73), [8, 9, 4], (some (68, true))⟩,
 ⟨(some 75), .load none (.t 74), [10, 4], (some (68, true))⟩,
 ⟨(some 76), .bin .eql (.t 75) (.c (.int .i64 0)), [11, 4], (some (68, true))⟩,
 ⟨(some 77), .pick (.t 68) (.t 76) (.c (.bool false)), [4, 12], none⟩] [] [64, 65, 66, 67, 68])
 (.cond (.t 77)
 .skip
 (.exit 6)))
 (.block 7 (.region [⟨(some 78), .mov (.t 13), [], none⟩,
 ⟨(some 79), .bin .add (.t 78) (.c (.int .i64 1)), [0], none⟩,
 ⟨(some 13), .mov (.t 79), [1, 0, 1], none⟩] [] [77, 78, 79])))))
 (.seq (.seq (.region [⟨(some 80), .mov (.t 13), [], none⟩,
 ⟨(some 81), .mov (.t 6), [], none⟩,
 ⟨(some 82), .len 1 (.t 81), [1], none⟩,
 ⟨(some 83), .bin .eql (.t 80) (.t 82), [0, 2], none⟩] [] [80, 81, 82])
 (.cond (.t 83)
 (.exit 5)
 .skip))
 (.seq (.region [⟨(some 84), .mov (.t 6), [], none⟩,
 ⟨(some 85), .mov (.t 13), [], none⟩,
 ⟨(some 86), .mov (.t 6), [], none⟩,
 ⟨(some 87), .mov (.t 12), [], none⟩,
 ⟨(some 88), .mov (.t 6), [], none⟩,
 ⟨(some 89), .mov (.t 12), [], none⟩,
 ⟨(some 90), .iaddr none 1 (.t 88) (.t 89), [4, 5], none⟩,
 ⟨(some 91), .load none (.t 90), [6], none⟩,
 ⟨(some 92), .mov (.t 6), [], none⟩,
 ⟨(some 93), .mov (.t 13), [], none⟩,
 ⟨(some 94), .iaddr none 1 (.t 92) (.t 93), [8, 9], none⟩,
 ⟨(some 95), .load none (.t 94), [10], none⟩,
 ⟨(some 96), .iaddr none 1 (.t 84) (.t 85), [0, 1, 0, 1, 4, 5, 6, 7, 11], none⟩,
 ⟨none, .store 1 (.t 96) (.t 91), [12, 7, 0, 1, 4, 5, 6, 7, 11], none⟩,
 ⟨(some 97), .iaddr none 1 (.t 86) (.t 87), [2, 3, 0, 1, 2, 3, 4, 5, 6, 7, 8, 9, 10, 11, 12, 13], none⟩,
 ⟨none, .store 1 (.t 97) (.t 95), [14, 11, 13, 0, 1, 2, 3, 4, 5, 6, 7, 8, 9, 10, 11, 12, 13], none⟩] [] [13, 83, 84, 85, 86, 87, 88, 89, 90, 91, 92, 93, 94, 95, 96, 97])
 (.seq (.seq (.region [⟨(some 14), .mov (.c (.int .i64 0)), [], none⟩] [] [])
 (.block 8 (.loop (.seq (.seq (.region [⟨(some 98), .mov (.t 14), [], none⟩,
 ⟨(some 99), .mov (.t 6), [], none⟩,
 ⟨(some 100), .len 1 (.t 99), [1], none⟩,
 ⟨(some 101), .bin .lss (.t 98) (.t 100), [0, 2], none⟩] [] [98, 99, 100])
 (.cond (.t 101)
 .skip
 (.exit 8)))
 (.seq (.block 9 (.seq (.region [⟨(some 104), .mov (.t 14), [], none⟩,
 ⟨(some 105), .mov (.t 12), [], none⟩,
 ⟨(some 106), .bin .neq (.t 104) (.t 105), [0, 1], none⟩,
 ⟨(some 107), .mov (.t 106), [2], none⟩,
 ⟨(some 108), .mov (.t 6), [3], (some (107, true))⟩,
 ⟨(some 109), .mov (.t 14), [3], (some (107, true))⟩,
 ⟨(some 110), .iaddr none 1 (.t 108) (.t 109), [4, 5, 3], (some (107, true))⟩,
 ⟨(some 111), .load none (.t 110), [6, 3], (some (107, true))⟩,
 ⟨(some 112), .mov (.t 11), [3], (some (107, true))⟩,
 ⟨(some 113), .iaddr none 1 (.t 111) (.t 112), [7, 8, 3], (some (107, true))⟩,
 ⟨(some 114), .load none (.t 113), [9, 3], (some (107, true))⟩,
 ⟨(some 115), .bin .neq (.t 114) (.c (.int .i64 0)), [10, 3], (some (107, true))⟩,
 ⟨(some 116), .pick (.t 107) (.t 115) (.c (.bool false)), [3, 11], none⟩] [] [101, 104, 105, 106, 107])
 (.cond (.t 116)
 (.seq (.region [⟨(some 117), .mov (.t 6), [], none⟩,
 ⟨(some 118), .mov (.t 12), [], none⟩,
 ⟨(some 119), .iaddr none 1 (.t 117) (.t 118), [0, 1], none⟩,
 ⟨(some 120), .load none (.t 119), [2], none⟩,
 ⟨(some 121), .mov (.t 11), [], none⟩,
 ⟨(some 122), .iaddr none 1 (.t 120) (.t 121), [3, 4], none⟩,
 ⟨(some 123), .load none (.t 122), [5], none⟩,
 ⟨(some 124), .mov (.t 6), [], none⟩,
 ⟨(some 125), .mov (.t 14), [], none⟩,
 ⟨(some 126), .iaddr none 1 (.t 124) (.t 125), [7, 8], none⟩,
 ⟨(some 127), .load none (.t 126), [9], none⟩,
 ⟨(some 128), .mov (.t 11), [], none⟩,
 ⟨(some 129), .iaddr none 1 (.t 127) (.t 128), [10, 11], none⟩,
 ⟨(some 130), .load none (.t 129), [12], none⟩,
 ⟨(some 15), .mov (.t 123), [6, 0, 1, 2, 3, 4, 5, 6], none⟩,
 ⟨(some 16), .mov (.t 130), [13, 14, 0, 1, 2, 3, 4, 5, 6, 7, 8, 9, 10, 11, 12, 13, 14], none⟩] [] [116, 117, 118, 119, 120, 121, 122, 123, 124, 125, 126, 127, 128, 129, 130])
 (.seq (.region [⟨(some 17), .mov (.c .nilsl), [], none⟩] [] [])
 (.seq (.seq (.region [⟨(some 18), .mov (.c (.int .i64 0)), [], none⟩] [] [])
 (.block 10 (.loop (.seq (.seq (.region [⟨(some 131), .mov (.t 18), [], none⟩,
 ⟨(some 132), .mov (.t 1), [], none⟩,
 ⟨(some 133), .len 1 (.t 132), [1], none⟩,
 ⟨(some 134), .bin .lss (.t 131) (.t 133), [0, 2], none⟩] [] [131, 132, 133])
 (.cond (.t 134)
 .skip
 (.exit 10)))
 (.seq (.block 11 (.region [⟨(some 137), .mov (.t 17), [], none⟩,
 ⟨(some 138), .mov (.t 15), [], none⟩,
 ⟨(some 139), .mov (.t 6), [], none⟩,
 ⟨(some 140), .mov (.t 14), [], none⟩,
 ⟨(some 141), .iaddr none 1 (.t 139) (.t 140), [2, 3], none⟩,
 ⟨(some 142), .load none (.t 141), [4], none⟩,
 ⟨(some 143), .mov (.t 18), [], none⟩,
 ⟨(some 144), .iaddr none 1 (.t 142) (.t 143), [5, 6], none⟩,
 ⟨(some 145), .load none (.t 144), [7], none⟩,
 ⟨(some 146), .bin .mul (.t 138) (.t 145), [1, 8], none⟩,
 ⟨(some 147), .mov (.t 16), [], none⟩,
 ⟨(some 148), .mov (.t 6), [], none⟩,
 ⟨(some 149), .mov (.t 12), [], none⟩,
 ⟨(some 150), .iaddr none 1 (.t 148) (.t 149), [11, 12], none⟩,
 ⟨(some 151), .load none (.t 150), [13], none⟩,
 ⟨(some 152), .mov (.t 18), [], none⟩,
 ⟨(some 153), .iaddr none 1 (.t 151) (.t 152), [14, 15], none⟩,
 ⟨(some 154), .load none (.t 153), [16], none⟩,
 ⟨(some 155), .bin .mul (.t 147) (.t 154), [10, 17], none⟩,
 ⟨(some 156), .bin .sub (.t 146) (.t 155), [9, 18], none⟩,
 ⟨(some 157), .bslice false .dyn 1 1 [(.int .i64 0)] [(0, 1, (.t 156))], [19], none⟩,
 ⟨(some 158), .append .dyn 1 8 (.t 137) (.t 157), [0, 20], none⟩,
 ⟨(some 17), .mov (.t 158), [21, 21, 0, 1, 2, 3, 4, 5, 6, 7, 8, 9, 10, 11, 12, 13, 14, 15, 16, 17, 18, 19, 20, 21], none⟩] [] [134, 137, 138, 139, 140, 141, 142, 143, 144, 145, 146, 147, 148, 149, 150, 151, 152, 153, 154, 155, 156, 157, 158]))
 (.region [⟨(some 135), .mov (.t 18), [], none⟩,
 ⟨(some 136), .bin .add (.t 135) (.c (.int .i64 1)), [0], none⟩,
 ⟨(some 18), .mov (.t 136), [1, 0, 1], none⟩] [] [135, 136]))))))
 (.region [⟨(some 159), .mov (.t 6), [], none⟩,
 ⟨(some 160), .mov (.t 14), [], none⟩,
 ⟨(some 161), .mov (.t 17), [], none⟩,
 ⟨(some 162), .call .pure (.f 64) [(.t 161)], [2], none⟩,
 ⟨(some 163), .iaddr none 1 (.t 159) (.t 160), [0, 1, 0, 1, 2, 3], none⟩,
 ⟨none, .store 1 (.t 163) (.t 162), [4, 3, 3, 0, 1, 2, 3], none⟩] [] [15, 16, 17, 18, 159, 160, 161, 162, 163]))))
 .skip)))
 (.region [⟨(some 102), .mov (.t 14), [], none⟩,
 ⟨(some 103), .bin .add (.t 102) (.c (.int .i64 1)), [0], none⟩,
 ⟨(some 14), .mov (.t 103), [1, 0, 1], none⟩] [] [116, 102, 103]))))))
 (.seq (.region [⟨(some 164), .mov (.t 10), [], none⟩,
 ⟨(some 165), .mov (.t 11), [], none⟩,
 ⟨(some 166), .bslice false .dyn 1 1 [(.int .i64 0)] [(0, 1, (.t 165))], [1], none⟩,
 ⟨(some 167), .append .dyn 1 8 (.t 164) (.t 166), [0, 2], none⟩,
 ⟨(some 10), .mov (.t 167), [3, 3, 0, 1, 2, 3], none⟩] [] [14, 164, 165, 166, 167])
 (.region [⟨(some 168), .mov (.t 12), [], none⟩,
 ⟨(some 169), .bin .add (.t 168) (.c (.int .i64 1)), [0], none⟩,
 ⟨(some 12), .mov (.t 169), [1, 0, 1], none⟩] [] [168, 169]))))))))
 (.region [⟨(some 61), .mov (.t 11), [], none⟩,
 ⟨(some 62), .bin .add (.t 61) (.c (.int .i64 1)), [0], none⟩,
 ⟨(some 11), .mov (.t 62), [1, 0, 1], none⟩] [] [61, 62]))))))
 (.seq (.seq (.region [⟨(some 170), .mov (.t 10), [], none⟩,
 ⟨(some 171), .len 1 (.t 170), [0], none⟩,
 ⟨(some 172), .mov (.t 1), [], none⟩,
 ⟨(some 173), .len 1 (.t 172), [2], none⟩,
 ⟨(some 174), .bin .sub (.t 173) (.c (.int .i64 1)), [3], none⟩,
 ⟨(some 175), .bin .neq (.t 171) (.t 174), [1, 4], none⟩] [] [115, 114, 113, 111, 112, 110, 108, 109, 76, 75, 74, 72, 73, 71, 69, 70, 11, 12, 170, 171, 172, 173, 174])
 (.cond (.t 175)
 (.seq (.region [⟨(some 4), .mov (.c .nilsl), [], none⟩,
 ⟨(some 5), .mov (.c (.bool false)), [0, 0], none⟩] [] [1, 6, 10, 175])
 .ret)
 .skip))
 (.seq (.region [⟨(some 176), .mov (.t 1), [], none⟩,
 ⟨(some 177), .len 1 (.t 176), [0], none⟩,
 ⟨(some 178), .bin .sub (.t 177) (.c (.int .i64 1)), [1], none⟩,
 ⟨(some 19), .mov (.t 178), [2, 0, 1, 2], none⟩] [] [4, 5, 175, 176, 177, 178])
 (.seq (.seq (.region [⟨(some 20), .mov (.c (.int .i64 0)), [], none⟩] [] [])
 (.block 12 (.loop (.seq (.seq (.region [⟨(some 179), .mov (.t 20), [], none⟩,
 ⟨(some 180), .mov (.t 10), [], none⟩,
 ⟨(some 181), .len 1 (.t 180), [1], none⟩,
 ⟨(some 182), .bin .lss (.t 179) (.t 181), [0, 2], none⟩] [] [179, 180, 181])
 (.cond (.t 182)
 .skip
 (.exit 12)))
 (.seq (.block 13 (.seq (.region [⟨(some 185), .mov (.t 10), [], none⟩,
 ⟨(some 186), .mov (.t 20), [], none⟩,
 ⟨(some 187), .iaddr none 1 (.t 185) (.t 186), [0, 1], none⟩,
 ⟨(some 188), .load none (.t 187), [2], none⟩,
 ⟨(some 189), .mov (.t 20), [], none⟩,
 ⟨(some 190), .bin .neq (.t 188) (.t 189), [3, 4], none⟩] [] [182, 185, 186, 187, 188, 189])
 (.cond (.t 190)
 (.seq (.region [⟨(some 191), .mov (.t 20), [], none⟩,
 ⟨(some 19), .mov (.t 191), [0, 0], none⟩] [] [20, 190, 191])
 (.exit 12))
 .skip)))
 (.region [⟨(some 183), .mov (.t 20), [], none⟩,
 ⟨(some 184), .bin .add (.t 183) (.c (.int .i64 1)), [0], none⟩,
 ⟨(some 20), .mov (.t 184), [1, 0, 1], none⟩] [] [190, 183, 184]))))))
 (.seq (.region [⟨(some 21), .mov (.c (.int .i64 1)), [], none⟩] [] [20])
 (.seq (.seq (.region [⟨(some 22), .mov (.c (.int .i64 0)), [], none⟩] [] [])
 (.block 14 (.loop (.seq (.seq (.region [⟨(some 192), .mov (.t 22), [], none⟩,
 ⟨(some 193), .mov (.t 10), [], none⟩,
 ⟨(some 194), .len 1 (.t 193), [1], none⟩,
 ⟨(some 195), .bin .lss (.t 192) (.t 194), [0, 2], none⟩] [] [192, 193, 194])
 (.cond (.t 195)
 .skip
 (.exit 14)))
 (.seq (.block 15 (.region [⟨(some 198), .mov (.t 21), [], none⟩,
 ⟨(some 199), .mov (.t 21), [], none⟩,
 ⟨(some 200), .mov (.t 6), [], none⟩,
 ⟨(some 201), .mov (.t 22), [], none⟩,
 ⟨(some 202), .iaddr none 1 (.t 200) (.t 201), [2, 3], none⟩,
 ⟨(some 203), .load none (.t 202), [4], none⟩,
 ⟨(some 204), .mov (.t 10), [], none⟩,
 ⟨(some 205), .mov (.t 22), [], none⟩,
 ⟨(some 206), .iaddr none 1 (.t 204) (.t 205), [6, 7], none⟩,
 ⟨(some 207), .load none (.t 206), [8], none⟩,
 ⟨(some 208), .iaddr none 1 (.t 203) (.t 207), [5, 9], none⟩,
 ⟨(some 209), .load none (.t 208), [10], none⟩,
 ⟨(some 210), .call .pure (.f 65) [(.t 199), (.t 209)], [1, 11], none⟩,
 ⟨(some 211), .bin .quo (.t 198) (.t 210), [0, 12], none⟩,
 ⟨(some 212), .mov (.t 6), [], none⟩,
 ⟨(some 213), .mov (.t 22), [], none⟩,
 ⟨(some 214), .iaddr none 1 (.t 212) (.t 213), [14, 15], none⟩,
 ⟨(some 215), .load none (.t 214), [16], none⟩,
 ⟨(some 216), .mov (.t 10), [], none⟩,
 ⟨(some 217), .mov (.t 22), [], none⟩,
 ⟨(some 218), .iaddr none 1 (.t 216) (.t 217), [18, 19], none⟩,
 ⟨(some 219), .load none (.t 218), [20], none⟩,
 ⟨(some 220), .iaddr none 1 (.t 215) (.t 219), [17, 21], none⟩,
 ⟨(some 221), .load none (.t 220), [22], none⟩,
 ⟨(some 222), .bin .mul (.t 211) (.t 221), [13, 23], none⟩,
 ⟨(some 21), .mov (.t 222), [24, 12, 0, 1, 2, 3, 4, 5, 6, 7, 8, 9, 10, 11, 12, 13, 14, 15, 16, 17, 18, 19, 20, 21, 22, 23, 24], none⟩] [] [195, 198, 199, 200, 201, 202, 203, 204, 205, 206, 207, 208, 209, 210, 211, 212, 213, 214, 215, 216, 217, 218, 219, 220, 221, 222]))
 (.region [⟨(some 196), .mov (.t 22), [], none⟩,
 ⟨(some 197), .bin .add (.t 196) (.c (.int .i64 1)), [0], none⟩,
 ⟨(some 22), .mov (.t 197), [1, 0, 1], none⟩] [] [196, 197]))))))
 (.seq (.region [⟨(some 223), .mov (.t 21), [], none⟩,
 ⟨(some 224), .mov (.t 21), [], none⟩,
 ⟨(some 225), .bin .sub (.c (.int .i64 0)) (.t 224), [1], none⟩,
 ⟨(some 226), .maxmin false [(.t 223), (.t 225)], [0, 2], none⟩,
 ⟨(some 21), .mov (.t 226), [3, 0, 1, 2, 3], none⟩] [] [22, 223, 224, 225, 226])
 (.seq (.region [⟨(some 227), .mov (.t 1), [], none⟩,
 ⟨(some 228), .len 1 (.t 227), [0], none⟩,
 ⟨(some 229), .mkslice .dyn 1 8 [(.int .i64 0)] (.t 228) (.t 228), [1, 1], none⟩,
 ⟨(some 23), .mov (.t 229), [2, 0, 1, 2], none⟩] [] [1, 227, 228, 229])
 (.seq (.region [⟨(some 230), .mov (.t 23), [], none⟩,
 ⟨(some 231), .mov (.t 19), [], none⟩,
 ⟨(some 232), .mov (.t 21), [], none⟩,
 ⟨(some 233), .iaddr none 1 (.t 230) (.t 231), [0, 1, 0, 1, 2], none⟩,
 ⟨none, .store 1 (.t 233) (.t 232), [3, 2, 0, 1, 2], none⟩] [] [230, 231, 232, 233])
 (.seq (.seq (.region [⟨(some 24), .mov (.c (.int .i64 0)), [], none⟩] [] [])
 (.block 16 (.loop (.seq (.seq (.region [⟨(some 234), .mov (.t 24), [], none⟩,
 ⟨(some 235), .mov (.t 10), [], none⟩,
 ⟨(some 236), .len 1 (.t 235), [1], none⟩,
 ⟨(some 237), .bin .lss (.t 234) (.t 236), [0, 2], none⟩] [] [234, 235, 236])
 (.cond (.t 237)
 .skip
 (.exit 16)))
 (.seq (.block 17 (.region [⟨(some 240), .mov (.t 23), [], none⟩,
 ⟨(some 241), .mov (.t 10), [], none⟩,
 ⟨(some 242), .mov (.t 24), [], none⟩,
 ⟨(some 243), .iaddr none 1 (.t 241) (.t 242), [1, 2], none⟩,
 ⟨(some 244), .load none (.t 243), [3], none⟩,
 ⟨(some 245), .mov (.t 6), [], none⟩,
 ⟨(some 246), .mov (.t 24), [], none⟩,
 ⟨(some 247), .iaddr none 1 (.t 245) (.t 246), [5, 6], none⟩,
 ⟨(some 248), .load none (.t 247), [7], none⟩,
 ⟨(some 249), .mov (.t 19), [], none⟩,
 ⟨(some 250), .iaddr none 1 (.t 248) (.t 249), [8, 9], none⟩,
 ⟨(some 251), .load none (.t 250), [10], none⟩,
 ⟨(some 252), .mov (.t 21), [], none⟩,
 ⟨(some 253), .bin .mul (.t 251) (.t 252), [11, 12], none⟩,
 ⟨(some 254), .mov (.t 6), [], none⟩,
 ⟨(some 255), .mov (.t 24), [], none⟩,
 ⟨(some 256), .iaddr none 1 (.t 254) (.t 255), [14, 15], none⟩,
 ⟨(some 257), .load none (.t 256), [16], none⟩,
 ⟨(some 258), .mov (.t 10), [], none⟩,
 ⟨(some 259), .mov (.t 24), [], none⟩,
 ⟨(some 260), .iaddr none 1 (.t 258) (.t 259), [18, 19], none⟩,
 ⟨(some 261), .load none (.t 260), [20], none⟩,
 ⟨(some 262), .iaddr none 1 (.t 257) (.t 261), [17, 21], none⟩,
 ⟨(some 263), .load none (.t 262), [22], none⟩,
 ⟨(some 264), .bin .quo (.t 253) (.t 263), [13, 23], none⟩,
 ⟨(some 265), .bin .sub (.c (.int .i64 0)) (.t 264), [24], none⟩,
 ⟨(some 266), .iaddr none 1 (.t 240) (.t 244), [0, 4, 0, 1, 2, 3, 4, 5, 6, 7, 8, 9, 10, 11, 12, 13, 14, 15, 16, 17, 18, 19, 20, 21, 22, 23, 24, 25], none⟩,
 ⟨none, .store 1 (.t 266) (.t 265), [26, 25, 0, 1, 2, 3, 4, 5, 6, 7, 8, 9, 10, 11, 12, 13, 14, 15, 16, 17, 18, 19, 20, 21, 22, 23, 24, 25], none⟩] [] [237, 240, 241, 242, 243, 244, 245, 246, 247, 248, 249, 250, 251, 252, 253, 254, 255, 256, 257, 258, 259, 260, 261, 262, 263, 264, 265, 266]))
 (.region [⟨(some 238), .mov (.t 24), [], none⟩,
 ⟨(some 239), .bin .add (.t 238) (.c (.int .i64 1)), [0], none⟩,
 ⟨(some 24), .mov (.t 239), [1, 0, 1], none⟩] [] [238, 239]))))))
 (.seq (.seq (.region [⟨(some 25), .mov (.c (.int .i64 0)), [], none⟩] [] [6, 10, 19, 21, 24])
 (.block 18 (.loop (.seq (.seq (.region [⟨(some 267), .mov (.t 25), [], none⟩,
 ⟨(some 268), .mov (.t 23), [], none⟩,
 ⟨(some 269), .len 1 (.t 268), [1], none⟩,
 ⟨(some 270), .bin .lss (.t 267) (.t 269), [0, 2], none⟩] [] [267, 268, 269])
 (.cond (.t 270)
 .skip
 (.exit 18)))
 (.seq (.block 19 (.seq (.region [⟨(some 273), .mov (.t 23), [], none⟩,
 ⟨(some 274), .mov (.t 25), [], none⟩,
 ⟨(some 275), .iaddr none 1 (.t 273) (.t 274), [0, 1], none⟩,
 ⟨(some 276), .load none (.t 275), [2], none⟩,
 ⟨(some 277), .bin .leq (.t 276) (.c (.int .i64 0)), [3], none⟩] [] [270, 273, 274, 275, 276])
 (.cond (.t 277)
 (.seq (.region [⟨(some 4), .mov (.c .nilsl), [], none⟩,
 ⟨(some 5), .mov (.c (.bool false)), [0, 0], none⟩] [] [23, 25, 277])
 .ret)
 .skip)))
 (.region [⟨(some 271), .mov (.t 25), [], none⟩,
 ⟨(some 272), .bin .add (.t 271) (.c (.int .i64 1)), [0], none⟩,
 ⟨(some 25), .mov (.t 272), [1, 0, 1], none⟩] [] [4, 5, 277, 271, 272]))))))
 (.seq (.region [⟨(some 278), .mov (.t 23), [], none⟩,
 ⟨(some 279), .call .pure (.f 64) [(.t 278)], [0], none⟩,
 ⟨(some 4), .mov (.t 279), [1, 1, 0, 1], none⟩,
 ⟨(some 5), .mov (.c (.bool true)), [2, 0, 1, 2], none⟩] [] [23, 25, 278, 279])
 .ret))))))))))))))))⟩
def s64 : SFn := ⟨42, [.tmp 2],
 (.seq (.region [⟨(some 2), .mov (.c .nilsl), [], none⟩] [] [2])
 (.seq (.region [⟨(some 3), .mov (.c (.int .i64 0)), [], none⟩] [] [])
 (.seq (.seq (.region [⟨(some 4), .mov (.c (.int .i64 0)), [], none⟩] [] [])
 (.block 0 (.loop (.seq (.seq (.region [⟨(some 7), .mov (.t 4), [], none⟩,
 ⟨(some 8), .mov (.t 0), [], none⟩,
 ⟨(some 9), .len 1 (.t 8), [1], none⟩,
 ⟨(some 10), .bin .lss (.t 7) (.t 9), [0, 2], none⟩] [] [7, 8, 9])
 (.cond (.t 10)
 .skip
 (.exit 0)))
 (.seq (.block 1 (.region [⟨(some 13), .mov (.t 3), [], none⟩,
 ⟨(some 14), .mov (.t 0), [], none⟩,
 ⟨(some 15), .mov (.t 4), [], none⟩,
 ⟨(some 16), .iaddr none 1 (.t 14) (.t 15), [1, 2], none⟩,
 ⟨(some 17), .load none (.t 16), [3], none⟩,
 ⟨(some 18), .call .pure (.f 65) [(.t 13), (.t 17)], [0, 4], none⟩,
 ⟨(some 3), .mov (.t 18), [5, 5, 0, 1, 2, 3, 4, 5], none⟩] [] [10, 13, 14, 15, 16, 17, 18]))
 (.region [⟨(some 11), .mov (.t 4), [], none⟩,
 ⟨(some 12), .bin .add (.t 11) (.c (.int .i64 1)), [0], none⟩,
 ⟨(some 4), .mov (.t 12), [1, 0, 1], none⟩] [] [11, 12]))))))
 (.seq (.region [⟨(some 19), .bslice false .dyn 1 0 [] [], [], none⟩,
 ⟨(some 20), .mov (.t 0), [], none⟩,
 ⟨(some 21), .append .dyn 1 8 (.t 19) (.t 20), [0, 1], none⟩,
 ⟨(some 5), .mov (.t 21), [2, 2, 0, 1, 2], none⟩] [] [4, 19, 20, 21])
 (.seq (.seq (.region [⟨(some 6), .mov (.c (.int .i64 0)), [], none⟩] [] [])
 (.block 2 (.loop (.seq (.seq (.region [⟨(some 22), .mov (.t 6), [], none⟩,
 ⟨(some 23), .mov (.t 0), [], none⟩,
 ⟨(some 24), .len 1 (.t 23), [1], none⟩,
 ⟨(some 25), .bin .lss (.t 22) (.t 24), [0, 2], none⟩,
 ⟨(some 26), .mov (.t 25), [3], none⟩,
 ⟨(some 27), .mov (.t 3), [4], (some (26, true))⟩,
 ⟨(some 28), .bin .gtr (.t 27) (.c (.int .i64 1)), [5, 4], (some (26, true))⟩,
 ⟨(some 29), .pick (.t 26) (.t 28) (.c (.bool false)), [4, 6], none⟩] [] [22, 23, 24, 25, 26])
 (.cond (.t 29)
 .skip
 (.exit 2)))
 (.seq (.block 3 (.region [⟨(some 32), .mov (.t 5), [], none⟩,
 ⟨(some 33), .mov (.t 6), [], none⟩,
 ⟨(some 34), .mov (.t 0), [], none⟩,
 ⟨(some 35), .mov (.t 6), [], none⟩,
 ⟨(some 36), .iaddr none 1 (.t 34) (.t 35), [2, 3], none⟩,
 ⟨(some 37), .load none (.t 36), [4], none⟩,
 ⟨(some 38), .mov (.t 3), [], none⟩,
 ⟨(some 39), .bin .quo (.t 37) (.t 38), [5, 6], none⟩,
 ⟨(some 40), .iaddr none 1 (.t 32) (.t 33), [0, 1, 0, 1, 2, 3, 4, 5, 6, 7], none⟩,
 ⟨none, .store 1 (.t 40) (.t 39), [8, 7, 0, 1, 2, 3, 4, 5, 6, 7], none⟩] [] [29, 32, 33, 34, 35, 36, 37, 38, 39, 40]))
 (.region [⟨(some 30), .mov (.t 6), [], none⟩,
 ⟨(some 31), .bin .add (.t 30) (.c (.int .i64 1)), [0], none⟩,
 ⟨(some 6), .mov (.t 31), [1, 0, 1], none⟩] [] [30, 31]))))))
 (.seq (.region [⟨(some 41), .mov (.t 5), [], none⟩,
 ⟨(some 2), .mov (.t 41), [0, 0], none⟩] [] [0, 3, 28, 27, 5, 6, 41])
 .ret))))))⟩
def s65 : SFn := ⟨15, [.tmp 4],
 (.seq (.region [⟨(some 4), .mov (.c (.int .i64 0)), [], none⟩] [] [4])
 (.seq (.block 0 (.loop (.seq (.seq (.region [⟨(some 5), .mov (.t 1), [], none⟩,
 ⟨(some 6), .bin .neq (.t 5) (.c (.int .i64 0)), [0], none⟩] [] [5])
 (.cond (.t 6)
 .skip
 (.exit 0)))
 (.block 1 (.region [⟨(some 7), .mov (.t 1), [], none⟩,
 ⟨(some 8), .mov (.t 0), [], none⟩,
 ⟨(some 9), .mov (.t 1), [], none⟩,
 ⟨(some 10), .bin .rem (.t 8) (.t 9), [1, 2], none⟩,
 ⟨(some 0), .mov (.t 7), [0, 0, 1], none⟩,
 ⟨(some 1), .mov (.t 10), [3, 4, 0, 1, 2, 3, 4], none⟩] [] [6, 7, 8, 9, 10])))))
 (.seq (.region [⟨(some 11), .mov (.t 0), [], none⟩,
 ⟨(some 12), .mov (.t 0), [], none⟩,
 ⟨(some 13), .bin .sub (.c (.int .i64 0)) (.t 12), [1], none⟩,
 ⟨(some 14), .maxmin false [(.t 11), (.t 13)], [0, 2], none⟩,
 ⟨(some 4), .mov (.t 14), [3, 0, 1, 2, 3], none⟩] [] [0, 1, 11, 12, 13, 14])
 .ret)))⟩
theorem ok3 : okFn Try.prog 3 s3 = true := by kernel_rfl
theorem ok16 : okFn Try.prog 16 s16 = true := by kernel_rfl
theorem ok42 : okFn Try.prog 42 s42 = true := by kernel_rfl
theorem ok43 : okFn Try.prog 43 s43 = true := by kernel_rfl
theorem ok44 : okFn Try.prog 44 s44 = true := by kernel_rfl
theorem ok64 : okFn Try.prog 64 s64 = true := by kernel_rfl
theorem ok65 : okFn Try.prog 65 s65 = true := by kernel_rfl
end Go.AM.SJ
