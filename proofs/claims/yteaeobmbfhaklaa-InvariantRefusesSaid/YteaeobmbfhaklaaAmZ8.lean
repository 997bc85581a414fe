/- A part of the proof of InvariantRefuses: lemmas on the way (AmU, AmUa, AmNj, AmNk, AmNm, AmNn, AmNo, AmMa, AmQe, AmMb, AmMd, AmMe, AmMf, AmMg, AmMc, AmMy, AmTa). Conditions: none of ours. -/
import Derived.OpenShut
import Derived.Test.YteaeobmbfhaklaaProg
import Derived.KernelRfl
import Derived.Test.YteaeobmbfhaklaaAmZ7
namespace Go.AM
open Go.ChangeShapes Go.WideShapes
set_option linter.unusedVariables false
def inF (w : World) (k : Nat) : Prop := k < w.heap.size
end Go.AM
namespace Go.AM
open Go.ChangeShapes Go.WideShapes
set_option linter.unusedVariables false
set_option linter.unusedSimpArgs false
inductive Ty where
  | int (k : IntKind)
  | bool
  | str
  | arr (n : Nat) (t : Ty)
  | sl (t : Ty)
  | st (fs : Ty)
  | unit
  | pair (a b : Ty)
def Ty.sz : Ty → Nat
  | .int _ | .bool | .str | .sl _ => 1
  | .arr n t => n * t.sz
  | .st fs => fs.sz
  | .unit => 0
  | .pair a b => a.sz + b.sz
abbrev Ty.D : Ty → Type
  | .int _ => Int
  | .bool => Bool
  | .str => List UInt8
  | .arr _ t | .sl t => List t.D
  | .st fs => fs.D
  | .unit => Unit
  | .pair a b => a.D × b.D
def Ty.cells : (t : Ty) → t.D → List AV
  | .int k, n => [.int k n]
  | .bool, b => [.bool b]
  | .str, s => [.str s]
  | .arr _ t, l => List.flatMap (Ty.cells t) l
  | .sl t, l => [.fsl (List.flatMap (Ty.cells t) l) (List.length l) t.sz]
  | .st fs, d => Ty.cells fs d
  | .unit, _ => []
  | .pair a b, d => Ty.cells a d.1 ++ Ty.cells b d.2
def Ty.wf : (t : Ty) → t.D → Prop
  | .int k, n => (Lit.int k n).wf = true
  | .bool, _ => True
  | .str, s => List.length s ≤ 9223372036854775807
  | .arr n t, l => List.length l = n ∧ ∀ x ∈ (show List t.D from l), Ty.wf t x
  | .sl t, l => List.length l ≤ 9223372036854775807 ∧ ∀ x ∈ (show List t.D from l), Ty.wf t x
  | .st fs, d => Ty.wf fs d
  | .unit, _ => True
  | .pair a b, d => Ty.wf a d.1 ∧ Ty.wf b d.2
mutual
def okTy (P : Program) : Ty → TypeId → Bool
  | .int k, t => match P.underlying t with | some (.int k') => k' == k | _ => false
  | .bool, t => match P.underlying t with | some .bool => true | _ => false
  | .str, t => match P.underlying t with | some .string => true | _ => false
  | .arr n e, t => match P.underlying t with | some (.array m u) => n == m && okTy P e u && P.cellsOf u == e.sz && P.cellsOf t == n * e.sz | _ => false
  | .sl e, t => match P.underlying t with | some (.slice u) => okTy P e u && P.cellsOf u == e.sz && Nat.blt 0 e.sz | _ => false
  | .st fs, t => match P.underlying t with | some (.struct l) => okFs P fs l.toList 0 && P.cellsOf t == fs.sz | _ => false
  | _, _ => false
termination_by structural ty => ty
def okFs (P : Program) : Ty → List Field → Nat → Bool
  | .unit, l, _ => match l with | [] => true | _ => false
  | .pair a b, l, off => match l with | f :: l => f.offset == off && okTy P a f.type && P.cellsOf f.type == a.sz && okFs P b l (off + a.sz) | _ => false
  | _, _, _ => false
termination_by structural ty => ty
end
section
variable {H : Type} {enc : TypeId × Value → H} {P : Program} {W : World} {spare : Nat → Bool}
theorem cells_len : ∀ (t : Ty) (d : t.D), t.wf d → (t.cells d).length = t.sz
  | .int _, _, _ => rfl
  | .bool, _, _ => rfl
  | .str, _, _ => rfl
  | .sl _, _, _ => rfl
  | .unit, _, _ => rfl
  | .st fs, d, h => cells_len fs d h
  | .pair a b, d, h => by
    simp only [Ty.cells, Ty.sz, List.length_append, cells_len a d.1 h.1, cells_len b d.2 h.2]
  | .arr n t, l, h => by
    obtain ⟨h1, h2⟩ := h
    simp only [Ty.cells, Ty.sz, ← h1]
    have : ∀ (l : List t.D), (∀ x ∈ l, t.wf x) → (l.flatMap t.cells).length = l.length * t.sz := by
      intro l
      induction l with
      | nil => intro _; simp
      | cons x l ih => intro hl; simp [List.flatMap_cons, cells_len t x (hl x (by simp)), ih fun y hy => hl y (by simp [hy]), Nat.succ_mul]; omega
    exact this l h2
theorem mapM_get {α β : Type} {f : α → Option β} : ∀ {l : List α} {r : List β}, l.mapM f = some r → r.length = l.length ∧ ∀ (i : Nat) (x : α), l[i]? = some x → ∃ y, f x = some y ∧ r[i]? = some y
  | [], r, h => by simp at h; subst h; simp
  | a :: l, r, h => by
    simp only [List.mapM_cons, Option.bind_eq_bind, Option.bind_eq_some_iff] at h
    obtain ⟨y, hy, ys, hys, e⟩ := h
    simp at e; subst e
    obtain ⟨h1, h2⟩ := mapM_get hys
    refine ⟨by simp [h1], fun i x hx => ?_⟩
    cases i with
    | zero => simp at hx; subst hx; exact ⟨y, hy, rfl⟩
    | succ i => simpa using h2 i x (by simpa using hx)
theorem many {t : Ty} {c : Ctx} {n : Nat} : ∀ {cs : List Value}, (∀ i, i < n → ∃ x : t.D, t.wf x ∧ VRels c W (t.cells x) ((cs.drop (i * t.sz)).take t.sz)) → n * t.sz ≤ cs.length →
    ∃ l : List t.D, l.length = n ∧ (∀ x ∈ l, t.wf x) ∧ VRels c W (l.flatMap t.cells) (cs.take (n * t.sz)) := by
  induction n with
  | zero => intro cs _ _; exact ⟨[], rfl, by simp, by simp [VRels]⟩
  | succ n ih =>
    intro cs hx hl
    obtain ⟨x, h1, h2⟩ := hx 0 (by omega)
    rw [Nat.succ_mul] at hl
    obtain ⟨l, h3, h4, h5⟩ := ih (cs := cs.drop t.sz) (fun i hi => by
      obtain ⟨y, g1, g2⟩ := hx (i + 1) (by omega)
      refine ⟨y, g1, ?_⟩
      rw [List.drop_drop, show t.sz + i * t.sz = (i + 1) * t.sz by rw [Nat.succ_mul]; omega]
      exact g2) (by simp; omega)
    refine ⟨x :: l, by simp [h3], by simpa using ⟨h1, h4⟩, ?_⟩
    rw [List.flatMap_cons, Nat.succ_mul, Nat.add_comm, List.take_add]
    refine VRels_append ?_ h5
    simpa using h2
mutual
theorem open_ty : ∀ (ty : Ty) (t : TypeId) (fuel : Nat) (cs : List Value) (x : DataW H × List MemPlace), (∀ b, spare b = true) → okTy P ty t = true → DataW.trod enc P W 0 spare true fuel t cs = some x →
    ∃ d : ty.D, ty.wf d ∧ VRels (only (inF W)) W (ty.cells d) cs := by
  intro ty t fuel cs x hs ho h
  match ty with
  | .int k =>
    simp only [okTy] at ho
    split at ho <;> try (cases ho; done)
    rename_i k' hu
    simp only [beq_iff_eq] at ho
    subst ho
    obtain ⟨n, rfl, _, hw⟩ := DataW.trod_int hu h
    exact ⟨n, hw, by simp [Ty.cells, VRels, VRel]⟩
  | .bool =>
    simp only [okTy] at ho
    split at ho <;> try (cases ho; done)
    rename_i hu
    obtain ⟨b, rfl, _⟩ := DataW.trod_bool hu h
    exact ⟨b, trivial, by simp [Ty.cells, VRels, VRel]⟩
  | .str =>
    simp only [okTy] at ho
    split at ho <;> try (cases ho; done)
    rename_i hu
    obtain ⟨s, rfl, _, hl⟩ := DataW.trod_string hu h
    refine ⟨s.data.toList, ?_, ?_⟩
    · simp only [ByteArray.size, maxLen] at hl
      simp only [Ty.wf, Array.length_toList]
      omega
    · simp [Ty.cells, VRels, VRel]
  | .unit => simp [okTy] at ho
  | .pair a b => simp [okTy] at ho
  | .st fs =>
    simp only [okTy] at ho
    split at ho <;> try (cases ho; done)
    rename_i l hu
    simp only [Bool.and_eq_true, beq_iff_eq] at ho
    obtain ⟨ho, hsz⟩ := ho
    cases fuel with
    | zero => simp [DataW.trod] at h
    | succ n =>
      unfold DataW.trod at h
      rw [hu] at h
      split at h <;> first | (simp_all; done) | skip
      rename_i fs' he
      injection he with he; injection he with he; subst he
      split at h
      · rename_i hl
        simp only [Option.map_eq_some_iff] at h
        obtain ⟨xs, hm, _⟩ := h
        obtain ⟨d, h1, h2⟩ := open_fs fs l.toList 0 n _ xs hs ho hm (by omega)
        refine ⟨d, h1, ?_⟩
        simpa [Ty.cells, ← hsz, ← hl] using h2
      · cases h
  | .arr m e =>
    simp only [okTy] at ho
    split at ho <;> try (cases ho; done)
    rename_i m' u hu
    simp only [Bool.and_eq_true, beq_iff_eq] at ho
    obtain ⟨⟨⟨rfl, ho⟩, hsz⟩, hst⟩ := ho
    cases fuel with
    | zero => simp [DataW.trod] at h
    | succ n =>
      unfold DataW.trod at h
      rw [hu] at h
      split at h <;> first | (simp_all; done) | skip
      rename_i m' u' he
      injection he with he; injection he with he1 he2; subst he1; subst he2
      split at h
      · rename_i hl
        simp only [Option.map_eq_some_iff] at h
        obtain ⟨xs, hm, _⟩ := h
        obtain ⟨g1, g2⟩ := mapM_get hm
        rw [hst] at hl
        obtain ⟨l, k1, k2, k3⟩ := many (t := e) (c := only (inF W)) (n := m) (fun i hi => by
          obtain ⟨y, hy, _⟩ := g2 i i (by simp [hi])
          rw [hsz] at hy
          exact open_ty e u n _ y hs ho hy) (by omega)
        refine ⟨l, ⟨k1, k2⟩, ?_⟩
        rw [← hl, List.take_length] at k3
        exact k3
      · cases h
  | .sl e =>
    simp only [okTy] at ho
    split at ho <;> try (cases ho; done)
    rename_i u hu
    simp only [Bool.and_eq_true, beq_iff_eq, Nat.blt_eq] at ho
    obtain ⟨⟨ho, hsz⟩, hpos⟩ := ho
    rcases DataW.trod_slice hu h with ⟨rfl, _⟩ | ⟨a, len, cap, elems, rest, n, _, rfl, _, _, hl, hm, hlen, hel, hsp, hns⟩
    · exact ⟨[], ⟨by simp, by simp⟩, by simp [Ty.cells, VRels, VRel]⟩
    obtain ⟨hrl, hr⟩ := hsp (hs _)
    have each : ∀ i, i < cap → ∃ cs, (w' : W.cells? 0 (a.add (i * e.sz)) e.sz = some cs) → True := fun _ _ => ⟨[], fun _ => trivial⟩
    have each : ∀ i, i < cap → ∃ cs y, W.cells? 0 (a.add (i * e.sz)) e.sz = some cs ∧ DataW.trod enc P W 0 spare true n u cs = some y := by
      intro i hi
      by_cases hil : i < len
      · have h1 := hel i hil
        rw [List.getElem?_eq_getElem (by omega), hsz, Option.bind_eq_some_iff] at h1
        obtain ⟨cs, hcs, hy⟩ := h1
        exact ⟨cs, _, hcs, hy⟩
      · have h1 := hr (i - len) (by omega)
        rw [show len + (i - len) = i by omega, List.getElem?_eq_getElem (by omega), hsz, Option.bind_eq_some_iff] at h1
        obtain ⟨cs, hcs, hy⟩ := h1
        exact ⟨cs, _, hcs, hy⟩
    by_cases h0 : cap = 0
    · have : len = 0 := by omega
      subst h0; subst this
      exact ⟨[], ⟨by simp, by simp⟩, by simp [Ty.cells, VRels, VRel]⟩
    have cellsAt : ∀ i cs, W.cells? 0 (a.add (i * e.sz)) e.sz = some cs → cs.length = e.sz ∧ ∀ j, j < e.sz → W.cell? ((a.add (i * e.sz)).add j) = cs[j]? := by
      intro i cs hcs
      unfold World.cells? at hcs
      rw [if_pos (Nat.zero_le _)] at hcs
      obtain ⟨g1, g2⟩ := mapM_get hcs
      refine ⟨by simpa using g1, fun j hj => ?_⟩
      obtain ⟨y, k1, k2⟩ := g2 j j (by simp [hj])
      rw [k1, k2]
    obtain ⟨cs0, y0, hc0, _⟩ := each 0 (by omega)
    obtain ⟨q1, q2⟩ := cellsAt 0 cs0 hc0
    have hcell0 := q2 0 hpos
    rw [List.getElem?_eq_getElem (by omega)] at hcell0
    obtain ⟨b, off, spot⟩ := a
    have hspot : spot = none := by simpa [Addr.add] using World.cell?_spot hcell0
    subst hspot
    have hb : ∃ C e fr, W.heap[b]? = some (.cells C e fr) := by
      unfold World.cell? at hcell0
      split at hcell0
      · rename_i C e fr hh; exact ⟨C, e, fr, by simpa [Addr.add] using hh⟩
      · cases hcell0
    obtain ⟨C, et, fr, hb⟩ := hb
    have hcell : ∀ i cs, W.cells? 0 ((⟨b, off, none⟩ : Addr).add (i * e.sz)) e.sz = some cs → i < cap → (C.toList.drop (off + i * e.sz)).take e.sz = cs := by
      intro i cs hcs hi
      obtain ⟨k1, k2⟩ := cellsAt i cs hcs
      refine List.ext_getElem? fun j => ?_
      by_cases hj : j < e.sz
      · rw [List.getElem?_take_of_lt hj, List.getElem?_drop, ← k2 j hj]
        rw [Go.WideShapes.add_plain, Go.WideShapes.add_plain]
        unfold World.cell?
        simp only [hb, Option.isSome_none, Bool.false_eq_true, if_false]
        rw [Array.getElem?_toList]
      · rw [List.getElem?_eq_none (by simp; omega), List.getElem?_eq_none (by omega)]
    have hCs : len * e.sz ≤ (C.toList.drop off).length := by
      by_cases hl0 : len = 0
      · subst hl0; simp
      obtain ⟨cs, y, hcs, _⟩ := each (len - 1) (by omega)
      have h1 := hcell (len - 1) cs hcs (by omega)
      obtain ⟨k1, _⟩ := cellsAt (len - 1) cs hcs
      have h2 := congrArg List.length h1
      rw [k1, List.length_take, List.length_drop] at h2
      rw [List.length_drop]
      have h3 : len * e.sz = (len - 1) * e.sz + e.sz := by
        rw [← Nat.succ_mul]; congr 1; omega
      omega
    obtain ⟨l, k1, k2, k3⟩ := many (t := e) (c := only (inF W)) (n := len) (cs := C.toList.drop off) (fun i hi => by
      obtain ⟨cs, y, hcs, hy⟩ := each i (by omega)
      rw [List.drop_drop, hcell i cs hcs (by omega)]
      exact open_ty e u n cs y hs ho hy) hCs
    refine ⟨l, ⟨by simp [maxLen] at hm; omega, k2⟩, ?_⟩
    simp only [Ty.cells, VRels, VRel]
    have hll : (l.flatMap e.cells).length = l.length * e.sz := cells_len (.arr l.length e) l ⟨rfl, k2⟩
    refine ⟨_, [], rfl, .inr ⟨b, off, cap, C, et, fr, by rw [k1], by omega, hll, lt_of_heap hb, hb, ?_⟩, rfl⟩
    have := VPre_pad (vs := (C.toList.drop off).drop (len * e.sz)) k3
    rwa [List.take_append_drop] at this
termination_by structural ty => ty
theorem open_fs : ∀ (ty : Ty) (fs : List Field) (off fuel : Nat) (cs : List Value) (xs : List (DataW H × List MemPlace)), (∀ b, spare b = true) → okFs P ty fs off = true →
    (fs.mapM fun f => DataW.trod enc P W 0 spare true fuel f.type ((cs.drop f.offset).take (P.cellsOf f.type))) = some xs → off + ty.sz ≤ cs.length →
    ∃ d : ty.D, ty.wf d ∧ VRels (only (inF W)) W (ty.cells d) ((cs.drop off).take ty.sz) := by
  intro ty fs off fuel cs xs hs ho h hl
  match ty with
  | .unit => exact ⟨(), trivial, by simp [Ty.cells, VRels, Ty.sz]⟩
  | .pair a b =>
    cases fs with
    | nil => simp [okFs] at ho
    | cons f fs =>
      simp only [okFs, Bool.and_eq_true, beq_iff_eq] at ho
      obtain ⟨⟨⟨rfl, h1⟩, h2⟩, h3⟩ := ho
      simp only [List.mapM_cons, Option.bind_eq_bind, Option.bind_eq_some_iff] at h
      obtain ⟨y, hy, ys, hys, _⟩ := h
      rw [h2] at hy
      simp only [Ty.sz] at hl
      obtain ⟨d1, g1, g2⟩ := open_ty a f.type fuel _ y hs h1 hy
      obtain ⟨d2, g3, g4⟩ := open_fs b fs (f.offset + a.sz) fuel cs ys hs h3 hys (by omega)
      refine ⟨(d1, d2), ⟨g1, g3⟩, ?_⟩
      simp only [Ty.cells, Ty.sz]
      rw [List.take_add]
      refine VRels_append g2 ?_
      rw [List.drop_drop]
      exact g4
  | .int _ => simp [okFs] at ho
  | .bool => simp [okFs] at ho
  | .str => simp [okFs] at ho
  | .arr _ _ => simp [okFs] at ho
  | .sl _ => simp [okFs] at ho
  | .st _ => simp [okFs] at ho
termination_by structural ty => ty
end
def Ty.val : (t : Ty) → t.D → AV
  | .arr n t, d => .agg (Ty.cells (.arr n t) d)
  | .st fs, d => .agg (Ty.cells (.st fs) d)
  | .int k, n => .int k n
  | .bool, b => .bool b
  | .str, s => .str s
  | .sl t, l => .fsl (List.flatMap (Ty.cells t) l) (List.length l) t.sz
  | .unit, _ => .any
  | .pair _ _, _ => .any
theorem arg_in (ty : Ty) {t : TypeId} {base : Nat} {v : Value} {d : DataW H} {ps : List MemPlace} (ho : okTy P ty t = true) (hv : Value.okWide P W .any base t v) (h : DataW.Trod enc P W 0 (fun _ => true) true t v d ps) :
    ∃ d : ty.D, ty.wf d ∧ VRel (only (inF W)) W (ty.val d) v := by
  obtain ⟨fuel, h⟩ := h
  obtain ⟨d, h1, h2⟩ := open_ty (spare := fun _ => true) ty t fuel _ _ (fun _ => rfl) ho h
  refine ⟨d, h1, ?_⟩
  have one : ∀ (u : AV), VRels (only (inF W)) W [u] v.cells.toList → (∀ cs, v ≠ .agg cs) → VRel (only (inF W)) W u v := by
    intro u hu hn
    have : v.cells = #[v] := by cases v <;> first | rfl | exact absurd rfl (hn _)
    rw [this] at hu
    simp only [VRels] at hu
    obtain ⟨v', vs', e, h3, _⟩ := hu
    cases e; exact h3
  cases ty with
  | unit => simp [okTy] at ho
  | pair a b => simp [okTy] at ho
  | arr n e =>
    simp only [okTy] at ho
    split at ho <;> try (cases ho; done)
    rename_i hu
    simp only [Value.okWide, hu] at hv
    obtain ⟨cs, rfl, _⟩ := hv
    simp only [Ty.val, VRel]
    exact ⟨_, rfl, h2⟩
  | st fs =>
    simp only [okTy] at ho
    split at ho <;> try (cases ho; done)
    rename_i hu
    simp only [Value.okWide, hu] at hv
    obtain ⟨cs, rfl, _⟩ := hv
    simp only [Ty.val, VRel]
    exact ⟨_, rfl, h2⟩
  | int k =>
    refine one _ h2 ?_
    rintro cs rfl
    simp only [okTy] at ho
    split at ho <;> try (cases ho; done)
    rename_i hu
    simp [Value.okWide, hu, Cell.okWide, Cell.ok] at hv
  | bool =>
    refine one _ h2 ?_
    rintro cs rfl
    simp only [okTy] at ho
    split at ho <;> try (cases ho; done)
    rename_i hu
    simp [Value.okWide, hu, Cell.okWide, Cell.ok] at hv
  | str =>
    refine one _ h2 ?_
    rintro cs rfl
    simp only [okTy] at ho
    split at ho <;> try (cases ho; done)
    rename_i hu
    simp [Value.okWide, hu, Cell.okWide, Cell.ok] at hv
  | sl e =>
    refine one _ h2 ?_
    rintro cs rfl
    simp only [okTy] at ho
    split at ho <;> try (cases ho; done)
    rename_i hu
    simp [Value.okWide, hu, Cell.okWide, Cell.ok] at hv
end
end Go.AM
namespace Go.AM.SN
open Go.Proofs
set_option maxRecDepth 100000
set_option linter.unusedSimpArgs false
set_option linter.unusedVariables false
theorem colR_bound {x : Nt} (ho : NetOk x) (t : Nat) : ∀ y ∈ colR x t, -8 ≤ y ∧ y ≤ 8 := by
  intro y hy
  simp only [colR, List.mem_map] at hy
  obtain ⟨p, _, rfl⟩ := hy
  rw [List.getD_eq_getElem?_getD]
  cases hk : (incR x p)[t]? with
  | none => simp
  | some z => simpa using incR_bound ho p z (List.mem_of_getElem? hk)
theorem tabR_all {x : Nt} (kind : Int) {q : List Int → Prop} (h1 : ∀ p, q (incR x p)) (h2 : ∀ t, q (colR x t)) : ∀ r ∈ tabR x kind, q r := by
  intro r hr
  unfold tabR at hr
  split at hr
  · simp only [colM, List.mem_map] at hr; obtain ⟨p, _, rfl⟩ := hr; exact h2 p
  · simp only [incM, List.mem_map] at hr; obtain ⟨p, _, rfl⟩ := hr; exact h1 p
theorem tabR_len (x : Nt) (kind : Int) : ∀ r ∈ tabR x kind, r.length = tabC x kind := by
  unfold tabR tabC
  split
  · intro r hr; simp only [colM, List.mem_map] at hr; obtain ⟨t, _, rfl⟩ := hr; exact colR_len x t
  · intro r hr; simp only [incM, List.mem_map] at hr; obtain ⟨t, _, rfl⟩ := hr; exact incR_len x t
theorem newTable (x : Nt) (ho : NetOk x) (kind : Int) (hk : kind = 1 ∨ kind = 2) : PSpec Try.prog 39 [netV x, .int .i64 kind] (.tup [tabV (tabC x kind) (tabR x kind), .int .i64 0]) := by
  rcases hk with rfl | rfl
  · exact newTable1 x ho
  · exact newTable2 x ho
end Go.AM.SN
namespace Go.AM.SN
open Go.Proofs
set_option maxRecDepth 100000
set_option linter.unusedSimpArgs false
set_option linter.unusedVariables false
theorem noRefs_arcC (l : List (Int × Int)) : noRefs (l.flatMap arcC) = true := noRefs_flat fun _ => rfl
theorem noRefs_tnC (l : List Tn) : noRefs (l.flatMap tnC) = true := noRefs_flat fun t => by simp only [tnC, noRefs, noRef_arcs, Bool.and_true]; rfl
theorem aEq_bool {ks : List LK} {neg a b : Bool} : aEq (.flat false ks) neg (.bool a) (.bool b) = some (.bool (decide (a = b) != neg)) := rfl
end Go.AM.SN
namespace Go.AM.SN
open Go.Proofs
set_option maxRecDepth 100000
set_option linter.unusedSimpArgs false
set_option linter.unusedVariables false
theorem noRef_lsts (l : List (List Int)) : noRef (lsts l) = true := by simp only [noRef]; exact noRefs_lsts l
def badW (n : Int) : Bool := decide (n < 0 ∨ 65536 < n)
theorem badW_of {n : Int} (h : badW n = false) : okT n := by simp [badW] at h; unfold okT; omega
theorem within1G (n : Int) : PSpec Try.prog 67 [.int .i64 n] (.bool (badW n)) := by
  refine PSpec.of_flat 64 ok67 rfl rfl rfl ?_
  unfold badW
  by_cases h : n < 0
  · simp (maxSteps := 1000000) (disch := omega) only [s67, h, words, Nat.reduceAdd, Nat.reduceEqDiff, Nat.reduceBEq, ↓reduceIte, reduceCtorEq, SX.exit.injEq, if_true, if_false, Int.reduceAdd, Int.reduceSub, Int.reduceMul, Int.reduceLT, Int.reduceLE, Int.reduceEq, Int.reduceNe, Int.reduceNeg, Int.reduceToNat, Nat.reduceMul, Nat.reduceLT, Nat.reduceSub, Nat.reduceLeDiff]
    exact ⟨by simp, _, rfl, by simp [resOf, lk_cons]⟩
  · simp (maxSteps := 1000000) (disch := omega) only [s67, h, words, Nat.reduceAdd, Nat.reduceEqDiff, Nat.reduceBEq, ↓reduceIte, reduceCtorEq, SX.exit.injEq, if_true, if_false, Int.reduceAdd, Int.reduceSub, Int.reduceMul, Int.reduceLT, Int.reduceLE, Int.reduceEq, Int.reduceNe, Int.reduceNeg, Int.reduceToNat, Nat.reduceMul, Nat.reduceLT, Nat.reduceSub, Nat.reduceLeDiff]
    exact ⟨by simp, _, rfl, by simp [resOf, lk_cons]⟩
theorem small (n : Int) : PSpec Try.prog 32 [.int .i64 n] (.bool (!badW n)) := by
  refine PSpec.of_flat 64 ok32 rfl rfl rfl ?_
  unfold badW
  by_cases h : 0 ≤ n
  · have h' : ¬ n < 0 := by omega
    by_cases h2 : n ≤ 65536
    · have h2' : ¬ 65536 < n := by omega
      simp (maxSteps := 1000000) (disch := omega) only [s32, h, h2, words, Nat.reduceAdd, Nat.reduceEqDiff, Nat.reduceBEq, ↓reduceIte, reduceCtorEq, SX.exit.injEq, if_true, if_false, Int.reduceAdd, Int.reduceSub, Int.reduceMul, Int.reduceLT, Int.reduceLE, Int.reduceEq, Int.reduceNe, Int.reduceNeg, Int.reduceToNat, Nat.reduceMul, Nat.reduceLT, Nat.reduceSub, Nat.reduceLeDiff]
      exact ⟨by simp, _, rfl, by simp [resOf, lk_cons, h', h2']⟩
    · have h2' : 65536 < n := by omega
      simp (maxSteps := 1000000) (disch := omega) only [s32, h, h2, words, Nat.reduceAdd, Nat.reduceEqDiff, Nat.reduceBEq, ↓reduceIte, reduceCtorEq, SX.exit.injEq, if_true, if_false, Int.reduceAdd, Int.reduceSub, Int.reduceMul, Int.reduceLT, Int.reduceLE, Int.reduceEq, Int.reduceNe, Int.reduceNeg, Int.reduceToNat, Nat.reduceMul, Nat.reduceLT, Nat.reduceSub, Nat.reduceLeDiff]
      exact ⟨by simp, _, rfl, by simp [resOf, lk_cons, h', h2']⟩
  · have h' : n < 0 := by omega
    simp (maxSteps := 1000000) (disch := omega) only [s32, h, words, Nat.reduceAdd, Nat.reduceEqDiff, Nat.reduceBEq, ↓reduceIte, reduceCtorEq, SX.exit.injEq, if_true, if_false, Int.reduceAdd, Int.reduceSub, Int.reduceMul, Int.reduceLT, Int.reduceLE, Int.reduceEq, Int.reduceNe, Int.reduceNeg, Int.reduceToNat, Nat.reduceMul, Nat.reduceLT, Nat.reduceSub, Nat.reduceLeDiff]
    exact ⟨by simp, _, rfl, by simp [resOf, lk_cons, h']⟩
def firstAt {α : Type} (p : α → Bool) (l : List α) : Int := match l.findIdx? p with | some i => i | none => -1
theorem firstAt_found {α : Type} {p : α → Bool} {l : List α} {i : Nat} {x : α} (hx : l[i]? = some x) (hp : p x = true) (hb : ∀ (j : Nat) (y : α), j < i → l[j]? = some y → p y = false) : firstAt p l = i := by
  unfold firstAt
  have : l.findIdx? p = some i := by
    rw [List.findIdx?_eq_some_iff_getElem]
    obtain ⟨h1, h2⟩ := List.getElem?_eq_some_iff.1 hx
    refine ⟨h1, by rw [h2]; exact hp, fun j hj => ?_⟩
    have := hb j l[j] hj (List.getElem?_eq_getElem (by omega))
    simp [this]
  rw [this]
theorem firstAt_none {α : Type} {p : α → Bool} {l : List α} (hb : ∀ (j : Nat) (y : α), l[j]? = some y → p y = false) : firstAt p l = -1 := by
  unfold firstAt
  have : l.findIdx? p = none := by
    rw [List.findIdx?_eq_none_iff]
    intro x hx
    obtain ⟨j, hj, _⟩ := mem_at hx
    exact hb j x hj
  rw [this]
theorem firstAt_ge {α : Type} (p : α → Bool) (l : List α) : decide (0 ≤ firstAt p l) = l.any p := by
  unfold firstAt
  cases h : l.findIdx? p with
  | none =>
    rw [List.findIdx?_eq_none_iff] at h
    have : l.any p = false := by rw [List.any_eq_false]; intro x hx; simp [h x hx]
    rw [this]; rfl
  | some i =>
    rw [List.findIdx?_eq_some_iff_getElem] at h
    obtain ⟨h1, h2, _⟩ := h
    have : l.any p = true := List.any_eq_true.2 ⟨_, List.getElem_mem h1, h2⟩
    rw [this]; simp
theorem any_of {α : Type} {p : α → Bool} {l : List α} {i : Nat} {x : α} (hx : l[i]? = some x) (hp : p x = true) : l.any p = true := List.any_eq_true.2 ⟨x, List.mem_of_getElem? hx, hp⟩
theorem any_no {α : Type} {p : α → Bool} {l : List α} (hb : ∀ (j : Nat) (y : α), j < l.length → l[j]? = some y → p y = false) : l.any p = false := by
  rw [List.any_eq_false]
  intro x hx
  obtain ⟨j, hj, hl⟩ := mem_at hx
  simp [hb j x hl hj]
theorem indexG (g : Nat) (p : Int → Bool) (l : List Int) (hg : ∀ x ∈ l, PSpec Try.prog g [.int .i64 x] (.bool (p x))) (hl : l.length ≤ 1099511627776) :
    PSpec Try.prog 76 [sli l, .fn g [] []] (.int .i64 (firstAt p l)) := by
  refine PSpec.of_flat 64 ok76 rfl (by simp [noRefs, noRef, noRefs_ints]) rfl ?_
  simp (maxSteps := 1000000) (disch := first | omega | (simp only [lenW] <;> omega)) only [s76, wordsN, Int.reduceGT, wordsR, ne_eq, words, Nat.reduceAdd, Nat.reduceEqDiff, Nat.reduceBEq, ↓reduceIte, reduceCtorEq, SX.exit.injEq, if_true, if_false, Int.reduceAdd, Int.reduceSub, Int.reduceMul, Int.reduceLT, Int.reduceLE, Int.reduceEq, Int.reduceNe, Int.reduceNeg, Int.reduceToNat, Nat.reduceMul, Nat.reduceLT, Nat.reduceSub, Nat.reduceLeDiff]
  refine wS_loopR 100 (fun i : Nat => [(0, sli l), (1, .fn g [] []), (7, .int .i64 l.length), (8, .int .i64 i)]) (fun _ => []) (fun i => i ≤ l.length ∧ ∀ j y, j < i → l[j]? = some y → p y = false) (fun i => l.length - i) 0 ⟨[], rfl, (by repeat (first | exact RO.zero | exact RO.e | refine RO.set rfl ?_)), (by repeat' (first | exact RB.nil | (refine RnL.same ?_; first | rfl | (simp only [noRef, noRefs, noRefs_append, Bool.and_self, Bool.and_true, Bool.true_and, noRefs_ints, noRefs_lsts, noRefs_pad, noRefs_tnC, noRefs_arcC]; done)) | exact RnM.keyM rfl | exact RnL.nil | refine RnL.cons ?_ ?_ | (refine Rn.same ?_; first | rfl | (simp only [noRef, noRefs, noRefs_append, Bool.and_self, Bool.and_true, Bool.true_and, noRefs_ints, noRefs_lsts, noRefs_pad, noRefs_tnC, noRefs_arcC]; done)) | exact Rn.x1 rfl rfl | exact Rn.x2 rfl rfl | exact Rn.x3 rfl rfl | exact Rn.x4 rfl rfl | exact Rn.x5 rfl | exact Rn.x6 rfl | exact Rn.x7 rfl | refine RB.newnil rfl rfl ?_ | refine RB.cells rfl rfl rfl ?_ ?_ | refine RB.map rfl rfl rfl ?_ ?_ | refine RB.cellsB rfl rfl ?_ ?_ | refine RB.mapB rfl rfl ?_ ?_)), (by repeat (first | exact RT.nil | (refine RT.cons ?_ ?_; · (first | exact Rn.any | exact Rn.x1 rfl rfl | exact Rn.x2 rfl rfl | exact Rn.x3 rfl rfl | exact Rn.x4 rfl rfl | exact Rn.x5 rfl | exact Rn.x6 rfl | exact Rn.x7 rfl | (refine Rn.slot ?_ ?_; (first | rfl | (rw [Int.natCast_add]; rfl)); (first | rfl | (simp only [noRef, noRefs, noRefs_append, Bool.and_self, Bool.and_true, Bool.true_and, noRefs_ints, noRefs_lsts, noRefs_pad, noRefs_tnC, noRefs_arcC]; done))) | (refine Rn.fn ?_ ?_ <;> (repeat' (first | exact RnL.nil | refine RnL.cons ?_ ?_ | exact Rn.same rfl | exact Rn.x6 rfl | exact Rn.x2 rfl rfl | exact Rn.x5 rfl | exact Rn.x1 rfl rfl)))))))⟩ ⟨Nat.zero_le _, fun j y hj => absurd hj (Nat.not_lt_zero _)⟩ ?_
  rintro i ⟨hi, hb⟩
  by_cases hlt : i < l.length
  · obtain ⟨x, hx⟩ := get_ex hlt
    simp (maxSteps := 1000000) (disch := first | omega | (simp only [lenW] <;> omega)) only [hlt, head_ints hx, wordsN, Int.reduceGT, wordsR, ne_eq, words, Nat.reduceAdd, Nat.reduceEqDiff, Nat.reduceBEq, ↓reduceIte, reduceCtorEq, SX.exit.injEq, if_true, if_false, Int.reduceAdd, Int.reduceSub, Int.reduceMul, Int.reduceLT, Int.reduceLE, Int.reduceEq, Int.reduceNe, Int.reduceNeg, Int.reduceToNat, Nat.reduceMul, Nat.reduceLT, Nat.reduceSub, Nat.reduceLeDiff]
    refine cp (hg x (List.mem_of_getElem? hx)) ?_
    cases hp : p x with
    | true =>
      simp (maxSteps := 1000000) (disch := first | omega | (simp only [lenW] <;> omega)) only [wordsN, Int.reduceGT, wordsR, ne_eq, words, Nat.reduceAdd, Nat.reduceEqDiff, Nat.reduceBEq, ↓reduceIte, reduceCtorEq, SX.exit.injEq, if_true, if_false, Int.reduceAdd, Int.reduceSub, Int.reduceMul, Int.reduceLT, Int.reduceLE, Int.reduceEq, Int.reduceNe, Int.reduceNeg, Int.reduceToNat, Nat.reduceMul, Nat.reduceLT, Nat.reduceSub, Nat.reduceLeDiff]
      exact ⟨.inr trivial, _, rfl, by rw [firstAt_found hx hp hb]; rfl⟩
    | false =>
      simp (maxSteps := 1000000) (disch := first | omega | (simp only [lenW] <;> omega)) only [wordsN, Int.reduceGT, wordsR, ne_eq, words, Nat.reduceAdd, Nat.reduceEqDiff, Nat.reduceBEq, ↓reduceIte, reduceCtorEq, SX.exit.injEq, if_true, if_false, Int.reduceAdd, Int.reduceSub, Int.reduceMul, Int.reduceLT, Int.reduceLE, Int.reduceEq, Int.reduceNe, Int.reduceNeg, Int.reduceToNat, Nat.reduceMul, Nat.reduceLT, Nat.reduceSub, Nat.reduceLeDiff]
      refine ⟨i + 1, by omega, ⟨by omega, fun j y hj hy => ?_⟩, ⟨[], rfl, (by repeat (first | exact RO.zero | exact RO.e | refine RO.set rfl ?_)), (by repeat' (first | exact RB.nil | (refine RnL.same ?_; first | rfl | (simp only [noRef, noRefs, noRefs_append, Bool.and_self, Bool.and_true, Bool.true_and, noRefs_ints, noRefs_lsts, noRefs_pad, noRefs_tnC, noRefs_arcC]; done)) | exact RnM.keyM rfl | exact RnL.nil | refine RnL.cons ?_ ?_ | (refine Rn.same ?_; first | rfl | (simp only [noRef, noRefs, noRefs_append, Bool.and_self, Bool.and_true, Bool.true_and, noRefs_ints, noRefs_lsts, noRefs_pad, noRefs_tnC, noRefs_arcC]; done)) | exact Rn.x1 rfl rfl | exact Rn.x2 rfl rfl | exact Rn.x3 rfl rfl | exact Rn.x4 rfl rfl | exact Rn.x5 rfl | exact Rn.x6 rfl | exact Rn.x7 rfl | refine RB.newnil rfl rfl ?_ | refine RB.cells rfl rfl rfl ?_ ?_ | refine RB.map rfl rfl rfl ?_ ?_ | refine RB.cellsB rfl rfl ?_ ?_ | refine RB.mapB rfl rfl ?_ ?_)), (by repeat (first | exact RT.nil | (refine RT.cons ?_ ?_; · (first | exact Rn.any | exact Rn.x1 rfl rfl | exact Rn.x2 rfl rfl | exact Rn.x3 rfl rfl | exact Rn.x4 rfl rfl | exact Rn.x5 rfl | exact Rn.x6 rfl | exact Rn.x7 rfl | (refine Rn.slot ?_ ?_; (first | rfl | (rw [Int.natCast_add]; rfl)); (first | rfl | (simp only [noRef, noRefs, noRefs_append, Bool.and_self, Bool.and_true, Bool.true_and, noRefs_ints, noRefs_lsts, noRefs_pad, noRefs_tnC, noRefs_arcC]; done))) | (refine Rn.fn ?_ ?_ <;> (repeat' (first | exact RnL.nil | refine RnL.cons ?_ ?_ | exact Rn.same rfl | exact Rn.x6 rfl | exact Rn.x2 rfl rfl | exact Rn.x5 rfl | exact Rn.x1 rfl rfl)))))))⟩⟩
      by_cases e : j = i
      · subst e; rw [hx] at hy; cases hy; exact hp
      · exact hb j y (by omega) hy
  · simp (maxSteps := 1000000) (disch := first | omega | (simp only [lenW] <;> omega)) only [hlt, wordsN, Int.reduceGT, wordsR, ne_eq, words, Nat.reduceAdd, Nat.reduceEqDiff, Nat.reduceBEq, ↓reduceIte, reduceCtorEq, SX.exit.injEq, if_true, if_false, Int.reduceAdd, Int.reduceSub, Int.reduceMul, Int.reduceLT, Int.reduceLE, Int.reduceEq, Int.reduceNe, Int.reduceNeg, Int.reduceToNat, Nat.reduceMul, Nat.reduceLT, Nat.reduceSub, Nat.reduceLeDiff]
    exact ⟨.inr trivial, _, rfl, by rw [firstAt_none fun j y hy => hb j y (by have := (List.getElem?_eq_some_iff.1 hy).1; omega) hy]; rfl⟩
theorem containsG (g : Nat) (p : Int → Bool) (l : List Int) (hg : ∀ x ∈ l, PSpec Try.prog g [.int .i64 x] (.bool (p x))) (hl : l.length ≤ 1099511627776) :
    PSpec Try.prog 66 [sli l, .fn g [] []] (.bool (l.any p)) := by
  refine PSpec.of_flat 64 ok66 rfl (by simp [noRefs, noRef, noRefs_ints]) rfl ?_
  simp (maxSteps := 1000000) (disch := first | omega | (simp only [lenW] <;> omega)) only [s66, wordsN, Int.reduceGT, wordsR, ne_eq, words, Nat.reduceAdd, Nat.reduceEqDiff, Nat.reduceBEq, ↓reduceIte, reduceCtorEq, SX.exit.injEq, if_true, if_false, Int.reduceAdd, Int.reduceSub, Int.reduceMul, Int.reduceLT, Int.reduceLE, Int.reduceEq, Int.reduceNe, Int.reduceNeg, Int.reduceToNat, Nat.reduceMul, Nat.reduceLT, Nat.reduceSub, Nat.reduceLeDiff]
  refine cp (indexG g p l hg hl) ?_
  simp (maxSteps := 1000000) (disch := first | omega | (simp only [lenW] <;> omega)) only [firstAt_ge, wordsN, Int.reduceGT, wordsR, ne_eq, words, Nat.reduceAdd, Nat.reduceEqDiff, Nat.reduceBEq, ↓reduceIte, reduceCtorEq, SX.exit.injEq, if_true, if_false, Int.reduceAdd, Int.reduceSub, Int.reduceMul, Int.reduceLT, Int.reduceLE, Int.reduceEq, Int.reduceNe, Int.reduceNeg, Int.reduceToNat, Nat.reduceMul, Nat.reduceLT, Nat.reduceSub, Nat.reduceLeDiff]
  exact ⟨.inr trivial, _, rfl, rfl⟩
theorem withinG (l : List Int) (hl : l.length ≤ 1099511627776) : PSpec Try.prog 50 [sli l] (.int .i64 (if l.any badW = true then 2 else 0)) := by
  refine PSpec.of_flat 64 ok50 rfl (by simp [noRefs, noRef, noRefs_ints]) rfl ?_
  simp (maxSteps := 1000000) (disch := first | omega | (simp only [lenW] <;> omega)) only [s50, wordsN, Int.reduceGT, wordsR, ne_eq, words, Nat.reduceAdd, Nat.reduceEqDiff, Nat.reduceBEq, ↓reduceIte, reduceCtorEq, SX.exit.injEq, if_true, if_false, Int.reduceAdd, Int.reduceSub, Int.reduceMul, Int.reduceLT, Int.reduceLE, Int.reduceEq, Int.reduceNe, Int.reduceNeg, Int.reduceToNat, Nat.reduceMul, Nat.reduceLT, Nat.reduceSub, Nat.reduceLeDiff]
  refine cp (containsG 67 badW l (fun x _ => within1G x) hl) ?_
  cases l.any badW with
  | true => simp (maxSteps := 1000000) (disch := first | omega | (simp only [lenW] <;> omega)) only [wordsN, Int.reduceGT, wordsR, ne_eq, words, Nat.reduceAdd, Nat.reduceEqDiff, Nat.reduceBEq, ↓reduceIte, reduceCtorEq, SX.exit.injEq, if_true, if_false, Int.reduceAdd, Int.reduceSub, Int.reduceMul, Int.reduceLT, Int.reduceLE, Int.reduceEq, Int.reduceNe, Int.reduceNeg, Int.reduceToNat, Nat.reduceMul, Nat.reduceLT, Nat.reduceSub, Nat.reduceLeDiff]; exact ⟨.inr trivial, _, rfl, rfl⟩
  | false => simp (maxSteps := 1000000) (disch := first | omega | (simp only [lenW] <;> omega)) only [wordsN, Int.reduceGT, wordsR, ne_eq, words, Nat.reduceAdd, Nat.reduceEqDiff, Nat.reduceBEq, ↓reduceIte, reduceCtorEq, SX.exit.injEq, if_true, if_false, Int.reduceAdd, Int.reduceSub, Int.reduceMul, Int.reduceLT, Int.reduceLE, Int.reduceEq, Int.reduceNe, Int.reduceNeg, Int.reduceToNat, Nat.reduceMul, Nat.reduceLT, Nat.reduceSub, Nat.reduceLeDiff]; exact ⟨.inr trivial, _, rfl, rfl⟩
def wErr (l : List Int) (n : Nat) : Int := if l.length = n then (if l.any badW = true then 2 else 0) else 4
theorem wErr_ok {l : List Int} {n : Nat} (h : wErr l n = 0) : l.length = n ∧ ∀ x ∈ l, okT x := by
  unfold wErr at h
  split at h
  · rename_i hl
    split at h
    · cases h
    · rename_i ha
      refine ⟨hl, fun x hx => badW_of ?_⟩
      cases hb : badW x with
      | false => rfl
      | true => exact absurd (List.any_eq_true.2 ⟨x, hx, hb⟩) ha
  · cases h
theorem weighG (l : List Int) (n : Nat) (hl : l.length ≤ 1099511627776) (hn : n ≤ 1099511627776) : PSpec Try.prog 47 [sli l, .int .i64 n] (.int .i64 (wErr l n)) := by
  refine PSpec.of_flat 64 ok47 rfl (by simp [noRefs, noRef, noRefs_ints]) rfl ?_
  unfold wErr
  by_cases h : l.length = n
  · simp (maxSteps := 1000000) (disch := first | omega | (simp only [lenW] <;> omega)) only [s47, h, wordsN, Int.reduceGT, wordsR, ne_eq, words, Nat.reduceAdd, Nat.reduceEqDiff, Nat.reduceBEq, ↓reduceIte, reduceCtorEq, SX.exit.injEq, if_true, if_false, Int.reduceAdd, Int.reduceSub, Int.reduceMul, Int.reduceLT, Int.reduceLE, Int.reduceEq, Int.reduceNe, Int.reduceNeg, Int.reduceToNat, Nat.reduceMul, Nat.reduceLT, Nat.reduceSub, Nat.reduceLeDiff]
    refine cp (withinG l hl) ?_
    simp (maxSteps := 1000000) (disch := first | omega | (simp only [lenW] <;> omega)) only [h, wordsN, Int.reduceGT, wordsR, ne_eq, words, Nat.reduceAdd, Nat.reduceEqDiff, Nat.reduceBEq, ↓reduceIte, reduceCtorEq, SX.exit.injEq, if_true, if_false, Int.reduceAdd, Int.reduceSub, Int.reduceMul, Int.reduceLT, Int.reduceLE, Int.reduceEq, Int.reduceNe, Int.reduceNeg, Int.reduceToNat, Nat.reduceMul, Nat.reduceLT, Nat.reduceSub, Nat.reduceLeDiff]
    exact ⟨.inr trivial, _, rfl, rfl⟩
  · simp (maxSteps := 1000000) (disch := first | omega | (simp only [lenW] <;> omega)) only [s47, h, wordsN, Int.reduceGT, wordsR, ne_eq, words, Nat.reduceAdd, Nat.reduceEqDiff, Nat.reduceBEq, ↓reduceIte, reduceCtorEq, SX.exit.injEq, if_true, if_false, Int.reduceAdd, Int.reduceSub, Int.reduceMul, Int.reduceLT, Int.reduceLE, Int.reduceEq, Int.reduceNe, Int.reduceNeg, Int.reduceToNat, Nat.reduceMul, Nat.reduceLT, Nat.reduceSub, Nat.reduceLeDiff]
    exact ⟨.inr trivial, _, rfl, by simp [resOf, lk_cons]⟩
theorem checkWeights (l : List Int) (n : Nat) (hl : l.length ≤ 1099511627776) (hn : n ≤ 1099511627776) : PSpec Try.prog 19 [sli l, .int .i64 n] (.int .i64 (wErr l n)) := by
  refine PSpec.of_flat 64 ok19 rfl (by simp [noRefs, noRef, noRefs_ints]) rfl ?_
  unfold wErr
  by_cases h : l.length = n
  · rw [if_pos h]
    simp (maxSteps := 1000000) (disch := first | omega | (simp only [lenW] <;> omega)) only [s19, h, wordsN, Int.reduceGT, wordsR, ne_eq, words, Nat.reduceAdd, Nat.reduceEqDiff, Nat.reduceBEq, ↓reduceIte, reduceCtorEq, SX.exit.injEq, if_true, if_false, Int.reduceAdd, Int.reduceSub, Int.reduceMul, Int.reduceLT, Int.reduceLE, Int.reduceEq, Int.reduceNe, Int.reduceNeg, Int.reduceToNat, Nat.reduceMul, Nat.reduceLT, Nat.reduceSub, Nat.reduceLeDiff]
    refine wS_loopR 100 (fun i : Nat => [(0, sli l), (5, .int .i64 i)]) (fun _ => []) (fun i => i ≤ l.length ∧ ∀ j y, j < i → l[j]? = some y → badW y = false) (fun i => l.length - i) 0 ⟨[], rfl, (by repeat (first | exact RO.zero | exact RO.e | refine RO.set rfl ?_)), (by repeat' (first | exact RB.nil | (refine RnL.same ?_; first | rfl | (simp only [noRef, noRefs, noRefs_append, Bool.and_self, Bool.and_true, Bool.true_and, noRefs_ints, noRefs_lsts, noRefs_pad, noRefs_tnC, noRefs_arcC]; done)) | exact RnM.keyM rfl | exact RnL.nil | refine RnL.cons ?_ ?_ | (refine Rn.same ?_; first | rfl | (simp only [noRef, noRefs, noRefs_append, Bool.and_self, Bool.and_true, Bool.true_and, noRefs_ints, noRefs_lsts, noRefs_pad, noRefs_tnC, noRefs_arcC]; done)) | exact Rn.x1 rfl rfl | exact Rn.x2 rfl rfl | exact Rn.x3 rfl rfl | exact Rn.x4 rfl rfl | exact Rn.x5 rfl | exact Rn.x6 rfl | exact Rn.x7 rfl | refine RB.newnil rfl rfl ?_ | refine RB.cells rfl rfl rfl ?_ ?_ | refine RB.map rfl rfl rfl ?_ ?_ | refine RB.cellsB rfl rfl ?_ ?_ | refine RB.mapB rfl rfl ?_ ?_)), (by repeat (first | exact RT.nil | (refine RT.cons ?_ ?_; · (first | exact Rn.any | exact Rn.x1 rfl rfl | exact Rn.x2 rfl rfl | exact Rn.x3 rfl rfl | exact Rn.x4 rfl rfl | exact Rn.x5 rfl | exact Rn.x6 rfl | exact Rn.x7 rfl | (refine Rn.slot ?_ ?_; (first | rfl | (rw [Int.natCast_add]; rfl)); (first | rfl | (simp only [noRef, noRefs, noRefs_append, Bool.and_self, Bool.and_true, Bool.true_and, noRefs_ints, noRefs_lsts, noRefs_pad, noRefs_tnC, noRefs_arcC]; done))) | (refine Rn.fn ?_ ?_ <;> (repeat' (first | exact RnL.nil | refine RnL.cons ?_ ?_ | exact Rn.same rfl | exact Rn.x6 rfl | exact Rn.x2 rfl rfl | exact Rn.x5 rfl | exact Rn.x1 rfl rfl)))))))⟩ ⟨Nat.zero_le _, fun j y hj => absurd hj (Nat.not_lt_zero _)⟩ ?_
    rintro i ⟨hi, hb⟩
    by_cases hlt : i < l.length
    · obtain ⟨x, hx⟩ := get_ex hlt
      simp (maxSteps := 1000000) (disch := first | omega | (simp only [lenW] <;> omega)) only [hlt, head_ints hx, wordsN, Int.reduceGT, wordsR, ne_eq, words, Nat.reduceAdd, Nat.reduceEqDiff, Nat.reduceBEq, ↓reduceIte, reduceCtorEq, SX.exit.injEq, if_true, if_false, Int.reduceAdd, Int.reduceSub, Int.reduceMul, Int.reduceLT, Int.reduceLE, Int.reduceEq, Int.reduceNe, Int.reduceNeg, Int.reduceToNat, Nat.reduceMul, Nat.reduceLT, Nat.reduceSub, Nat.reduceLeDiff]
      refine cp (small x) ?_
      cases hp : badW x with
      | true =>
        simp (maxSteps := 1000000) (disch := first | omega | (simp only [lenW] <;> omega)) only [wordsN, Int.reduceGT, wordsR, ne_eq, words, Nat.reduceAdd, Nat.reduceEqDiff, Nat.reduceBEq, ↓reduceIte, reduceCtorEq, SX.exit.injEq, if_true, if_false, Int.reduceAdd, Int.reduceSub, Int.reduceMul, Int.reduceLT, Int.reduceLE, Int.reduceEq, Int.reduceNe, Int.reduceNeg, Int.reduceToNat, Nat.reduceMul, Nat.reduceLT, Nat.reduceSub, Nat.reduceLeDiff]
        exact ⟨.inr trivial, _, rfl, by rw [if_pos (any_of hx hp)]; rfl⟩
      | false =>
        simp (maxSteps := 1000000) (disch := first | omega | (simp only [lenW] <;> omega)) only [wordsN, Int.reduceGT, wordsR, ne_eq, words, Nat.reduceAdd, Nat.reduceEqDiff, Nat.reduceBEq, ↓reduceIte, reduceCtorEq, SX.exit.injEq, if_true, if_false, Int.reduceAdd, Int.reduceSub, Int.reduceMul, Int.reduceLT, Int.reduceLE, Int.reduceEq, Int.reduceNe, Int.reduceNeg, Int.reduceToNat, Nat.reduceMul, Nat.reduceLT, Nat.reduceSub, Nat.reduceLeDiff]
        refine ⟨i + 1, by omega, ⟨by omega, fun j y hj hy => ?_⟩, ⟨[], rfl, (by repeat (first | exact RO.zero | exact RO.e | refine RO.set rfl ?_)), (by repeat' (first | exact RB.nil | (refine RnL.same ?_; first | rfl | (simp only [noRef, noRefs, noRefs_append, Bool.and_self, Bool.and_true, Bool.true_and, noRefs_ints, noRefs_lsts, noRefs_pad, noRefs_tnC, noRefs_arcC]; done)) | exact RnM.keyM rfl | exact RnL.nil | refine RnL.cons ?_ ?_ | (refine Rn.same ?_; first | rfl | (simp only [noRef, noRefs, noRefs_append, Bool.and_self, Bool.and_true, Bool.true_and, noRefs_ints, noRefs_lsts, noRefs_pad, noRefs_tnC, noRefs_arcC]; done)) | exact Rn.x1 rfl rfl | exact Rn.x2 rfl rfl | exact Rn.x3 rfl rfl | exact Rn.x4 rfl rfl | exact Rn.x5 rfl | exact Rn.x6 rfl | exact Rn.x7 rfl | refine RB.newnil rfl rfl ?_ | refine RB.cells rfl rfl rfl ?_ ?_ | refine RB.map rfl rfl rfl ?_ ?_ | refine RB.cellsB rfl rfl ?_ ?_ | refine RB.mapB rfl rfl ?_ ?_)), (by repeat (first | exact RT.nil | (refine RT.cons ?_ ?_; · (first | exact Rn.any | exact Rn.x1 rfl rfl | exact Rn.x2 rfl rfl | exact Rn.x3 rfl rfl | exact Rn.x4 rfl rfl | exact Rn.x5 rfl | exact Rn.x6 rfl | exact Rn.x7 rfl | (refine Rn.slot ?_ ?_; (first | rfl | (rw [Int.natCast_add]; rfl)); (first | rfl | (simp only [noRef, noRefs, noRefs_append, Bool.and_self, Bool.and_true, Bool.true_and, noRefs_ints, noRefs_lsts, noRefs_pad, noRefs_tnC, noRefs_arcC]; done))) | (refine Rn.fn ?_ ?_ <;> (repeat' (first | exact RnL.nil | refine RnL.cons ?_ ?_ | exact Rn.same rfl | exact Rn.x6 rfl | exact Rn.x2 rfl rfl | exact Rn.x5 rfl | exact Rn.x1 rfl rfl)))))))⟩⟩
        by_cases e : j = i
        · subst e; rw [hx] at hy; cases hy; exact hp
        · exact hb j y (by omega) hy
    · simp (maxSteps := 1000000) (disch := first | omega | (simp only [lenW] <;> omega)) only [hlt, wordsN, Int.reduceGT, wordsR, ne_eq, words, Nat.reduceAdd, Nat.reduceEqDiff, Nat.reduceBEq, ↓reduceIte, reduceCtorEq, SX.exit.injEq, if_true, if_false, Int.reduceAdd, Int.reduceSub, Int.reduceMul, Int.reduceLT, Int.reduceLE, Int.reduceEq, Int.reduceNe, Int.reduceNeg, Int.reduceToNat, Nat.reduceMul, Nat.reduceLT, Nat.reduceSub, Nat.reduceLeDiff]
      refine ⟨.inr trivial, _, rfl, ?_⟩
      rw [any_no fun j y hj hy => hb j y (by omega) hy]; rfl
  · rw [if_neg h]
    simp (maxSteps := 1000000) (disch := first | omega | (simp only [lenW] <;> omega)) only [s19, h, wordsN, Int.reduceGT, wordsR, ne_eq, words, Nat.reduceAdd, Nat.reduceEqDiff, Nat.reduceBEq, ↓reduceIte, reduceCtorEq, SX.exit.injEq, if_true, if_false, Int.reduceAdd, Int.reduceSub, Int.reduceMul, Int.reduceLT, Int.reduceLE, Int.reduceEq, Int.reduceNe, Int.reduceNeg, Int.reduceToNat, Nat.reduceMul, Nat.reduceLT, Nat.reduceSub, Nat.reduceLeDiff]
    exact ⟨.inr trivial, _, rfl, rfl⟩
theorem valueP (a b : List Int) (hab : a.length ≤ b.length) (hl : a.length ≤ 1000) (ha : ∀ x ∈ a, sm x) (hb : ∀ x ∈ b, sm x) : PSpec Try.prog 46 [sli a, sli b] (.int .i64 (rowSum a b)) := by
  refine PSpec.of_flat 64 ok46 rfl (by simp [noRefs, noRef, noRefs_ints]) rfl ?_
  simp (maxSteps := 1000000) (disch := first | omega | (simp only [lenW] <;> omega)) only [s46, wordsN, Int.reduceGT, wordsR, ne_eq, words, Nat.reduceAdd, Nat.reduceEqDiff, Nat.reduceBEq, ↓reduceIte, reduceCtorEq, SX.exit.injEq, if_true, if_false, Int.reduceAdd, Int.reduceSub, Int.reduceMul, Int.reduceLT, Int.reduceLE, Int.reduceEq, Int.reduceNe, Int.reduceNeg, Int.reduceToNat, Nat.reduceMul, Nat.reduceLT, Nat.reduceSub, Nat.reduceLeDiff]
  refine wS_loopR 100 (fun i : Nat => [(1, sli b), (5, .int .i64 (rowSum (a.take i) (b.take i))), (8, sli a), (9, .int .i64 a.length), (10, .int .i64 i)]) (fun _ => []) (fun i => i ≤ a.length) (fun i => a.length - i) 0 ⟨[], rfl, (by repeat (first | exact RO.zero | exact RO.e | refine RO.set rfl ?_)), (by repeat' (first | exact RB.nil | (refine RnL.same ?_; first | rfl | (simp only [noRef, noRefs, noRefs_append, Bool.and_self, Bool.and_true, Bool.true_and, noRefs_ints, noRefs_lsts, noRefs_pad, noRefs_tnC, noRefs_arcC]; done)) | exact RnM.keyM rfl | exact RnL.nil | refine RnL.cons ?_ ?_ | (refine Rn.same ?_; first | rfl | (simp only [noRef, noRefs, noRefs_append, Bool.and_self, Bool.and_true, Bool.true_and, noRefs_ints, noRefs_lsts, noRefs_pad, noRefs_tnC, noRefs_arcC]; done)) | exact Rn.x1 rfl rfl | exact Rn.x2 rfl rfl | exact Rn.x3 rfl rfl | exact Rn.x4 rfl rfl | exact Rn.x5 rfl | exact Rn.x6 rfl | exact Rn.x7 rfl | refine RB.newnil rfl rfl ?_ | refine RB.cells rfl rfl rfl ?_ ?_ | refine RB.map rfl rfl rfl ?_ ?_ | refine RB.cellsB rfl rfl ?_ ?_ | refine RB.mapB rfl rfl ?_ ?_)), (by repeat (first | exact RT.nil | (refine RT.cons ?_ ?_; · (first | exact Rn.any | exact Rn.x1 rfl rfl | exact Rn.x2 rfl rfl | exact Rn.x3 rfl rfl | exact Rn.x4 rfl rfl | exact Rn.x5 rfl | exact Rn.x6 rfl | exact Rn.x7 rfl | (refine Rn.slot ?_ ?_; (first | rfl | (rw [Int.natCast_add]; rfl)); (first | rfl | (simp only [noRef, noRefs, noRefs_append, Bool.and_self, Bool.and_true, Bool.true_and, noRefs_ints, noRefs_lsts, noRefs_pad, noRefs_tnC, noRefs_arcC]; done))) | (refine Rn.fn ?_ ?_ <;> (repeat' (first | exact RnL.nil | refine RnL.cons ?_ ?_ | exact Rn.same rfl | exact Rn.x6 rfl | exact Rn.x2 rfl rfl | exact Rn.x5 rfl | exact Rn.x1 rfl rfl)))))))⟩ (Nat.zero_le _) ?_
  intro i hi
  by_cases hlt : i < a.length
  · obtain ⟨x, hx⟩ := get_ex hlt
    obtain ⟨y, hy⟩ := get_ex (l := b) (i := i) (by omega)
    have hlt2 : i < b.length := by omega
    have h1 := mul_sm (ha x (List.mem_of_getElem? hx)) (hb y (List.mem_of_getElem? hy))
    have h2 := rowSum_bound (l := a.take i) (m := b.take i) (fun z hz => ha z (List.mem_of_mem_take hz)) (fun z hz => hb z (List.mem_of_mem_take hz))
    have h3 : (a.take i).length = i := by simp; omega
    rw [h3] at h2
    have hs := rowSum_take hx hy
    simp (maxSteps := 1000000) (disch := first | omega | (simp only [lenW] <;> omega)) only [hlt, hlt2, head_ints hx, head_ints hy, wordsN, Int.reduceGT, wordsR, ne_eq, words, Nat.reduceAdd, Nat.reduceEqDiff, Nat.reduceBEq, ↓reduceIte, reduceCtorEq, SX.exit.injEq, if_true, if_false, Int.reduceAdd, Int.reduceSub, Int.reduceMul, Int.reduceLT, Int.reduceLE, Int.reduceEq, Int.reduceNe, Int.reduceNeg, Int.reduceToNat, Nat.reduceMul, Nat.reduceLT, Nat.reduceSub, Nat.reduceLeDiff]
    refine ⟨i + 1, by omega, by omega, ?_⟩
    rw [hs]
    exact ⟨[], rfl, (by repeat (first | exact RO.zero | exact RO.e | refine RO.set rfl ?_)), (by repeat' (first | exact RB.nil | (refine RnL.same ?_; first | rfl | (simp only [noRef, noRefs, noRefs_append, Bool.and_self, Bool.and_true, Bool.true_and, noRefs_ints, noRefs_lsts, noRefs_pad, noRefs_tnC, noRefs_arcC]; done)) | exact RnM.keyM rfl | exact RnL.nil | refine RnL.cons ?_ ?_ | (refine Rn.same ?_; first | rfl | (simp only [noRef, noRefs, noRefs_append, Bool.and_self, Bool.and_true, Bool.true_and, noRefs_ints, noRefs_lsts, noRefs_pad, noRefs_tnC, noRefs_arcC]; done)) | exact Rn.x1 rfl rfl | exact Rn.x2 rfl rfl | exact Rn.x3 rfl rfl | exact Rn.x4 rfl rfl | exact Rn.x5 rfl | exact Rn.x6 rfl | exact Rn.x7 rfl | refine RB.newnil rfl rfl ?_ | refine RB.cells rfl rfl rfl ?_ ?_ | refine RB.map rfl rfl rfl ?_ ?_ | refine RB.cellsB rfl rfl ?_ ?_ | refine RB.mapB rfl rfl ?_ ?_)), (by repeat (first | exact RT.nil | (refine RT.cons ?_ ?_; · (first | exact Rn.any | exact Rn.x1 rfl rfl | exact Rn.x2 rfl rfl | exact Rn.x3 rfl rfl | exact Rn.x4 rfl rfl | exact Rn.x5 rfl | exact Rn.x6 rfl | exact Rn.x7 rfl | (refine Rn.slot ?_ ?_; (first | rfl | (rw [Int.natCast_add]; rfl)); (first | rfl | (simp only [noRef, noRefs, noRefs_append, Bool.and_self, Bool.and_true, Bool.true_and, noRefs_ints, noRefs_lsts, noRefs_pad, noRefs_tnC, noRefs_arcC]; done))) | (refine Rn.fn ?_ ?_ <;> (repeat' (first | exact RnL.nil | refine RnL.cons ?_ ?_ | exact Rn.same rfl | exact Rn.x6 rfl | exact Rn.x2 rfl rfl | exact Rn.x5 rfl | exact Rn.x1 rfl rfl)))))))⟩
  · have e : i = a.length := by omega
    have h1 : rowSum (a.take i) (b.take i) = rowSum a b := by
      rw [e, List.take_length]
      have : ∀ (a b : List Int), rowSum a (b.take a.length) = rowSum a b := by
        intro a
        induction a with
        | nil => intro b; cases b <;> rfl
        | cons x a ih => intro b; cases b with
          | nil => rfl
          | cons y b => simp only [List.length_cons, List.take_succ_cons, rowSum, ih]
      exact this a b
    simp (maxSteps := 1000000) (disch := first | omega | (simp only [lenW] <;> omega)) only [hlt, h1, wordsN, Int.reduceGT, wordsR, ne_eq, words, Nat.reduceAdd, Nat.reduceEqDiff, Nat.reduceBEq, ↓reduceIte, reduceCtorEq, SX.exit.injEq, if_true, if_false, Int.reduceAdd, Int.reduceSub, Int.reduceMul, Int.reduceLT, Int.reduceLE, Int.reduceEq, Int.reduceNe, Int.reduceNeg, Int.reduceToNat, Nat.reduceMul, Nat.reduceLT, Nat.reduceSub, Nat.reduceLeDiff]
    exact ⟨.inr trivial, _, rfl, rfl⟩
def chk1 (x : Nt) (w : List Int) : Int := if wErr w x.ini.length = 0 then (if flowsR (tabR x 1) w = true then 0 else 6) else wErr w x.ini.length
def chkR (x : Nt) : List (List Int) → Int
  | [] => 0
  | w :: l => if chk1 x w = 0 then chkR x l else chk1 x w
theorem chkR_take (x : Nt) : ∀ (l : List (List Int)) (i : Nat) (w : List Int), l[i]? = some w → chkR x (l.take (i + 1)) = if chkR x (l.take i) = 0 then chk1 x w else chkR x (l.take i)
  | [], i, w, h => by simp at h
  | a :: l, 0, w, h => by
    simp at h; subst h
    simp only [List.take_succ_cons, List.take_zero, chkR]
    by_cases h0 : chk1 x a = 0 <;> simp [h0]
  | a :: l, i + 1, w, h => by
    simp at h
    have := chkR_take x l i w h
    simp only [List.take_succ_cons, chkR] at this ⊢
    by_cases h0 : chk1 x a = 0
    · simp only [if_pos h0]; exact this
    · simp only [if_neg h0, if_neg h0]
theorem flows1 (x : Nt) (ho : NetOk x) (w : List Int) (h : wErr w x.ini.length = 0) : PSpec Try.prog 49 [tabV (tabC x 1) (tabR x 1), sli w] (.bool (flowsR (tabR x 1) w)) := by
  obtain ⟨h1, h2⟩ := wErr_ok h
  have hp := ho.places
  have ht := ho.trans
  have hsm1 : ∀ (r : List Int), (∀ y ∈ r, -8 ≤ y ∧ y ≤ 8) → ∀ y ∈ r, sm y := fun r hr y hy => by have := hr y hy; unfold sm; omega
  exact flows _ _ _ (by simp [tabC]; omega) (by simp [tabR, colM]; omega) (by rw [h1]; rfl) (tabR_len x 1) (tabR_all 1 (fun p => hsm1 _ (incR_bound ho p)) (fun t => hsm1 _ (colR_bound ho t)))
    (fun y hy => by have := h2 y hy; unfold okT at this; unfold sm; omega)
theorem noRef_tab (k : Nat) (R : List (List Int)) : noRef (tabV k R) = true := by simp only [noRef, noRefs, noRefs_pad]; rfl
set_option maxHeartbeats 8000000 in
theorem chk (x : Nt) (ho : NetOk x) (l : List (List Int)) (hl : l.length ≤ 1000) (hll : ∀ w ∈ l, w.length ≤ 1000) : PSpec Try.prog 45 [netV x, lsts l] (.int .i64 (chkR x l)) := by
  refine PSpec.of_rn 64 ok45 rfl (by (try simp only [noRefs, noRef_net, noRef_sli, noRef_lsts, noRef_arcs, noRef_tns]) <;> rfl) rfl ?_
  have hp := ho.places
  simp (maxSteps := 1000000) (disch := first | omega | (simp only [lenW] <;> omega)) only [s45, wordsN, Int.reduceGT, wordsR, ne_eq, words, Nat.reduceAdd, Nat.reduceEqDiff, Nat.reduceBEq, ↓reduceIte, reduceCtorEq, SX.exit.injEq, if_true, if_false, Int.reduceAdd, Int.reduceSub, Int.reduceMul, Int.reduceLT, Int.reduceLE, Int.reduceEq, Int.reduceNe, Int.reduceNeg, Int.reduceToNat, Nat.reduceMul, Nat.reduceLT, Nat.reduceSub, Nat.reduceLeDiff]
  refine cp (newTable1 x ho) ?_
  simp (maxSteps := 1000000) (disch := first | omega | (simp only [lenW] <;> omega)) only [wordsN, Int.reduceGT, wordsR, ne_eq, words, Nat.reduceAdd, Nat.reduceEqDiff, Nat.reduceBEq, ↓reduceIte, reduceCtorEq, SX.exit.injEq, if_true, if_false, Int.reduceAdd, Int.reduceSub, Int.reduceMul, Int.reduceLT, Int.reduceLE, Int.reduceEq, Int.reduceNe, Int.reduceNeg, Int.reduceToNat, Nat.reduceMul, Nat.reduceLT, Nat.reduceSub, Nat.reduceLeDiff]
  refine wS_loopR 100 (fun i : Nat => [(5, .ptr 50 0 0), (18, lsts l), (19, .int .i64 l.length), (20, .int .i64 i)]) (fun _ => [(50, .cells 0 [.int .i64 (tabC x 1), .fsl ((tabR x 1).flatMap pad) (tabR x 1).length 10])])
    (fun i => i ≤ l.length ∧ chkR x (l.take i) = 0) (fun i => l.length - i) 0 ⟨[(50, .blk 71 0)], rfl, (by repeat (first | exact RO.zero | exact RO.e | refine RO.set rfl ?_)), (by repeat' (first | exact RB.nil | (refine RnL.same ?_; first | rfl | (simp only [noRef, noRefs, noRefs_append, Bool.and_self, Bool.and_true, Bool.true_and, noRefs_ints, noRefs_lsts, noRefs_pad, noRefs_tnC, noRefs_arcC]; done)) | exact RnM.keyM rfl | exact RnL.nil | refine RnL.cons ?_ ?_ | (refine Rn.same ?_; first | rfl | (simp only [noRef, noRefs, noRefs_append, Bool.and_self, Bool.and_true, Bool.true_and, noRefs_ints, noRefs_lsts, noRefs_pad, noRefs_tnC, noRefs_arcC]; done)) | exact Rn.x1 rfl rfl | exact Rn.x2 rfl rfl | exact Rn.x3 rfl rfl | exact Rn.x4 rfl rfl | exact Rn.x5 rfl | exact Rn.x6 rfl | exact Rn.x7 rfl | refine RB.newnil rfl rfl ?_ | refine RB.cells rfl rfl rfl ?_ ?_ | refine RB.map rfl rfl rfl ?_ ?_ | refine RB.cellsB rfl rfl ?_ ?_ | refine RB.mapB rfl rfl ?_ ?_)), (by repeat (first | exact RT.nil | (refine RT.cons ?_ ?_; · (first | exact Rn.any | exact Rn.x1 rfl rfl | exact Rn.x2 rfl rfl | exact Rn.x3 rfl rfl | exact Rn.x4 rfl rfl | exact Rn.x5 rfl | exact Rn.x6 rfl | exact Rn.x7 rfl | (refine Rn.slot ?_ ?_; (first | rfl | (rw [Int.natCast_add]; rfl)); (first | rfl | (simp only [noRef, noRefs, noRefs_append, Bool.and_self, Bool.and_true, Bool.true_and, noRefs_ints, noRefs_lsts, noRefs_pad, noRefs_tnC, noRefs_arcC]; done))) | (refine Rn.fn ?_ ?_ <;> (repeat' (first | exact RnL.nil | refine RnL.cons ?_ ?_ | exact Rn.same rfl | exact Rn.x6 rfl | exact Rn.x2 rfl rfl | exact Rn.x5 rfl | exact Rn.x1 rfl rfl)))))))⟩ ⟨Nat.zero_le _, rfl⟩ ?_
  rintro i ⟨hi, hb⟩
  by_cases hlt : i < l.length
  · obtain ⟨w, hw⟩ := get_ex hlt
    have hwl := hll w (List.mem_of_getElem? hw)
    have hs := chkR_take x l i w hw
    rw [if_pos hb] at hs
    have hwe := weighG w (tabC x 1) (by omega) (by simp [tabC]; omega)
    have hrest : ∀ k, chkR x (l.take k) ≠ 0 → chkR x l = chkR x (l.take k) := by
      intro k
      have : ∀ (l : List (List Int)) (k : Nat), chkR x (l.take k) ≠ 0 → chkR x l = chkR x (l.take k) := by
        intro l
        induction l with
        | nil => intro k hk; simp
        | cons a l ih =>
          intro k hk
          cases k with
          | zero => simp [chkR] at hk
          | succ k =>
            simp only [List.take_succ_cons, chkR] at hk ⊢
            by_cases h0 : chk1 x a = 0
            · simp only [if_pos h0] at hk ⊢; exact ih k hk
            · simp only [if_neg h0]
      exact this l k
    simp (maxSteps := 1000000) (disch := first | omega | (simp only [lenW] <;> omega)) only [hlt, head_lsts hw, wordsN, Int.reduceGT, wordsR, ne_eq, words, Nat.reduceAdd, Nat.reduceEqDiff, Nat.reduceBEq, ↓reduceIte, reduceCtorEq, SX.exit.injEq, if_true, if_false, Int.reduceAdd, Int.reduceSub, Int.reduceMul, Int.reduceLT, Int.reduceLE, Int.reduceEq, Int.reduceNe, Int.reduceNeg, Int.reduceToNat, Nat.reduceMul, Nat.reduceLT, Nat.reduceSub, Nat.reduceLeDiff]
    refine cp hwe ?_
    have htc : tabC x 1 = x.ini.length := rfl
    rw [htc]
    by_cases h0 : wErr w x.ini.length = 0
    · simp (maxSteps := 1000000) (disch := first | omega | (simp only [lenW] <;> omega)) only [h0, wordsN, Int.reduceGT, wordsR, ne_eq, words, Nat.reduceAdd, Nat.reduceEqDiff, Nat.reduceBEq, ↓reduceIte, reduceCtorEq, SX.exit.injEq, if_true, if_false, Int.reduceAdd, Int.reduceSub, Int.reduceMul, Int.reduceLT, Int.reduceLE, Int.reduceEq, Int.reduceNe, Int.reduceNeg, Int.reduceToNat, Nat.reduceMul, Nat.reduceLT, Nat.reduceSub, Nat.reduceLeDiff]
      refine cp (flows1 x ho w h0) ?_
      cases hf : flowsR (tabR x 1) w with
      | true =>
        simp (maxSteps := 1000000) (disch := first | omega | (simp only [lenW] <;> omega)) only [wordsN, Int.reduceGT, wordsR, ne_eq, words, Nat.reduceAdd, Nat.reduceEqDiff, Nat.reduceBEq, ↓reduceIte, reduceCtorEq, SX.exit.injEq, if_true, if_false, Int.reduceAdd, Int.reduceSub, Int.reduceMul, Int.reduceLT, Int.reduceLE, Int.reduceEq, Int.reduceNe, Int.reduceNeg, Int.reduceToNat, Nat.reduceMul, Nat.reduceLT, Nat.reduceSub, Nat.reduceLeDiff]
        refine ⟨i + 1, by omega, ⟨by omega, by rw [hs, chk1, if_pos h0, if_pos hf]⟩, ⟨[(50, .blk 50 0)], rfl, (by repeat (first | exact RO.zero | exact RO.e | refine RO.set rfl ?_)), (by repeat' (first | exact RB.nil | (refine RnL.same ?_; first | rfl | (simp only [noRef, noRefs, noRefs_append, Bool.and_self, Bool.and_true, Bool.true_and, noRefs_ints, noRefs_lsts, noRefs_pad, noRefs_tnC, noRefs_arcC]; done)) | exact RnM.keyM rfl | exact RnL.nil | refine RnL.cons ?_ ?_ | (refine Rn.same ?_; first | rfl | (simp only [noRef, noRefs, noRefs_append, Bool.and_self, Bool.and_true, Bool.true_and, noRefs_ints, noRefs_lsts, noRefs_pad, noRefs_tnC, noRefs_arcC]; done)) | exact Rn.x1 rfl rfl | exact Rn.x2 rfl rfl | exact Rn.x3 rfl rfl | exact Rn.x4 rfl rfl | exact Rn.x5 rfl | exact Rn.x6 rfl | exact Rn.x7 rfl | refine RB.newnil rfl rfl ?_ | refine RB.cells rfl rfl rfl ?_ ?_ | refine RB.map rfl rfl rfl ?_ ?_ | refine RB.cellsB rfl rfl ?_ ?_ | refine RB.mapB rfl rfl ?_ ?_)), (by repeat (first | exact RT.nil | (refine RT.cons ?_ ?_; · (first | exact Rn.any | exact Rn.x1 rfl rfl | exact Rn.x2 rfl rfl | exact Rn.x3 rfl rfl | exact Rn.x4 rfl rfl | exact Rn.x5 rfl | exact Rn.x6 rfl | exact Rn.x7 rfl | (refine Rn.slot ?_ ?_; (first | rfl | (rw [Int.natCast_add]; rfl)); (first | rfl | (simp only [noRef, noRefs, noRefs_append, Bool.and_self, Bool.and_true, Bool.true_and, noRefs_ints, noRefs_lsts, noRefs_pad, noRefs_tnC, noRefs_arcC]; done))) | (refine Rn.fn ?_ ?_ <;> (repeat' (first | exact RnL.nil | refine RnL.cons ?_ ?_ | exact Rn.same rfl | exact Rn.x6 rfl | exact Rn.x2 rfl rfl | exact Rn.x5 rfl | exact Rn.x1 rfl rfl)))))))⟩⟩
      | false =>
        simp (maxSteps := 1000000) (disch := first | omega | (simp only [lenW] <;> omega)) only [wordsN, Int.reduceGT, wordsR, ne_eq, words, Nat.reduceAdd, Nat.reduceEqDiff, Nat.reduceBEq, ↓reduceIte, reduceCtorEq, SX.exit.injEq, if_true, if_false, Int.reduceAdd, Int.reduceSub, Int.reduceMul, Int.reduceLT, Int.reduceLE, Int.reduceEq, Int.reduceNe, Int.reduceNeg, Int.reduceToNat, Nat.reduceMul, Nat.reduceLT, Nat.reduceSub, Nat.reduceLeDiff]
        have e : chkR x (l.take (i + 1)) = 6 := by rw [hs, chk1, if_pos h0, if_neg (by rw [hf]; simp)]
        exact ⟨.inr trivial, _, rfl, by rw [hrest (i + 1) (by rw [e]; decide), e]; exact Rn.same rfl⟩
    · simp (maxSteps := 1000000) (disch := first | omega | (simp only [lenW] <;> omega)) only [h0, wordsN, Int.reduceGT, wordsR, ne_eq, words, Nat.reduceAdd, Nat.reduceEqDiff, Nat.reduceBEq, ↓reduceIte, reduceCtorEq, SX.exit.injEq, if_true, if_false, Int.reduceAdd, Int.reduceSub, Int.reduceMul, Int.reduceLT, Int.reduceLE, Int.reduceEq, Int.reduceNe, Int.reduceNeg, Int.reduceToNat, Nat.reduceMul, Nat.reduceLT, Nat.reduceSub, Nat.reduceLeDiff]
      have e : chkR x (l.take (i + 1)) = wErr w x.ini.length := by rw [hs, chk1, if_neg h0]
      exact ⟨.inr trivial, _, rfl, by rw [hrest (i + 1) (by rw [e]; exact h0), e]; exact Rn.same rfl⟩
  · simp (maxSteps := 1000000) (disch := first | omega | (simp only [lenW] <;> omega)) only [hlt, wordsN, Int.reduceGT, wordsR, ne_eq, words, Nat.reduceAdd, Nat.reduceEqDiff, Nat.reduceBEq, ↓reduceIte, reduceCtorEq, SX.exit.injEq, if_true, if_false, Int.reduceAdd, Int.reduceSub, Int.reduceMul, Int.reduceLT, Int.reduceLE, Int.reduceEq, Int.reduceNe, Int.reduceNeg, Int.reduceToNat, Nat.reduceMul, Nat.reduceLT, Nat.reduceSub, Nat.reduceLeDiff]
    have e : i = l.length := by omega
    rw [e, List.take_length] at hb
    exact ⟨.inr trivial, _, rfl, by rw [hb]; exact Rn.same rfl⟩
end Go.AM.SN
namespace Go.AM.SN
open Go.Proofs
set_option maxRecDepth 100000
set_option linter.unusedSimpArgs false
set_option linter.unusedVariables false
def rowF (n : Nat) (f : Nat → Int) : List AV := ints ((List.range n).map f)
theorem rowF_len (n : Nat) (f : Nat → Int) : (rowF n f).length = n := by simp [rowF, ints]
theorem noRefs_rowF (n : Nat) (f : Nat → Int) : noRefs (rowF n f) = true := noRefs_ints _
theorem rowF_get {n i : Nat} (f : Nat → Int) (h : i < n) : (rowF n f)[i]? = some (.int .i64 (f i)) := by simp [rowF, ints, List.getElem?_range h]
theorem rowF_set {n i : Nat} (f : Nat → Int) (v : Int) : (rowF n f).set i (.int .i64 v) = rowF n (fun j => if j = i then v else f j) := by
  refine List.ext_getElem? fun j => ?_
  simp only [rowF, ints, List.getElem?_set, List.length_map, List.length_range, List.getElem?_map]
  by_cases hj : i = j
  · subst hj
    by_cases hi : i < n
    · simp [hi, List.getElem?_range hi]
    · simp [hi]
  · rw [if_neg hj]
    have : ¬ j = i := fun e => hj e.symm
    by_cases hi : j < n
    · simp [List.getElem?_range hi, this]
    · simp [List.getElem?_eq_none (show (List.range n).length ≤ j by simp; omega)]
theorem rowF_congr {n : Nat} {f g : Nat → Int} (h : ∀ i, i < n → f i = g i) : rowF n f = rowF n g := by
  unfold rowF
  congr 1
  exact List.map_congr_left fun i hi => h i (by simpa using hi)
theorem rowF_zero (n : Nat) : (List.replicate n [AV.int .i64 0]).flatten = rowF n (fun _ => 0) := by
  induction n with
  | zero => rfl
  | succ n ih => rw [List.replicate_succ, List.flatten_cons, ih, rowF, rowF, List.range_succ_eq_map]; simp [ints]
theorem chkR_all {x : Nt} : ∀ {l : List (List Int)}, chkR x l = 0 → ∀ w ∈ l, wErr w x.ini.length = 0
  | [], _, w, hw => by cases hw
  | a :: l, h, w, hw => by
    simp only [chkR] at h
    split at h
    · rename_i h0
      rcases List.mem_cons.1 hw with rfl | hw
      · unfold chk1 at h0
        split at h0
        · assumption
        · rename_i hn; exact absurd h0 hn
      · exact chkR_all h w hw
    · rename_i h0; exact absurd h h0
theorem rowSum_nonneg : ∀ {a b : List Int}, (∀ x ∈ a, 0 ≤ x) → (∀ x ∈ b, 0 ≤ x) → 0 ≤ rowSum a b
  | [], b, _, _ => by cases b <;> simp [rowSum]
  | x :: a, [], _, _ => by simp [rowSum]
  | x :: a, y :: b, ha, hb => by
    have h1 := rowSum_nonneg (a := a) (b := b) (fun z hz => ha z (by simp [hz])) (fun z hz => hb z (by simp [hz]))
    have h2 := Int.mul_nonneg (ha x (by simp)) (hb y (by simp))
    simp only [rowSum]; omega
def bStep (ini : List Int) (p : Nat) (out : Int) (w : List Int) : Int :=
  if w.getD p 0 = 0 then out else (if out < 0 ∨ (rowSum w ini).tdiv (w.getD p 0) < out then (rowSum w ini).tdiv (w.getD p 0) else out)
def bndR (ini : List Int) (l : List (List Int)) (p : Nat) : Int := l.foldl (bStep ini p) (-1)
theorem bnd_take {ini : List Int} {l : List (List Int)} {p i : Nat} {w : List Int} (h : l[i]? = some w) : bndR ini (l.take (i + 1)) p = bStep ini p (bndR ini (l.take i) p) w := by
  unfold bndR
  rw [List.take_add_one, List.foldl_append, h]; rfl
def bndL (x : Nt) (l : List (List Int)) : List Int := (List.range x.ini.length).map (bndR x.ini l)
set_option maxHeartbeats 8000000 in
theorem bounds (x : Nt) (ho : NetOk x) (l : List (List Int)) (hl : l.length ≤ 1000) (hll : ∀ w ∈ l, w.length ≤ 1000) :
    PSpec Try.prog 23 [netV x, lsts l] (.tup [if chkR x l = 0 then sli (bndL x l) else .nilsl, .int .i64 (chkR x l)]) := by
  refine PSpec.of_rn 64 ok23 rfl (by (try simp only [noRefs, noRef_net, noRef_sli, noRef_lsts, noRef_arcs, noRef_tns]) <;> rfl) (by split <;> simp only [noRef, noRefs, noRefs_ints] <;> rfl) ?_
  have hp := ho.places
  simp (maxSteps := 1000000) (disch := first | omega | (simp only [lenW] <;> omega)) only [s23, wordsN, Int.reduceGT, wordsR, ne_eq, words, Nat.reduceAdd, Nat.reduceEqDiff, Nat.reduceBEq, ↓reduceIte, reduceCtorEq, SX.exit.injEq, if_true, if_false, Int.reduceAdd, Int.reduceSub, Int.reduceMul, Int.reduceLT, Int.reduceLE, Int.reduceEq, Int.reduceNe, Int.reduceNeg, Int.reduceToNat, Nat.reduceMul, Nat.reduceLT, Nat.reduceSub, Nat.reduceLeDiff]
  refine cp (chk x ho l hl hll) ?_
  by_cases h0 : chkR x l = 0
  · have hall := chkR_all h0
    have hc : (8 : Int) * (x.ini.length : Int) ≤ 1099511627776 := by omega
    have hc5 : (x.ini.length : Int) ≤ 1099511627776 := by omega
    simp (maxSteps := 1000000) (disch := first | omega | (simp only [lenW] <;> omega)) only [h0, hc, hc5, rowF_zero, wordsN, Int.reduceGT, wordsR, ne_eq, words, Nat.reduceAdd, Nat.reduceEqDiff, Nat.reduceBEq, ↓reduceIte, reduceCtorEq, SX.exit.injEq, if_true, if_false, Int.reduceAdd, Int.reduceSub, Int.reduceMul, Int.reduceLT, Int.reduceLE, Int.reduceEq, Int.reduceNe, Int.reduceNeg, Int.reduceToNat, Nat.reduceMul, Nat.reduceLT, Nat.reduceSub, Nat.reduceLeDiff]
    refine wS_loopR 100 (fun p : Nat => [(1, lsts l), (2, .ptr 64 0 0), (7, .sl 76 0 0 x.ini.length 1), (23, .int .i64 x.ini.length), (24, .int .i64 p)])
      (fun p => [(64, .cells 0 [sli x.ini, tns x.tr]), (76, .cells 0 (rowF x.ini.length fun q => if q < p then bndR x.ini l q else 0))]) (fun p => p ≤ x.ini.length) (fun p => x.ini.length - p) 0 ?_ (Nat.zero_le _) ?_
    · refine ⟨[(64, .blk 64 0), (76, .blk 76 0)], rfl, (by repeat (first | exact RO.zero | exact RO.e | refine RO.set rfl ?_)), ?_, (by repeat (first | exact RT.nil | (refine RT.cons ?_ ?_; · (first | exact Rn.any | exact Rn.x1 rfl rfl | exact Rn.x2 rfl rfl | exact Rn.x3 rfl rfl | exact Rn.x4 rfl rfl | exact Rn.x5 rfl | exact Rn.x6 rfl | exact Rn.x7 rfl | (refine Rn.slot ?_ ?_; (first | rfl | (rw [Int.natCast_add]; rfl)); (first | rfl | (simp only [noRef, noRefs, noRefs_append, Bool.and_self, Bool.and_true, Bool.true_and, noRefs_ints, noRefs_lsts, noRefs_pad, noRefs_tnC, noRefs_arcC, noRefs_rowF]; done))) | (refine Rn.fn ?_ ?_ <;> (repeat' (first | exact RnL.nil | refine RnL.cons ?_ ?_ | exact Rn.same rfl | exact Rn.x6 rfl | exact Rn.x2 rfl rfl | exact Rn.x5 rfl | exact Rn.x1 rfl rfl)))))))⟩
      refine RB.cells rfl rfl rfl ?_ (RB.cells rfl rfl rfl (RnL.eq (rowF_congr fun i _ => by simp) (noRefs_rowF _ _)) RB.nil)
      repeat' (first | exact RB.nil | (refine RnL.same ?_; first | rfl | (simp only [noRef, noRefs, noRefs_append, Bool.and_self, Bool.and_true, Bool.true_and, noRefs_ints, noRefs_lsts, noRefs_pad, noRefs_tnC, noRefs_arcC, noRefs_rowF]; done)) | exact RnM.keyM rfl | exact RnL.nil | refine RnL.cons ?_ ?_ | (refine Rn.same ?_; first | rfl | (simp only [noRef, noRefs, noRefs_append, Bool.and_self, Bool.and_true, Bool.true_and, noRefs_ints, noRefs_lsts, noRefs_pad, noRefs_tnC, noRefs_arcC, noRefs_rowF]; done)) | exact Rn.x1 rfl rfl | exact Rn.x2 rfl rfl | exact Rn.x3 rfl rfl | exact Rn.x4 rfl rfl | exact Rn.x5 rfl | exact Rn.x6 rfl | exact Rn.x7 rfl | refine RB.newnil rfl rfl ?_ | refine RB.cells rfl rfl rfl ?_ ?_ | refine RB.map rfl rfl rfl ?_ ?_ | refine RB.cellsB rfl rfl ?_ ?_ | refine RB.mapB rfl rfl ?_ ?_)
    intro p hpl
    by_cases hlt : p < x.ini.length
    · have hf0 := fun q => rowF_len x.ini.length (fun j => if j = p then q else if j < p then bndR x.ini l j else 0)
      have hf1 := rowF_len x.ini.length (fun j => if j < p then bndR x.ini l j else 0)
      have hle : p + 1 ≤ x.ini.length := hlt
      simp (maxSteps := 1000000) (disch := first | omega | (simp only [lenW] <;> omega)) only [hlt, rowF_set, rowF_len, hle, wordsN, Int.reduceGT, wordsR, ne_eq, words, Nat.reduceAdd, Nat.reduceEqDiff, Nat.reduceBEq, ↓reduceIte, reduceCtorEq, SX.exit.injEq, if_true, if_false, Int.reduceAdd, Int.reduceSub, Int.reduceMul, Int.reduceLT, Int.reduceLE, Int.reduceEq, Int.reduceNe, Int.reduceNeg, Int.reduceToNat, Nat.reduceMul, Nat.reduceLT, Nat.reduceSub, Nat.reduceLeDiff]
      refine wS_loopR 200 (fun i : Nat => [(1, lsts l), (2, .ptr 64 0 0), (7, .sl 76 0 0 x.ini.length 1), (23, .int .i64 x.ini.length), (24, .int .i64 p), (8, .int .i64 p), (30, lsts l), (31, .int .i64 l.length), (32, .int .i64 i)])
        (fun i => [(64, .cells 0 [sli x.ini, tns x.tr]), (76, .cells 0 (rowF x.ini.length fun q => if q = p then bndR x.ini (l.take i) p else if q < p then bndR x.ini l q else 0))]) (fun i => i ≤ l.length) (fun i => l.length - i) 0 ⟨[(64, .blk 64 0), (76, .blk 76 0)], rfl, (by repeat (first | exact RO.zero | exact RO.e | refine RO.set rfl ?_)), (by repeat' (first | exact RB.nil | (refine RnL.same ?_; first | rfl | (simp only [noRef, noRefs, noRefs_append, Bool.and_self, Bool.and_true, Bool.true_and, noRefs_ints, noRefs_lsts, noRefs_pad, noRefs_tnC, noRefs_arcC, noRefs_rowF]; done)) | exact RnM.keyM rfl | exact RnL.nil | refine RnL.cons ?_ ?_ | (refine Rn.same ?_; first | rfl | (simp only [noRef, noRefs, noRefs_append, Bool.and_self, Bool.and_true, Bool.true_and, noRefs_ints, noRefs_lsts, noRefs_pad, noRefs_tnC, noRefs_arcC, noRefs_rowF]; done)) | exact Rn.x1 rfl rfl | exact Rn.x2 rfl rfl | exact Rn.x3 rfl rfl | exact Rn.x4 rfl rfl | exact Rn.x5 rfl | exact Rn.x6 rfl | exact Rn.x7 rfl | refine RB.newnil rfl rfl ?_ | refine RB.cells rfl rfl rfl ?_ ?_ | refine RB.map rfl rfl rfl ?_ ?_ | refine RB.cellsB rfl rfl ?_ ?_ | refine RB.mapB rfl rfl ?_ ?_)), (by repeat (first | exact RT.nil | (refine RT.cons ?_ ?_; · (first | exact Rn.any | exact Rn.x1 rfl rfl | exact Rn.x2 rfl rfl | exact Rn.x3 rfl rfl | exact Rn.x4 rfl rfl | exact Rn.x5 rfl | exact Rn.x6 rfl | exact Rn.x7 rfl | (refine Rn.slot ?_ ?_; (first | rfl | (rw [Int.natCast_add]; rfl)); (first | rfl | (simp only [noRef, noRefs, noRefs_append, Bool.and_self, Bool.and_true, Bool.true_and, noRefs_ints, noRefs_lsts, noRefs_pad, noRefs_tnC, noRefs_arcC, noRefs_rowF]; done))) | (refine Rn.fn ?_ ?_ <;> (repeat' (first | exact RnL.nil | refine RnL.cons ?_ ?_ | exact Rn.same rfl | exact Rn.x6 rfl | exact Rn.x2 rfl rfl | exact Rn.x5 rfl | exact Rn.x1 rfl rfl)))))))⟩ (Nat.zero_le _) ?_
      intro i hi
      by_cases hil : i < l.length
      · obtain ⟨w, hw⟩ := get_ex hil
        obtain ⟨hwl, hwo⟩ := wErr_ok (hall w (List.mem_of_getElem? hw))
        obtain ⟨c, hcc⟩ := get_ex (l := w) (i := p) (by omega)
        have hcD : w.getD p 0 = c := by rw [List.getD_eq_getElem?_getD, hcc]; rfl
        have hco := hwo c (List.mem_of_getElem? hcc)
        have hplw : p < w.length := by omega
        have hg := rowF_get (n := x.ini.length) (fun q => if q = p then bndR x.ini (l.take i) p else if q < p then bndR x.ini l q else 0) hlt
        simp only [if_true] at hg
        have hst := bnd_take (ini := x.ini) (p := p) hw
        have hlen2 := rowF_len x.ini.length (fun q => if q = p then bndR x.ini (l.take i) p else if q < p then bndR x.ini l q else 0)
        unfold bStep at hst
        rw [hcD] at hst
        have fin : ∀ (T : Tmps) (h : Heap), lk T 1 = lsts l → lk T 2 = .ptr 64 0 0 → lk T 7 = .sl 76 0 0 x.ini.length 1 → lk T 23 = .int .i64 x.ini.length → lk T 24 = .int .i64 p → lk T 8 = .int .i64 p → lk T 30 = lsts l → lk T 31 = .int .i64 l.length → lk T 32 = .int .i64 (i + 1 : Nat) →
            h.get 64 = some (.cells 0 [sli x.ini, tns x.tr]) → (∃ f, h.get 76 = some (.cells 0 (rowF x.ini.length f)) ∧ ∀ q, q < x.ini.length → (if q = p then bndR x.ini (l.take (i + 1)) p else if q < p then bndR x.ini l q else 0) = f q) →
            ∃ i', l.length - i' < l.length - i ∧ i' ≤ l.length ∧ Rec 0 [(1, lsts l), (2, .ptr 64 0 0), (7, .sl 76 0 0 x.ini.length 1), (23, .int .i64 x.ini.length), (24, .int .i64 p), (8, .int .i64 p), (30, lsts l), (31, .int .i64 l.length), (32, .int .i64 (i' : Nat))]
              [(64, .cells 0 [sli x.ini, tns x.tr]), (76, .cells 0 (rowF x.ini.length fun q => if q = p then bndR x.ini (l.take i') p else if q < p then bndR x.ini l q else 0))] T h := by
          rintro T h t1 t2 t7 t23 t24 t8 t30 t31 t32 g64 ⟨f, g76, hf⟩
          refine ⟨i + 1, by omega, by omega, [(64, .blk 64 0), (76, .blk 76 0)], rfl, RO.zero, RB.cells rfl rfl g64 ?_ (RB.cells rfl rfl g76 (RnL.eq (rowF_congr hf) (noRefs_rowF _ _)) RB.nil), ?_⟩
          · repeat' (first | exact RB.nil | (refine RnL.same ?_; first | rfl | (simp only [noRef, noRefs, noRefs_append, Bool.and_self, Bool.and_true, Bool.true_and, noRefs_ints, noRefs_lsts, noRefs_pad, noRefs_tnC, noRefs_arcC, noRefs_rowF]; done)) | exact RnM.keyM rfl | exact RnL.nil | refine RnL.cons ?_ ?_ | (refine Rn.same ?_; first | rfl | (simp only [noRef, noRefs, noRefs_append, Bool.and_self, Bool.and_true, Bool.true_and, noRefs_ints, noRefs_lsts, noRefs_pad, noRefs_tnC, noRefs_arcC, noRefs_rowF]; done)) | exact Rn.x1 rfl rfl | exact Rn.x2 rfl rfl | exact Rn.x3 rfl rfl | exact Rn.x4 rfl rfl | exact Rn.x5 rfl | exact Rn.x6 rfl | exact Rn.x7 rfl | refine RB.newnil rfl rfl ?_ | refine RB.cells rfl rfl rfl ?_ ?_ | refine RB.map rfl rfl rfl ?_ ?_ | refine RB.cellsB rfl rfl ?_ ?_ | refine RB.mapB rfl rfl ?_ ?_)
          · refine RT.cons' t1 ?_ (RT.cons' t2 ?_ (RT.cons' t7 ?_ (RT.cons' t23 ?_ (RT.cons' t24 ?_ (RT.cons' t8 ?_ (RT.cons' t30 ?_ (RT.cons' t31 ?_ (RT.cons' t32 ?_ RT.nil)))))))) <;> repeat' (first | exact RB.nil | (refine RnL.same ?_; first | rfl | (simp only [noRef, noRefs, noRefs_append, Bool.and_self, Bool.and_true, Bool.true_and, noRefs_ints, noRefs_lsts, noRefs_pad, noRefs_tnC, noRefs_arcC, noRefs_rowF]; done)) | exact RnM.keyM rfl | exact RnL.nil | refine RnL.cons ?_ ?_ | (refine Rn.same ?_; first | rfl | (simp only [noRef, noRefs, noRefs_append, Bool.and_self, Bool.and_true, Bool.true_and, noRefs_ints, noRefs_lsts, noRefs_pad, noRefs_tnC, noRefs_arcC, noRefs_rowF]; done)) | exact Rn.x1 rfl rfl | exact Rn.x2 rfl rfl | exact Rn.x3 rfl rfl | exact Rn.x4 rfl rfl | exact Rn.x5 rfl | exact Rn.x6 rfl | exact Rn.x7 rfl | refine RB.newnil rfl rfl ?_ | refine RB.cells rfl rfl rfl ?_ ?_ | refine RB.map rfl rfl rfl ?_ ?_ | refine RB.cellsB rfl rfl ?_ ?_ | refine RB.mapB rfl rfl ?_ ?_)
        by_cases hc0 : c = 0
        · rw [if_pos hc0] at hst
          simp (maxSteps := 1000000) (disch := first | omega | (simp only [lenW] <;> omega)) only [hil, hlt, hplw, head_lsts hw, head_ints hcc, hc0, wordsN, Int.reduceGT, wordsR, ne_eq, words, Nat.reduceAdd, Nat.reduceEqDiff, Nat.reduceBEq, ↓reduceIte, reduceCtorEq, SX.exit.injEq, if_true, if_false, Int.reduceAdd, Int.reduceSub, Int.reduceMul, Int.reduceLT, Int.reduceLE, Int.reduceEq, Int.reduceNe, Int.reduceNeg, Int.reduceToNat, Nat.reduceMul, Nat.reduceLT, Nat.reduceSub, Nat.reduceLeDiff]
          refine fin _ _ rfl rfl rfl rfl rfl rfl rfl rfl rfl rfl ⟨_, rfl, fun q _ => ?_⟩
          rw [hst]
        · rw [if_neg hc0] at hst
          have hini : ∀ y ∈ x.ini, sm y := fun y hy => by have := ho.tokens y hy; unfold okT at this; unfold sm; omega
          have hws : ∀ y ∈ w, sm y := fun y hy => by have := hwo y hy; unfold okT at this; unfold sm; omega
          have hrb := rowSum_bound hws hini
          have hrn := rowSum_nonneg (a := w) (b := x.ini) (fun y hy => (hwo y hy).1) (fun y hy => (ho.tokens y hy).1)
          have hq1 := Int.tdiv_nonneg hrn hco.1
          have hq2 := Int.tdiv_le_self c hrn
          generalize hqq : (rowSum w x.ini).tdiv c = Q at hst hq1 hq2
          by_cases ho1 : bndR x.ini (l.take i) p < 0
          · rw [if_pos (.inl ho1)] at hst
            simp (maxSteps := 1000000) (disch := first | omega | (simp only [lenW] <;> omega)) only [hil, hlt, hplw, head_lsts hw, head_ints hcc, hc0, hg, wordsN, Int.reduceGT, wordsR, ne_eq, words, Nat.reduceAdd, Nat.reduceEqDiff, Nat.reduceBEq, ↓reduceIte, reduceCtorEq, SX.exit.injEq, if_true, if_false, Int.reduceAdd, Int.reduceSub, Int.reduceMul, Int.reduceLT, Int.reduceLE, Int.reduceEq, Int.reduceNe, Int.reduceNeg, Int.reduceToNat, Nat.reduceMul, Nat.reduceLT, Nat.reduceSub, Nat.reduceLeDiff]
            refine cp (valueP w x.ini (by omega) (by omega) hws hini) ?_
            simp (maxSteps := 1000000) (disch := first | omega | (simp only [lenW] <;> omega)) only [hil, hlt, hplw, head_lsts hw, head_ints hcc, hc0, hg, hqq, ho1, rowF_set, rowF_len, hle, wordsN, Int.reduceGT, wordsR, ne_eq, words, Nat.reduceAdd, Nat.reduceEqDiff, Nat.reduceBEq, ↓reduceIte, reduceCtorEq, SX.exit.injEq, if_true, if_false, Int.reduceAdd, Int.reduceSub, Int.reduceMul, Int.reduceLT, Int.reduceLE, Int.reduceEq, Int.reduceNe, Int.reduceNeg, Int.reduceToNat, Nat.reduceMul, Nat.reduceLT, Nat.reduceSub, Nat.reduceLeDiff]
            refine fin _ _ rfl rfl rfl rfl rfl rfl rfl rfl rfl rfl ⟨_, rfl, fun q _ => ?_⟩
            rw [hst]; by_cases e : q = p <;> simp [e]
          · by_cases ho2 : Q < bndR x.ini (l.take i) p
            · rw [if_pos (.inr ho2)] at hst
              simp (maxSteps := 1000000) (disch := first | omega | (simp only [lenW] <;> omega)) only [hil, hlt, hplw, head_lsts hw, head_ints hcc, hc0, hg, wordsN, Int.reduceGT, wordsR, ne_eq, words, Nat.reduceAdd, Nat.reduceEqDiff, Nat.reduceBEq, ↓reduceIte, reduceCtorEq, SX.exit.injEq, if_true, if_false, Int.reduceAdd, Int.reduceSub, Int.reduceMul, Int.reduceLT, Int.reduceLE, Int.reduceEq, Int.reduceNe, Int.reduceNeg, Int.reduceToNat, Nat.reduceMul, Nat.reduceLT, Nat.reduceSub, Nat.reduceLeDiff]
              refine cp (valueP w x.ini (by omega) (by omega) hws hini) ?_
              simp (maxSteps := 1000000) (disch := first | omega | (simp only [lenW] <;> omega)) only [hil, hlt, hplw, head_lsts hw, head_ints hcc, hc0, hg, hqq, ho1, ho2, rowF_set, rowF_len, hle, wordsN, Int.reduceGT, wordsR, ne_eq, words, Nat.reduceAdd, Nat.reduceEqDiff, Nat.reduceBEq, ↓reduceIte, reduceCtorEq, SX.exit.injEq, if_true, if_false, Int.reduceAdd, Int.reduceSub, Int.reduceMul, Int.reduceLT, Int.reduceLE, Int.reduceEq, Int.reduceNe, Int.reduceNeg, Int.reduceToNat, Nat.reduceMul, Nat.reduceLT, Nat.reduceSub, Nat.reduceLeDiff]
              refine fin _ _ rfl rfl rfl rfl rfl rfl rfl rfl rfl rfl ⟨_, rfl, fun q _ => ?_⟩
              rw [hst]; by_cases e : q = p <;> simp [e]
            · rw [if_neg (fun hh => hh.elim ho1 ho2)] at hst
              simp (maxSteps := 1000000) (disch := first | omega | (simp only [lenW] <;> omega)) only [hil, hlt, hplw, head_lsts hw, head_ints hcc, hc0, hg, wordsN, Int.reduceGT, wordsR, ne_eq, words, Nat.reduceAdd, Nat.reduceEqDiff, Nat.reduceBEq, ↓reduceIte, reduceCtorEq, SX.exit.injEq, if_true, if_false, Int.reduceAdd, Int.reduceSub, Int.reduceMul, Int.reduceLT, Int.reduceLE, Int.reduceEq, Int.reduceNe, Int.reduceNeg, Int.reduceToNat, Nat.reduceMul, Nat.reduceLT, Nat.reduceSub, Nat.reduceLeDiff]
              refine cp (valueP w x.ini (by omega) (by omega) hws hini) ?_
              simp (maxSteps := 1000000) (disch := first | omega | (simp only [lenW] <;> omega)) only [hil, hlt, hplw, head_lsts hw, head_ints hcc, hc0, hg, hqq, ho1, ho2, rowF_set, rowF_len, hle, wordsN, Int.reduceGT, wordsR, ne_eq, words, Nat.reduceAdd, Nat.reduceEqDiff, Nat.reduceBEq, ↓reduceIte, reduceCtorEq, SX.exit.injEq, if_true, if_false, Int.reduceAdd, Int.reduceSub, Int.reduceMul, Int.reduceLT, Int.reduceLE, Int.reduceEq, Int.reduceNe, Int.reduceNeg, Int.reduceToNat, Nat.reduceMul, Nat.reduceLT, Nat.reduceSub, Nat.reduceLeDiff]
              refine fin _ _ rfl rfl rfl rfl rfl rfl rfl rfl rfl rfl ⟨_, rfl, fun q _ => ?_⟩
              rw [hst]
      · have e : i = l.length := by omega
        simp (maxSteps := 1000000) (disch := first | omega | (simp only [lenW] <;> omega)) only [hil, wordsN, Int.reduceGT, wordsR, ne_eq, words, Nat.reduceAdd, Nat.reduceEqDiff, Nat.reduceBEq, ↓reduceIte, reduceCtorEq, SX.exit.injEq, if_true, if_false, Int.reduceAdd, Int.reduceSub, Int.reduceMul, Int.reduceLT, Int.reduceLE, Int.reduceEq, Int.reduceNe, Int.reduceNeg, Int.reduceToNat, Nat.reduceMul, Nat.reduceLT, Nat.reduceSub, Nat.reduceLeDiff]
        refine ⟨p + 1, by omega, by omega, ?_⟩
        refine ⟨[(64, .blk 64 0), (76, .blk 76 0)], rfl, (by repeat (first | exact RO.zero | exact RO.e | refine RO.set rfl ?_)), ?_, (by repeat (first | exact RT.nil | (refine RT.cons ?_ ?_; · (first | exact Rn.any | exact Rn.x1 rfl rfl | exact Rn.x2 rfl rfl | exact Rn.x3 rfl rfl | exact Rn.x4 rfl rfl | exact Rn.x5 rfl | exact Rn.x6 rfl | exact Rn.x7 rfl | (refine Rn.slot ?_ ?_; (first | rfl | (rw [Int.natCast_add]; rfl)); (first | rfl | (simp only [noRef, noRefs, noRefs_append, Bool.and_self, Bool.and_true, Bool.true_and, noRefs_ints, noRefs_lsts, noRefs_pad, noRefs_tnC, noRefs_arcC, noRefs_rowF]; done))) | (refine Rn.fn ?_ ?_ <;> (repeat' (first | exact RnL.nil | refine RnL.cons ?_ ?_ | exact Rn.same rfl | exact Rn.x6 rfl | exact Rn.x2 rfl rfl | exact Rn.x5 rfl | exact Rn.x1 rfl rfl)))))))⟩
        refine RB.cells rfl rfl rfl ?_ (RB.cells rfl rfl rfl (RnL.eq (rowF_congr fun q hq => ?_) (noRefs_rowF _ _)) RB.nil)
        · repeat' (first | exact RB.nil | (refine RnL.same ?_; first | rfl | (simp only [noRef, noRefs, noRefs_append, Bool.and_self, Bool.and_true, Bool.true_and, noRefs_ints, noRefs_lsts, noRefs_pad, noRefs_tnC, noRefs_arcC, noRefs_rowF]; done)) | exact RnM.keyM rfl | exact RnL.nil | refine RnL.cons ?_ ?_ | (refine Rn.same ?_; first | rfl | (simp only [noRef, noRefs, noRefs_append, Bool.and_self, Bool.and_true, Bool.true_and, noRefs_ints, noRefs_lsts, noRefs_pad, noRefs_tnC, noRefs_arcC, noRefs_rowF]; done)) | exact Rn.x1 rfl rfl | exact Rn.x2 rfl rfl | exact Rn.x3 rfl rfl | exact Rn.x4 rfl rfl | exact Rn.x5 rfl | exact Rn.x6 rfl | exact Rn.x7 rfl | refine RB.newnil rfl rfl ?_ | refine RB.cells rfl rfl rfl ?_ ?_ | refine RB.map rfl rfl rfl ?_ ?_ | refine RB.cellsB rfl rfl ?_ ?_ | refine RB.mapB rfl rfl ?_ ?_)
        · rw [e, List.take_length]
          by_cases c1 : q = p
          · subst c1; simp
          · by_cases c2 : q < p
            · have : q < p + 1 := by omega
              simp [c1, c2, this]
            · have : ¬ q < p + 1 := by omega
              simp [c1, c2, this]
    · have e : p = x.ini.length := by omega
      simp (maxSteps := 1000000) (disch := first | omega | (simp only [lenW] <;> omega)) only [hlt, wordsN, Int.reduceGT, wordsR, ne_eq, words, Nat.reduceAdd, Nat.reduceEqDiff, Nat.reduceBEq, ↓reduceIte, reduceCtorEq, SX.exit.injEq, if_true, if_false, Int.reduceAdd, Int.reduceSub, Int.reduceMul, Int.reduceLT, Int.reduceLE, Int.reduceEq, Int.reduceNe, Int.reduceNeg, Int.reduceToNat, Nat.reduceMul, Nat.reduceLT, Nat.reduceSub, Nat.reduceLeDiff]
      refine ⟨.inr trivial, _, rfl, Rn.tup (RnL.cons ?_ (RnL.cons (Rn.same rfl) RnL.nil))⟩
      have hbl : x.ini.length = (bndL x l).length := by simp [bndL]
      refine (show ∀ k, k = (bndL x l).length → Rn 0 π0 _ (sli (bndL x l)) (.sl 76 0 0 k 1) from ?_) _ hbl
      rintro k rfl
      refine Rn.fz0 rfl (by rw [rowF_len, ← hbl]; omega) (RnL.eq ?_ (noRefs_ints _))
      unfold bndL
      exact rowF_congr fun q hq => by rw [if_pos (by omega)]
  · simp (maxSteps := 1000000) (disch := first | omega | (simp only [lenW] <;> omega)) only [h0, wordsN, Int.reduceGT, wordsR, ne_eq, words, Nat.reduceAdd, Nat.reduceEqDiff, Nat.reduceBEq, ↓reduceIte, reduceCtorEq, SX.exit.injEq, if_true, if_false, Int.reduceAdd, Int.reduceSub, Int.reduceMul, Int.reduceLT, Int.reduceLE, Int.reduceEq, Int.reduceNe, Int.reduceNeg, Int.reduceToNat, Nat.reduceMul, Nat.reduceLT, Nat.reduceSub, Nat.reduceLeDiff]
    exact ⟨.inr trivial, _, rfl, Rn.same rfl⟩
def exP (x : Nt) (m w : List Int) : Bool := !decide (rowSum w m = rowSum w x.ini)
def exV (x : Nt) (l : List (List Int)) (m : List Int) : AV :=
  if chkR x l = 0 then (if wErr m x.ini.length = 0 then (if l.any (exP x m) = true then .tup [.int .i64 (firstAt (exP x m) l), .bool true, .int .i64 0] else .tup [.int .i64 0, .bool false, .int .i64 0]) else .tup [.int .i64 0, .bool false, .int .i64 (wErr m x.ini.length)])
  else .tup [.int .i64 0, .bool false, .int .i64 (chkR x l)]
theorem noRef_exV (x : Nt) (l : List (List Int)) (m : List Int) : noRef (exV x l m) = true := by
  unfold exV; split <;> (try split) <;> (try split) <;> rfl
set_option maxHeartbeats 8000000 in
theorem excludes (x : Nt) (ho : NetOk x) (l : List (List Int)) (m : List Int) (hl : l.length ≤ 1000) (hll : ∀ w ∈ l, w.length ≤ 1000) (hm : m.length ≤ 1000) :
    PSpec Try.prog 24 [netV x, lsts l, sli m] (exV x l m) := by
  refine PSpec.of_rn 64 ok24 rfl (by (try simp only [noRefs, noRef_net, noRef_sli, noRef_lsts, noRef_arcs, noRef_tns]) <;> rfl) (noRef_exV x l m) ?_
  have hp := ho.places
  unfold exV
  simp (maxSteps := 1000000) (disch := first | omega | (simp only [lenW] <;> omega)) only [s24, wordsN, Int.reduceGT, wordsR, ne_eq, words, Nat.reduceAdd, Nat.reduceEqDiff, Nat.reduceBEq, ↓reduceIte, reduceCtorEq, SX.exit.injEq, if_true, if_false, Int.reduceAdd, Int.reduceSub, Int.reduceMul, Int.reduceLT, Int.reduceLE, Int.reduceEq, Int.reduceNe, Int.reduceNeg, Int.reduceToNat, Nat.reduceMul, Nat.reduceLT, Nat.reduceSub, Nat.reduceLeDiff]
  refine cp (chk x ho l hl hll) ?_
  by_cases h0 : chkR x l = 0
  · have hall := chkR_all h0
    simp (maxSteps := 1000000) (disch := first | omega | (simp only [lenW] <;> omega)) only [h0, wordsN, Int.reduceGT, wordsR, ne_eq, words, Nat.reduceAdd, Nat.reduceEqDiff, Nat.reduceBEq, ↓reduceIte, reduceCtorEq, SX.exit.injEq, if_true, if_false, Int.reduceAdd, Int.reduceSub, Int.reduceMul, Int.reduceLT, Int.reduceLE, Int.reduceEq, Int.reduceNe, Int.reduceNeg, Int.reduceToNat, Nat.reduceMul, Nat.reduceLT, Nat.reduceSub, Nat.reduceLeDiff]
    refine cp (weighG m x.ini.length (by omega) (by omega)) ?_
    by_cases h1 : wErr m x.ini.length = 0
    · obtain ⟨hml, hmo⟩ := wErr_ok h1
      simp (maxSteps := 1000000) (disch := first | omega | (simp only [lenW] <;> omega)) only [h1, wordsN, Int.reduceGT, wordsR, ne_eq, words, Nat.reduceAdd, Nat.reduceEqDiff, Nat.reduceBEq, ↓reduceIte, reduceCtorEq, SX.exit.injEq, if_true, if_false, Int.reduceAdd, Int.reduceSub, Int.reduceMul, Int.reduceLT, Int.reduceLE, Int.reduceEq, Int.reduceNe, Int.reduceNeg, Int.reduceToNat, Nat.reduceMul, Nat.reduceLT, Nat.reduceSub, Nat.reduceLeDiff]
      refine wS_loopR 100 (fun i : Nat => [(2, sli m), (3, .ptr 64 0 0), (27, lsts l), (28, .int .i64 l.length), (29, .int .i64 i)])
        (fun _ => [(64, .cells 0 [sli x.ini, tns x.tr])]) (fun i => i ≤ l.length ∧ ∀ j y, j < i → l[j]? = some y → exP x m y = false) (fun i => l.length - i) 0 ⟨[(64, .blk 64 0)], rfl, (by repeat (first | exact RO.zero | exact RO.e | refine RO.set rfl ?_)), (by repeat' (first | exact RB.nil | (refine RnL.same ?_; first | rfl | (simp only [noRef, noRefs, noRefs_append, Bool.and_self, Bool.and_true, Bool.true_and, noRefs_ints, noRefs_lsts, noRefs_pad, noRefs_tnC, noRefs_arcC, noRefs_rowF]; done)) | exact RnM.keyM rfl | exact RnL.nil | refine RnL.cons ?_ ?_ | (refine Rn.same ?_; first | rfl | (simp only [noRef, noRefs, noRefs_append, Bool.and_self, Bool.and_true, Bool.true_and, noRefs_ints, noRefs_lsts, noRefs_pad, noRefs_tnC, noRefs_arcC, noRefs_rowF]; done)) | exact Rn.x1 rfl rfl | exact Rn.x2 rfl rfl | exact Rn.x3 rfl rfl | exact Rn.x4 rfl rfl | exact Rn.x5 rfl | exact Rn.x6 rfl | exact Rn.x7 rfl | refine RB.newnil rfl rfl ?_ | refine RB.cells rfl rfl rfl ?_ ?_ | refine RB.map rfl rfl rfl ?_ ?_ | refine RB.cellsB rfl rfl ?_ ?_ | refine RB.mapB rfl rfl ?_ ?_)), (by repeat (first | exact RT.nil | (refine RT.cons ?_ ?_; · (first | exact Rn.any | exact Rn.x1 rfl rfl | exact Rn.x2 rfl rfl | exact Rn.x3 rfl rfl | exact Rn.x4 rfl rfl | exact Rn.x5 rfl | exact Rn.x6 rfl | exact Rn.x7 rfl | (refine Rn.slot ?_ ?_; (first | rfl | (rw [Int.natCast_add]; rfl)); (first | rfl | (simp only [noRef, noRefs, noRefs_append, Bool.and_self, Bool.and_true, Bool.true_and, noRefs_ints, noRefs_lsts, noRefs_pad, noRefs_tnC, noRefs_arcC, noRefs_rowF]; done))) | (refine Rn.fn ?_ ?_ <;> (repeat' (first | exact RnL.nil | refine RnL.cons ?_ ?_ | exact Rn.same rfl | exact Rn.x6 rfl | exact Rn.x2 rfl rfl | exact Rn.x5 rfl | exact Rn.x1 rfl rfl)))))))⟩ ⟨Nat.zero_le _, fun j y hj => absurd hj (Nat.not_lt_zero _)⟩ ?_
      rintro i ⟨hi, hb⟩
      by_cases hil : i < l.length
      · obtain ⟨w, hw⟩ := get_ex hil
        obtain ⟨hwl, hwo⟩ := wErr_ok (hall w (List.mem_of_getElem? hw))
        have hini : ∀ y ∈ x.ini, sm y := fun y hy => by have := ho.tokens y hy; unfold okT at this; unfold sm; omega
        have hws : ∀ y ∈ w, sm y := fun y hy => by have := hwo y hy; unfold okT at this; unfold sm; omega
        have hms : ∀ y ∈ m, sm y := fun y hy => by have := hmo y hy; unfold okT at this; unfold sm; omega
        simp (maxSteps := 1000000) (disch := first | omega | (simp only [lenW] <;> omega)) only [hil, head_lsts hw, wordsN, Int.reduceGT, wordsR, ne_eq, words, Nat.reduceAdd, Nat.reduceEqDiff, Nat.reduceBEq, ↓reduceIte, reduceCtorEq, SX.exit.injEq, if_true, if_false, Int.reduceAdd, Int.reduceSub, Int.reduceMul, Int.reduceLT, Int.reduceLE, Int.reduceEq, Int.reduceNe, Int.reduceNeg, Int.reduceToNat, Nat.reduceMul, Nat.reduceLT, Nat.reduceSub, Nat.reduceLeDiff]
        refine cp (valueP w m (by omega) (by omega) hws hms) ?_
        simp (maxSteps := 1000000) (disch := first | omega | (simp only [lenW] <;> omega)) only [wordsN, Int.reduceGT, wordsR, ne_eq, words, Nat.reduceAdd, Nat.reduceEqDiff, Nat.reduceBEq, ↓reduceIte, reduceCtorEq, SX.exit.injEq, if_true, if_false, Int.reduceAdd, Int.reduceSub, Int.reduceMul, Int.reduceLT, Int.reduceLE, Int.reduceEq, Int.reduceNe, Int.reduceNeg, Int.reduceToNat, Nat.reduceMul, Nat.reduceLT, Nat.reduceSub, Nat.reduceLeDiff]
        refine cp (valueP w x.ini (by omega) (by omega) hws hini) ?_
        by_cases hv : rowSum w m = rowSum w x.ini
        · simp (maxSteps := 1000000) (disch := first | omega | (simp only [lenW] <;> omega)) only [hv, wordsN, Int.reduceGT, wordsR, ne_eq, words, Nat.reduceAdd, Nat.reduceEqDiff, Nat.reduceBEq, ↓reduceIte, reduceCtorEq, SX.exit.injEq, if_true, if_false, Int.reduceAdd, Int.reduceSub, Int.reduceMul, Int.reduceLT, Int.reduceLE, Int.reduceEq, Int.reduceNe, Int.reduceNeg, Int.reduceToNat, Nat.reduceMul, Nat.reduceLT, Nat.reduceSub, Nat.reduceLeDiff]
          refine ⟨i + 1, by omega, ⟨by omega, fun j y hj hy => ?_⟩, ⟨[(64, .blk 64 0)], rfl, (by repeat (first | exact RO.zero | exact RO.e | refine RO.set rfl ?_)), (by repeat' (first | exact RB.nil | (refine RnL.same ?_; first | rfl | (simp only [noRef, noRefs, noRefs_append, Bool.and_self, Bool.and_true, Bool.true_and, noRefs_ints, noRefs_lsts, noRefs_pad, noRefs_tnC, noRefs_arcC, noRefs_rowF]; done)) | exact RnM.keyM rfl | exact RnL.nil | refine RnL.cons ?_ ?_ | (refine Rn.same ?_; first | rfl | (simp only [noRef, noRefs, noRefs_append, Bool.and_self, Bool.and_true, Bool.true_and, noRefs_ints, noRefs_lsts, noRefs_pad, noRefs_tnC, noRefs_arcC, noRefs_rowF]; done)) | exact Rn.x1 rfl rfl | exact Rn.x2 rfl rfl | exact Rn.x3 rfl rfl | exact Rn.x4 rfl rfl | exact Rn.x5 rfl | exact Rn.x6 rfl | exact Rn.x7 rfl | refine RB.newnil rfl rfl ?_ | refine RB.cells rfl rfl rfl ?_ ?_ | refine RB.map rfl rfl rfl ?_ ?_ | refine RB.cellsB rfl rfl ?_ ?_ | refine RB.mapB rfl rfl ?_ ?_)), (by repeat (first | exact RT.nil | (refine RT.cons ?_ ?_; · (first | exact Rn.any | exact Rn.x1 rfl rfl | exact Rn.x2 rfl rfl | exact Rn.x3 rfl rfl | exact Rn.x4 rfl rfl | exact Rn.x5 rfl | exact Rn.x6 rfl | exact Rn.x7 rfl | (refine Rn.slot ?_ ?_; (first | rfl | (rw [Int.natCast_add]; rfl)); (first | rfl | (simp only [noRef, noRefs, noRefs_append, Bool.and_self, Bool.and_true, Bool.true_and, noRefs_ints, noRefs_lsts, noRefs_pad, noRefs_tnC, noRefs_arcC, noRefs_rowF]; done))) | (refine Rn.fn ?_ ?_ <;> (repeat' (first | exact RnL.nil | refine RnL.cons ?_ ?_ | exact Rn.same rfl | exact Rn.x6 rfl | exact Rn.x2 rfl rfl | exact Rn.x5 rfl | exact Rn.x1 rfl rfl)))))))⟩⟩
          by_cases e : j = i
          · subst e; rw [hw] at hy; cases hy; simp [exP, hv]
          · exact hb j y (by omega) hy
        · simp (maxSteps := 1000000) (disch := first | omega | (simp only [lenW] <;> omega)) only [hv, wordsN, Int.reduceGT, wordsR, ne_eq, words, Nat.reduceAdd, Nat.reduceEqDiff, Nat.reduceBEq, ↓reduceIte, reduceCtorEq, SX.exit.injEq, if_true, if_false, Int.reduceAdd, Int.reduceSub, Int.reduceMul, Int.reduceLT, Int.reduceLE, Int.reduceEq, Int.reduceNe, Int.reduceNeg, Int.reduceToNat, Nat.reduceMul, Nat.reduceLT, Nat.reduceSub, Nat.reduceLeDiff]
          have hpw : exP x m w = true := by simp [exP, hv]
          refine ⟨.inr trivial, _, rfl, ?_⟩
          rw [if_pos (any_of hw hpw), firstAt_found hw hpw hb]
          exact Rn.same rfl
      · simp (maxSteps := 1000000) (disch := first | omega | (simp only [lenW] <;> omega)) only [hil, wordsN, Int.reduceGT, wordsR, ne_eq, words, Nat.reduceAdd, Nat.reduceEqDiff, Nat.reduceBEq, ↓reduceIte, reduceCtorEq, SX.exit.injEq, if_true, if_false, Int.reduceAdd, Int.reduceSub, Int.reduceMul, Int.reduceLT, Int.reduceLE, Int.reduceEq, Int.reduceNe, Int.reduceNeg, Int.reduceToNat, Nat.reduceMul, Nat.reduceLT, Nat.reduceSub, Nat.reduceLeDiff]
        refine ⟨.inr trivial, _, rfl, ?_⟩
        rw [any_no fun j y hj hy => hb j y (by omega) hy]
        exact Rn.same rfl
    · simp (maxSteps := 1000000) (disch := first | omega | (simp only [lenW] <;> omega)) only [h1, wordsN, Int.reduceGT, wordsR, ne_eq, words, Nat.reduceAdd, Nat.reduceEqDiff, Nat.reduceBEq, ↓reduceIte, reduceCtorEq, SX.exit.injEq, if_true, if_false, Int.reduceAdd, Int.reduceSub, Int.reduceMul, Int.reduceLT, Int.reduceLE, Int.reduceEq, Int.reduceNe, Int.reduceNeg, Int.reduceToNat, Nat.reduceMul, Nat.reduceLT, Nat.reduceSub, Nat.reduceLeDiff]
      exact ⟨.inr trivial, _, rfl, Rn.same rfl⟩
  · simp (maxSteps := 1000000) (disch := first | omega | (simp only [lenW] <;> omega)) only [h0, wordsN, Int.reduceGT, wordsR, ne_eq, words, Nat.reduceAdd, Nat.reduceEqDiff, Nat.reduceBEq, ↓reduceIte, reduceCtorEq, SX.exit.injEq, if_true, if_false, Int.reduceAdd, Int.reduceSub, Int.reduceMul, Int.reduceLT, Int.reduceLE, Int.reduceEq, Int.reduceNe, Int.reduceNeg, Int.reduceToNat, Nat.reduceMul, Nat.reduceLT, Nat.reduceSub, Nat.reduceLeDiff]
    exact ⟨.inr trivial, _, rfl, Rn.same rfl⟩
end Go.AM.SN
namespace Go.AM.SN
open Go.Proofs
set_option maxRecDepth 100000
set_option linter.unusedSimpArgs false
set_option linter.unusedVariables false
theorem sli_in {d : (Ty.sl (.int .i64)).D} (h : (Ty.sl (.int .i64)).wf d) : ∃ l : List Int, l.length ≤ 9223372036854775807 ∧ (Ty.sl (.int .i64)).val d = sli l := by
  refine ⟨d, h.1, ?_⟩
  have : ∀ l : List Int, l.flatMap (Ty.cells (.int .i64)) = ints l := by
    intro l
    induction l with
    | nil => rfl
    | cons x l ih => rw [List.flatMap_cons, ih]; rfl
  show AV.fsl (List.flatMap (Ty.cells (.int .i64)) d) (List.length d) 1 = _
  rw [this]
end Go.AM.SN
namespace Go.AM.SN
open Go.Proofs Go.AM.SK
set_option maxRecDepth 100000
set_option linter.unusedSimpArgs false
set_option linter.unusedVariables false
theorem magnitude (a : Int) (h1 : -4611686018427387904 ≤ a) (h2 : a ≤ 4611686018427387904) : PSpec Try.prog 74 [.int .i64 a] (.int .u64 a.natAbs) := by
  refine PSpec.of_flat 64 SK.ok74 rfl rfl rfl ?_
  by_cases h : a < 0
  · simp (maxSteps := 1000000) (disch := first | omega | (simp only [lenW] <;> omega)) only [SK.s74, h, wordsN, Int.reduceGT, wordsR, ne_eq, words, Nat.reduceAdd, Nat.reduceEqDiff, Nat.reduceBEq, ↓reduceIte, reduceCtorEq, SX.exit.injEq, if_true, if_false, Int.reduceAdd, Int.reduceSub, Int.reduceMul, Int.reduceLT, Int.reduceLE, Int.reduceEq, Int.reduceNe, Int.reduceNeg, Int.reduceToNat, Nat.reduceMul, Nat.reduceLT, Nat.reduceSub, Nat.reduceLeDiff]
    refine ⟨.inr trivial, _, rfl, ?_⟩
    have : (0 - a) = (a.natAbs : Int) := by omega
    simp only [resOf, lk_cons, this]; rfl
  · simp (maxSteps := 1000000) (disch := first | omega | (simp only [lenW] <;> omega)) only [SK.s74, h, wordsN, Int.reduceGT, wordsR, ne_eq, words, Nat.reduceAdd, Nat.reduceEqDiff, Nat.reduceBEq, ↓reduceIte, reduceCtorEq, SX.exit.injEq, if_true, if_false, Int.reduceAdd, Int.reduceSub, Int.reduceMul, Int.reduceLT, Int.reduceLE, Int.reduceEq, Int.reduceNe, Int.reduceNeg, Int.reduceToNat, Nat.reduceMul, Nat.reduceLT, Nat.reduceSub, Nat.reduceLeDiff]
    refine ⟨.inr trivial, _, rfl, ?_⟩
    have : a = (a.natAbs : Int) := by omega
    show AV.int .u64 a = _
    rw [← this]
theorem and32 {x : Nat} (h : x < 4294967296) : aBin .and (.int .u64 (x : Int)) (.int .u64 4294967295) = some (.int .u64 (x : Int)) := by
  have e : (BitVec.ofInt 64 (x : Int) &&& BitVec.ofInt 64 4294967295).toNat = x := by
    have h1 : BitVec.ofInt 64 (x : Int) = BitVec.ofNat 64 x := by simp
    rw [h1, show BitVec.ofInt 64 4294967295 = BitVec.ofNat 64 (2 ^ 32 - 1) by decide, BitVec.toNat_and, BitVec.toNat_ofNat, BitVec.toNat_ofNat, Nat.mod_eq_of_lt (by omega), Nat.mod_eq_of_lt (by decide), Nat.and_two_pow_sub_one_eq_mod]
    omega
  have e2 : aBin .and (.int .u64 (x : Int)) (.int .u64 4294967295) = some (.int .u64 (wr .u64 ((BitVec.ofInt 64 (x : Int) &&& BitVec.ofInt 64 4294967295).toNat : Int))) := rfl
  rw [e2, e, wr_u64 (by omega) (by omega)]
theorem shr32 (x : Nat) : aBin .shr (.int .u64 (x : Int)) (.int .u64 32) = some (.int .u64 ((x / 4294967296 : Nat) : Int)) := by
  simp only [aBin]
  rw [if_neg (by decide)]
  have : (x : Int).fdiv (2 ^ (min (Int.toNat 32) (IntKind.u64).bits)) = ((x / 4294967296 : Nat) : Int) := by
    have e : (2 : Int) ^ (min (Int.toNat 32) (IntKind.u64).bits) = ((4294967296 : Nat) : Int) := by decide
    rw [e, Int.fdiv_eq_ediv_of_nonneg _ (by omega)]; rfl
  rw [this]
theorem td_nat (a b : Nat) : (a : Int).tdiv (b : Int) = ((a / b : Nat) : Int) := rfl
theorem tm_nat (a b : Nat) : (a : Int).tmod (b : Int) = ((a % b : Nat) : Int) := rfl
theorem mul64 (x y : Nat) (hx : x < 2147483648) (hy : y < 2147483648) : PSpec Try.prog 81 [.int .u64 x, .int .u64 y] (.tup [.int .u64 0, .int .u64 (x * y : Nat)]) := by
  refine PSpec.of_flat 64 SK.ok81 rfl rfl rfl ?_
  have hb : x * y < 4611686018427387904 := Nat.lt_of_lt_of_le (Nat.mul_lt_mul'' hx hy) (by decide)
  have h1 : x / 4294967296 = 0 := Nat.div_eq_of_lt (by omega)
  have h2 : y / 4294967296 = 0 := Nat.div_eq_of_lt (by omega)
  have h3 : x * y / 4294967296 < 4294967296 := by omega
  have h4 : x * y / 4294967296 / 4294967296 = 0 := by omega
  have h5 : ((x : Int) * (y : Int)) = ((x * y : Nat) : Int) := by simp
  simp (maxSteps := 1000000) (disch := first | omega | (simp only [lenW] <;> omega)) only [SK.s81, and32, shr32, h1, h2, h5, Int.mul_zero, Int.zero_mul, Int.zero_add, Int.add_zero, h4, wordsN, Int.reduceGT, wordsR, ne_eq, words, Nat.reduceAdd, Nat.reduceEqDiff, Nat.reduceBEq, ↓reduceIte, reduceCtorEq, SX.exit.injEq, if_true, if_false, Int.reduceAdd, Int.reduceSub, Int.reduceMul, Int.reduceLT, Int.reduceLE, Int.reduceEq, Int.reduceNe, Int.reduceNeg, Int.reduceToNat, Nat.reduceMul, Nat.reduceLT, Nat.reduceSub, Nat.reduceLeDiff]
  exact ⟨.inr trivial, _, rfl, rfl⟩
theorem div64 (x y : Nat) (hx : x < 18446744073709551616) (hy : 0 < y) (hyl : y < 18446744073709551616) : PSpec Try.prog 80 [.int .u64 0, .int .u64 x, .int .u64 y] (.tup [.int .u64 (x / y : Nat), .int .u64 (x % y : Nat)]) := by
  refine PSpec.of_flat 64 SK.ok80 rfl rfl rfl ?_
  have h1 : ¬ (y : Int) = 0 := by omega
  have h2 : ¬ (y : Int) ≤ 0 := by omega
  have h3 : x / y ≤ x := Nat.div_le_self x y
  have h4 : wr .u64 ((x / y : Nat) : Int) = ((x / y : Nat) : Int) := by
    generalize x / y = q at h3
    exact wr_u64 (by omega) (by omega)
  simp (maxSteps := 1000000) (disch := first | omega | (simp only [lenW] <;> omega)) only [SK.s80, h1, h2, td_nat, tm_nat, h4, wordsN, Int.reduceGT, wordsR, ne_eq, words, Nat.reduceAdd, Nat.reduceEqDiff, Nat.reduceBEq, ↓reduceIte, reduceCtorEq, SX.exit.injEq, if_true, if_false, Int.reduceAdd, Int.reduceSub, Int.reduceMul, Int.reduceLT, Int.reduceLE, Int.reduceEq, Int.reduceNe, Int.reduceNeg, Int.reduceToNat, Nat.reduceMul, Nat.reduceLT, Nat.reduceSub, Nat.reduceLeDiff]
  exact ⟨.inr trivial, _, rfl, rfl⟩
theorem natAbs_lt {a : Int} (h1 : -2147483648 < a) (h2 : a < 2147483648) : a.natAbs < 2147483648 := by omega
theorem product (a b : Int) (ha1 : -2147483648 < a) (ha2 : a < 2147483648) (hb1 : -2147483648 < b) (hb2 : b < 2147483648) :
    PSpec Try.prog 77 [.int .i64 a, .int .i64 b] (.tup [.bool (decide (a < 0) != decide (b < 0)), .int .u64 0, .int .u64 (a.natAbs * b.natAbs : Nat)]) := by
  refine PSpec.of_flat 64 SK.ok77 rfl rfl rfl ?_
  simp (maxSteps := 1000000) (disch := first | omega | (simp only [lenW] <;> omega)) only [SK.s77, wordsN, Int.reduceGT, wordsR, ne_eq, words, Nat.reduceAdd, Nat.reduceEqDiff, Nat.reduceBEq, ↓reduceIte, reduceCtorEq, SX.exit.injEq, if_true, if_false, Int.reduceAdd, Int.reduceSub, Int.reduceMul, Int.reduceLT, Int.reduceLE, Int.reduceEq, Int.reduceNe, Int.reduceNeg, Int.reduceToNat, Nat.reduceMul, Nat.reduceLT, Nat.reduceSub, Nat.reduceLeDiff]
  refine cp (magnitude a (by omega) (by omega)) ?_
  simp (maxSteps := 1000000) (disch := first | omega | (simp only [lenW] <;> omega)) only [wordsN, Int.reduceGT, wordsR, ne_eq, words, Nat.reduceAdd, Nat.reduceEqDiff, Nat.reduceBEq, ↓reduceIte, reduceCtorEq, SX.exit.injEq, if_true, if_false, Int.reduceAdd, Int.reduceSub, Int.reduceMul, Int.reduceLT, Int.reduceLE, Int.reduceEq, Int.reduceNe, Int.reduceNeg, Int.reduceToNat, Nat.reduceMul, Nat.reduceLT, Nat.reduceSub, Nat.reduceLeDiff]
  refine cp (magnitude b (by omega) (by omega)) ?_
  simp (maxSteps := 1000000) (disch := first | omega | (simp only [lenW] <;> omega)) only [wordsN, Int.reduceGT, wordsR, ne_eq, words, Nat.reduceAdd, Nat.reduceEqDiff, Nat.reduceBEq, ↓reduceIte, reduceCtorEq, SX.exit.injEq, if_true, if_false, Int.reduceAdd, Int.reduceSub, Int.reduceMul, Int.reduceLT, Int.reduceLE, Int.reduceEq, Int.reduceNe, Int.reduceNeg, Int.reduceToNat, Nat.reduceMul, Nat.reduceLT, Nat.reduceSub, Nat.reduceLeDiff]
  refine cp (mul64 a.natAbs b.natAbs (natAbs_lt ha1 ha2) (natAbs_lt hb1 hb2)) ?_
  simp (maxSteps := 1000000) (disch := first | omega | (simp only [lenW] <;> omega)) only [aEq_bool, wordsN, Int.reduceGT, wordsR, ne_eq, words, Nat.reduceAdd, Nat.reduceEqDiff, Nat.reduceBEq, ↓reduceIte, reduceCtorEq, SX.exit.injEq, if_true, if_false, Int.reduceAdd, Int.reduceSub, Int.reduceMul, Int.reduceLT, Int.reduceLE, Int.reduceEq, Int.reduceNe, Int.reduceNeg, Int.reduceToNat, Nat.reduceMul, Nat.reduceLT, Nat.reduceSub, Nat.reduceLeDiff]
  refine ⟨.inr trivial, _, rfl, ?_⟩
  simp only [resOf, lk_cons]
  cases decide (a < 0) <;> cases decide (b < 0) <;> rfl
def sg (n : Bool) (m : Nat) : Int := if n = true then -(m : Int) else m
theorem sg_natAbs (a : Int) : sg (decide (a < 0)) a.natAbs = a := by unfold sg; split <;> rename_i h <;> simp at h <;> omega
theorem sg_mul (x y : Bool) (m n : Nat) : sg x m * sg y n = sg (x != y) (m * n) := by
  cases x <;> cases y <;> simp [sg, Int.neg_mul, Int.mul_neg]
theorem sg_tdiv (x y : Bool) (m n : Nat) : (sg x m).tdiv (sg y n) = sg (x != y) (m / n) := by
  cases x <;> cases y <;> simp [sg, Int.neg_tdiv, Int.tdiv_neg] <;> rfl
theorem mul_sg (a b : Int) : a * b = sg (decide (a < 0) != decide (b < 0)) (a.natAbs * b.natAbs) := by
  rw [← sg_mul, sg_natAbs, sg_natAbs]
theorem tdiv_sg (x : Bool) (m : Nat) (b : Int) : (sg x m).tdiv b = sg (x != decide (b < 0)) (m / b.natAbs) := by
  rw [← sg_tdiv, sg_natAbs]
theorem bne_tt : (true != true) = false := rfl
theorem bne_ff : (false != false) = false := rfl
theorem bne_tf : (true != false) = true := rfl
theorem bne_ft : (false != true) = true := rfl
theorem ext_add (x y : Nat) (h : x + y < 18446744073709551616) : aExt 0 [.int .u64 (x : Int), .int .u64 (y : Int), .int .u64 0] = some (.tup [.int .u64 ((x + y : Nat) : Int), .int .u64 0]) := by
  simp only [aExt]
  rw [if_pos (by omega)]
  have h1 : ((x : Int) + y + 0) % 18446744073709551616 = ((x + y : Nat) : Int) := by omega
  have h2 : ((x : Int) + y + 0) / 18446744073709551616 = 0 := by omega
  rw [h1, h2]
theorem ext_add0 : aExt 0 [.int .u64 0, .int .u64 0, .int .u64 0] = some (.tup [.int .u64 0, .int .u64 0]) := rfl
theorem ext_sub (x y : Nat) (h : y ≤ x) (hx : x < 18446744073709551616) : aExt 1 [.int .u64 (x : Int), .int .u64 (y : Int), .int .u64 0] = some (.tup [.int .u64 ((x - y : Nat) : Int), .int .u64 0]) := by
  simp only [aExt]
  rw [if_pos (by omega), if_neg (by omega)]
  have h1 : ((x : Int) + 18446744073709551616 - y - 0) % 18446744073709551616 = ((x - y : Nat) : Int) := by omega
  rw [h1]
theorem ext_sub0 : aExt 1 [.int .u64 0, .int .u64 0, .int .u64 0] = some (.tup [.int .u64 0, .int .u64 0]) := rfl
set_option maxHeartbeats 4000000 in
theorem cross (a b c d e : Int) (ha1 : -2147483648 < a) (ha2 : a < 2147483648) (hb1 : -2147483648 < b) (hb2 : b < 2147483648) (hc1 : -2147483648 < c) (hc2 : c < 2147483648) (hd1 : -2147483648 < d) (hd2 : d < 2147483648)
    (he : e ≠ 0) (he1 : -4611686018427387904 ≤ e) (he2 : e ≤ 4611686018427387904) :
    PSpec Try.prog 72 [.int .i64 a, .int .i64 b, .int .i64 c, .int .i64 d, .int .i64 e] (.int .i64 ((a * b - c * d).tdiv e)) := by
  refine PSpec.of_flat 64 SK.ok72 rfl rfl rfl ?_
  have hM : a.natAbs * b.natAbs < 4611686018427387904 := Nat.lt_of_lt_of_le (Nat.mul_lt_mul'' (natAbs_lt ha1 ha2) (natAbs_lt hb1 hb2)) (by decide)
  have hL : c.natAbs * d.natAbs < 4611686018427387904 := Nat.lt_of_lt_of_le (Nat.mul_lt_mul'' (natAbs_lt hc1 hc2) (natAbs_lt hd1 hd2)) (by decide)
  rw [mul_sg a b, mul_sg c d]
  have hpa := product a b ha1 ha2 hb1 hb2
  have hpc := product c d hc1 hc2 hd1 hd2
  have hme := magnitude e he1 he2
  generalize (decide (a < 0) != decide (b < 0)) = n at hpa
  generalize (decide (c < 0) != decide (d < 0)) = m at hpc
  generalize a.natAbs * b.natAbs = M at hM hpa
  generalize c.natAbs * d.natAbs = L at hL hpc
  have hE : 0 < e.natAbs := by omega
  have hE2 : e.natAbs < 18446744073709551616 := by omega
  simp (maxSteps := 1000000) (disch := first | omega | (simp only [lenW] <;> omega)) only [SK.s72, wordsN, Int.reduceGT, wordsR, ne_eq, words, Nat.reduceAdd, Nat.reduceEqDiff, Nat.reduceBEq, ↓reduceIte, reduceCtorEq, SX.exit.injEq, if_true, if_false, Int.reduceAdd, Int.reduceSub, Int.reduceMul, Int.reduceLT, Int.reduceLE, Int.reduceEq, Int.reduceNe, Int.reduceNeg, Int.reduceToNat, Nat.reduceMul, Nat.reduceLT, Nat.reduceSub, Nat.reduceLeDiff]
  refine cp hpa ?_
  simp (maxSteps := 1000000) (disch := first | omega | (simp only [lenW] <;> omega)) only [wordsN, Int.reduceGT, wordsR, ne_eq, words, Nat.reduceAdd, Nat.reduceEqDiff, Nat.reduceBEq, ↓reduceIte, reduceCtorEq, SX.exit.injEq, if_true, if_false, Int.reduceAdd, Int.reduceSub, Int.reduceMul, Int.reduceLT, Int.reduceLE, Int.reduceEq, Int.reduceNe, Int.reduceNeg, Int.reduceToNat, Nat.reduceMul, Nat.reduceLT, Nat.reduceSub, Nat.reduceLeDiff]
  refine cp hpc ?_
  by_cases hnm : n = m
  · subst hnm
    by_cases hlt : M < L
    · have e1 : sg n M - sg n L = sg (!n) (L - M) := by cases n <;> simp [sg] <;> omega
      rw [e1, tdiv_sg]
      have hq : (L - M) / e.natAbs ≤ L - M := Nat.div_le_self _ _
      simp (maxSteps := 1000000) (disch := first | omega | (simp only [lenW] <;> omega)) only [aEq_bool, hlt, bne_tt, bne_ff, bne_tf, bne_ft, ext_sub L M (by omega) (by omega), ext_sub0, wR_ext, wordsN, Int.reduceGT, wordsR, ne_eq, words, Nat.reduceAdd, Nat.reduceEqDiff, Nat.reduceBEq, ↓reduceIte, reduceCtorEq, SX.exit.injEq, if_true, if_false, Int.reduceAdd, Int.reduceSub, Int.reduceMul, Int.reduceLT, Int.reduceLE, Int.reduceEq, Int.reduceNe, Int.reduceNeg, Int.reduceToNat, Nat.reduceMul, Nat.reduceLT, Nat.reduceSub, Nat.reduceLeDiff]
      refine cp hme ?_
      simp (maxSteps := 1000000) (disch := first | omega | (simp only [lenW] <;> omega)) only [wordsN, Int.reduceGT, wordsR, ne_eq, words, Nat.reduceAdd, Nat.reduceEqDiff, Nat.reduceBEq, ↓reduceIte, reduceCtorEq, SX.exit.injEq, if_true, if_false, Int.reduceAdd, Int.reduceSub, Int.reduceMul, Int.reduceLT, Int.reduceLE, Int.reduceEq, Int.reduceNe, Int.reduceNeg, Int.reduceToNat, Nat.reduceMul, Nat.reduceLT, Nat.reduceSub, Nat.reduceLeDiff]
      refine cp (div64 (L - M) e.natAbs (by omega) hE hE2) ?_
      generalize (L - M) / e.natAbs = q at hq
      by_cases hs : (!n) = decide (e < 0)
      · have hs' : ((!n) != decide (e < 0)) = false := by rw [hs]; cases decide (e < 0) <;> rfl
        simp (maxSteps := 1000000) (disch := first | omega | (simp only [lenW] <;> omega)) only [aEq_bool, hs, bne_tt, bne_ff, bne_tf, bne_ft, wordsN, Int.reduceGT, wordsR, ne_eq, words, Nat.reduceAdd, Nat.reduceEqDiff, Nat.reduceBEq, ↓reduceIte, reduceCtorEq, SX.exit.injEq, if_true, if_false, Int.reduceAdd, Int.reduceSub, Int.reduceMul, Int.reduceLT, Int.reduceLE, Int.reduceEq, Int.reduceNe, Int.reduceNeg, Int.reduceToNat, Nat.reduceMul, Nat.reduceLT, Nat.reduceSub, Nat.reduceLeDiff]
        refine ⟨.inr trivial, _, rfl, ?_⟩
        rw [← hs, bne_self_eq_false]; rfl
      · have hs' : ((!n) != decide (e < 0)) = true := by cases n <;> cases hd : decide (e < 0) <;> simp_all
        simp (maxSteps := 1000000) (disch := first | omega | (simp only [lenW] <;> omega)) only [aEq_bool, hs, bne_tt, bne_ff, bne_tf, bne_ft, Int.zero_sub, wordsN, Int.reduceGT, wordsR, ne_eq, words, Nat.reduceAdd, Nat.reduceEqDiff, Nat.reduceBEq, ↓reduceIte, reduceCtorEq, SX.exit.injEq, if_true, if_false, Int.reduceAdd, Int.reduceSub, Int.reduceMul, Int.reduceLT, Int.reduceLE, Int.reduceEq, Int.reduceNe, Int.reduceNeg, Int.reduceToNat, Nat.reduceMul, Nat.reduceLT, Nat.reduceSub, Nat.reduceLeDiff]
        refine ⟨.inr trivial, _, rfl, ?_⟩
        rw [hs']; rfl
    · have e1 : sg n M - sg n L = sg n (M - L) := by cases n <;> simp [sg] <;> omega
      rw [e1, tdiv_sg]
      have hq : (M - L) / e.natAbs ≤ M - L := Nat.div_le_self _ _
      simp (maxSteps := 1000000) (disch := first | omega | (simp only [lenW] <;> omega)) only [aEq_bool, hlt, bne_tt, bne_ff, bne_tf, bne_ft, ext_sub M L (by omega) (by omega), ext_sub0, wR_ext, wordsN, Int.reduceGT, wordsR, ne_eq, words, Nat.reduceAdd, Nat.reduceEqDiff, Nat.reduceBEq, ↓reduceIte, reduceCtorEq, SX.exit.injEq, if_true, if_false, Int.reduceAdd, Int.reduceSub, Int.reduceMul, Int.reduceLT, Int.reduceLE, Int.reduceEq, Int.reduceNe, Int.reduceNeg, Int.reduceToNat, Nat.reduceMul, Nat.reduceLT, Nat.reduceSub, Nat.reduceLeDiff]
      refine cp hme ?_
      simp (maxSteps := 1000000) (disch := first | omega | (simp only [lenW] <;> omega)) only [wordsN, Int.reduceGT, wordsR, ne_eq, words, Nat.reduceAdd, Nat.reduceEqDiff, Nat.reduceBEq, ↓reduceIte, reduceCtorEq, SX.exit.injEq, if_true, if_false, Int.reduceAdd, Int.reduceSub, Int.reduceMul, Int.reduceLT, Int.reduceLE, Int.reduceEq, Int.reduceNe, Int.reduceNeg, Int.reduceToNat, Nat.reduceMul, Nat.reduceLT, Nat.reduceSub, Nat.reduceLeDiff]
      refine cp (div64 (M - L) e.natAbs (by omega) hE hE2) ?_
      generalize (M - L) / e.natAbs = q at hq
      by_cases hs : n = decide (e < 0)
      · have hs' : (n != decide (e < 0)) = false := by rw [hs]; cases decide (e < 0) <;> rfl
        simp (maxSteps := 1000000) (disch := first | omega | (simp only [lenW] <;> omega)) only [aEq_bool, hs, bne_tt, bne_ff, bne_tf, bne_ft, wordsN, Int.reduceGT, wordsR, ne_eq, words, Nat.reduceAdd, Nat.reduceEqDiff, Nat.reduceBEq, ↓reduceIte, reduceCtorEq, SX.exit.injEq, if_true, if_false, Int.reduceAdd, Int.reduceSub, Int.reduceMul, Int.reduceLT, Int.reduceLE, Int.reduceEq, Int.reduceNe, Int.reduceNeg, Int.reduceToNat, Nat.reduceMul, Nat.reduceLT, Nat.reduceSub, Nat.reduceLeDiff]
        refine ⟨.inr trivial, _, rfl, ?_⟩
        rw [← hs, bne_self_eq_false]; rfl
      · have hs' : (n != decide (e < 0)) = true := by cases n <;> cases hd : decide (e < 0) <;> simp_all
        simp (maxSteps := 1000000) (disch := first | omega | (simp only [lenW] <;> omega)) only [aEq_bool, hs, bne_tt, bne_ff, bne_tf, bne_ft, Int.zero_sub, wordsN, Int.reduceGT, wordsR, ne_eq, words, Nat.reduceAdd, Nat.reduceEqDiff, Nat.reduceBEq, ↓reduceIte, reduceCtorEq, SX.exit.injEq, if_true, if_false, Int.reduceAdd, Int.reduceSub, Int.reduceMul, Int.reduceLT, Int.reduceLE, Int.reduceEq, Int.reduceNe, Int.reduceNeg, Int.reduceToNat, Nat.reduceMul, Nat.reduceLT, Nat.reduceSub, Nat.reduceLeDiff]
        refine ⟨.inr trivial, _, rfl, ?_⟩
        rw [hs']; rfl
  · have e1 : sg n M - sg m L = sg n (M + L) := by
      have : m = !n := by cases n <;> cases m <;> simp_all
      subst this
      cases n <;> simp [sg] <;> omega
    rw [e1, tdiv_sg]
    have hq : (M + L) / e.natAbs ≤ M + L := Nat.div_le_self _ _
    simp (maxSteps := 1000000) (disch := first | omega | (simp only [lenW] <;> omega)) only [aEq_bool, hnm, bne_tt, bne_ff, bne_tf, bne_ft, ext_add M L (by omega), ext_add0, wR_ext, wordsN, Int.reduceGT, wordsR, ne_eq, words, Nat.reduceAdd, Nat.reduceEqDiff, Nat.reduceBEq, ↓reduceIte, reduceCtorEq, SX.exit.injEq, if_true, if_false, Int.reduceAdd, Int.reduceSub, Int.reduceMul, Int.reduceLT, Int.reduceLE, Int.reduceEq, Int.reduceNe, Int.reduceNeg, Int.reduceToNat, Nat.reduceMul, Nat.reduceLT, Nat.reduceSub, Nat.reduceLeDiff]
    refine cp hme ?_
    simp (maxSteps := 1000000) (disch := first | omega | (simp only [lenW] <;> omega)) only [wordsN, Int.reduceGT, wordsR, ne_eq, words, Nat.reduceAdd, Nat.reduceEqDiff, Nat.reduceBEq, ↓reduceIte, reduceCtorEq, SX.exit.injEq, if_true, if_false, Int.reduceAdd, Int.reduceSub, Int.reduceMul, Int.reduceLT, Int.reduceLE, Int.reduceEq, Int.reduceNe, Int.reduceNeg, Int.reduceToNat, Nat.reduceMul, Nat.reduceLT, Nat.reduceSub, Nat.reduceLeDiff]
    refine cp (div64 (M + L) e.natAbs (by omega) hE hE2) ?_
    generalize (M + L) / e.natAbs = q at hq
    by_cases hs : n = decide (e < 0)
    · simp (maxSteps := 1000000) (disch := first | omega | (simp only [lenW] <;> omega)) only [aEq_bool, hs, bne_tt, bne_ff, bne_tf, bne_ft, wordsN, Int.reduceGT, wordsR, ne_eq, words, Nat.reduceAdd, Nat.reduceEqDiff, Nat.reduceBEq, ↓reduceIte, reduceCtorEq, SX.exit.injEq, if_true, if_false, Int.reduceAdd, Int.reduceSub, Int.reduceMul, Int.reduceLT, Int.reduceLE, Int.reduceEq, Int.reduceNe, Int.reduceNeg, Int.reduceToNat, Nat.reduceMul, Nat.reduceLT, Nat.reduceSub, Nat.reduceLeDiff]
      refine ⟨.inr trivial, _, rfl, ?_⟩
      rw [← hs, bne_self_eq_false]; rfl
    · have hs' : (n != decide (e < 0)) = true := by cases n <;> cases hd : decide (e < 0) <;> simp_all
      simp (maxSteps := 1000000) (disch := first | omega | (simp only [lenW] <;> omega)) only [aEq_bool, hs, bne_tt, bne_ff, bne_tf, bne_ft, Int.zero_sub, wordsN, Int.reduceGT, wordsR, ne_eq, words, Nat.reduceAdd, Nat.reduceEqDiff, Nat.reduceBEq, ↓reduceIte, reduceCtorEq, SX.exit.injEq, if_true, if_false, Int.reduceAdd, Int.reduceSub, Int.reduceMul, Int.reduceLT, Int.reduceLE, Int.reduceEq, Int.reduceNe, Int.reduceNeg, Int.reduceToNat, Nat.reduceMul, Nat.reduceLT, Nat.reduceSub, Nat.reduceLeDiff]
      refine ⟨.inr trivial, _, rfl, ?_⟩
      rw [hs']; rfl
theorem gcd (a b : Nat) (ha : a < 18446744073709551616) (hb : b < 18446744073709551616) : PSpec Try.prog 73 [.int .u64 a, .int .u64 b] (.int .u64 (Nat.gcd a b : Nat)) := by
  refine PSpec.of_flat 64 SK.ok73 rfl rfl rfl ?_
  simp (maxSteps := 1000000) (disch := first | omega | (simp only [lenW] <;> omega)) only [SK.s73, wordsN, Int.reduceGT, wordsR, ne_eq, words, Nat.reduceAdd, Nat.reduceEqDiff, Nat.reduceBEq, ↓reduceIte, reduceCtorEq, SX.exit.injEq, if_true, if_false, Int.reduceAdd, Int.reduceSub, Int.reduceMul, Int.reduceLT, Int.reduceLE, Int.reduceEq, Int.reduceNe, Int.reduceNeg, Int.reduceToNat, Nat.reduceMul, Nat.reduceLT, Nat.reduceSub, Nat.reduceLeDiff]
  refine wS_loopR 100 (fun p : Nat × Nat => [(0, .int .u64 p.1), (1, .int .u64 p.2)]) (fun _ => []) (fun p => Nat.gcd p.1 p.2 = Nat.gcd a b ∧ p.1 < 18446744073709551616 ∧ p.2 < 18446744073709551616) (fun p => p.2) (a, b) ⟨[], rfl, (by repeat (first | exact RO.zero | exact RO.e | refine RO.set rfl ?_)), (by repeat' (first | exact RB.nil | (refine RnL.same ?_; first | rfl | (simp only [noRef, noRefs, noRefs_append, noRefs_ints, noRefs_lsts, noRefs_pad, noRef_arcs, noRef_tns, Bool.and_self, Bool.and_true, Bool.true_and]; done)) | exact RnM.keyM rfl | exact RnL.nil | refine RnL.cons ?_ ?_ | (refine Rn.same ?_; first | rfl | (simp only [noRef, noRefs, noRefs_append, noRefs_ints, noRefs_lsts, noRefs_pad, noRef_arcs, noRef_tns, Bool.and_self, Bool.and_true, Bool.true_and]; done)) | exact Rn.x1 rfl rfl | exact Rn.x2 rfl rfl | exact Rn.x3 rfl rfl | exact Rn.x4 rfl rfl | exact Rn.x5 rfl | exact Rn.x6 rfl | exact Rn.x7 rfl | refine RB.newnil rfl rfl ?_ | refine RB.cells rfl rfl rfl ?_ ?_ | refine RB.map rfl rfl rfl ?_ ?_ | refine RB.cellsB rfl rfl ?_ ?_ | refine RB.mapB rfl rfl ?_ ?_)), (by repeat (first | exact RT.nil | (refine RT.cons ?_ ?_; · (first | exact Rn.any | exact Rn.x1 rfl rfl | exact Rn.x2 rfl rfl | exact Rn.x3 rfl rfl | exact Rn.x4 rfl rfl | exact Rn.x5 rfl | exact Rn.x6 rfl | exact Rn.x7 rfl | (refine Rn.slot ?_ ?_; (first | rfl | (rw [Int.natCast_add]; rfl)); (first | rfl | (simp only [noRef, noRefs, noRefs_append, noRefs_ints, noRefs_lsts, noRefs_pad, noRef_arcs, noRef_tns, Bool.and_self, Bool.and_true, Bool.true_and]; done))) | (refine Rn.fn ?_ ?_ <;> (repeat' (first | exact RnL.nil | refine RnL.cons ?_ ?_ | exact Rn.same rfl | exact Rn.x6 rfl | exact Rn.x2 rfl rfl | exact Rn.x5 rfl | exact Rn.x1 rfl rfl)))))))⟩ ⟨rfl, ha, hb⟩ ?_
  rintro ⟨x, y⟩ ⟨hg, hx, hy⟩
  dsimp only at hg hx hy ⊢
  by_cases h0 : y = 0
  · subst h0
    simp (maxSteps := 1000000) (disch := first | omega | (simp only [lenW] <;> omega)) only [wordsN, Int.reduceGT, wordsR, ne_eq, words, Nat.reduceAdd, Nat.reduceEqDiff, Nat.reduceBEq, ↓reduceIte, reduceCtorEq, SX.exit.injEq, if_true, if_false, Int.reduceAdd, Int.reduceSub, Int.reduceMul, Int.reduceLT, Int.reduceLE, Int.reduceEq, Int.reduceNe, Int.reduceNeg, Int.reduceToNat, Nat.reduceMul, Nat.reduceLT, Nat.reduceSub, Nat.reduceLeDiff]
    refine ⟨.inr trivial, _, rfl, ?_⟩
    rw [← hg, Nat.gcd_zero_right]; rfl
  · have h1 : ¬ (y : Int) = 0 := by omega
    simp (maxSteps := 1000000) (disch := first | omega | (simp only [lenW] <;> omega)) only [h1, tm_nat, wordsN, Int.reduceGT, wordsR, ne_eq, words, Nat.reduceAdd, Nat.reduceEqDiff, Nat.reduceBEq, ↓reduceIte, reduceCtorEq, SX.exit.injEq, if_true, if_false, Int.reduceAdd, Int.reduceSub, Int.reduceMul, Int.reduceLT, Int.reduceLE, Int.reduceEq, Int.reduceNe, Int.reduceNeg, Int.reduceToNat, Nat.reduceMul, Nat.reduceLT, Nat.reduceSub, Nat.reduceLeDiff]
    have hm : x % y < y := Nat.mod_lt x (by omega)
    refine ⟨(y, x % y), hm, ⟨?_, hy, by show x % y < _; omega⟩, ⟨[], rfl, (by repeat (first | exact RO.zero | exact RO.e | refine RO.set rfl ?_)), (by repeat' (first | exact RB.nil | (refine RnL.same ?_; first | rfl | (simp only [noRef, noRefs, noRefs_append, noRefs_ints, noRefs_lsts, noRefs_pad, noRef_arcs, noRef_tns, Bool.and_self, Bool.and_true, Bool.true_and]; done)) | exact RnM.keyM rfl | exact RnL.nil | refine RnL.cons ?_ ?_ | (refine Rn.same ?_; first | rfl | (simp only [noRef, noRefs, noRefs_append, noRefs_ints, noRefs_lsts, noRefs_pad, noRef_arcs, noRef_tns, Bool.and_self, Bool.and_true, Bool.true_and]; done)) | exact Rn.x1 rfl rfl | exact Rn.x2 rfl rfl | exact Rn.x3 rfl rfl | exact Rn.x4 rfl rfl | exact Rn.x5 rfl | exact Rn.x6 rfl | exact Rn.x7 rfl | refine RB.newnil rfl rfl ?_ | refine RB.cells rfl rfl rfl ?_ ?_ | refine RB.map rfl rfl rfl ?_ ?_ | refine RB.cellsB rfl rfl ?_ ?_ | refine RB.mapB rfl rfl ?_ ?_)), (by repeat (first | exact RT.nil | (refine RT.cons ?_ ?_; · (first | exact Rn.any | exact Rn.x1 rfl rfl | exact Rn.x2 rfl rfl | exact Rn.x3 rfl rfl | exact Rn.x4 rfl rfl | exact Rn.x5 rfl | exact Rn.x6 rfl | exact Rn.x7 rfl | (refine Rn.slot ?_ ?_; (first | rfl | (rw [Int.natCast_add]; rfl)); (first | rfl | (simp only [noRef, noRefs, noRefs_append, noRefs_ints, noRefs_lsts, noRefs_pad, noRef_arcs, noRef_tns, Bool.and_self, Bool.and_true, Bool.true_and]; done))) | (refine Rn.fn ?_ ?_ <;> (repeat' (first | exact RnL.nil | refine RnL.cons ?_ ?_ | exact Rn.same rfl | exact Rn.x6 rfl | exact Rn.x2 rfl rfl | exact Rn.x5 rfl | exact Rn.x1 rfl rfl)))))))⟩⟩
    show Nat.gcd y (x % y) = _
    rw [← hg, Nat.gcd_comm y, ← Nat.gcd_rec, Nat.gcd_comm]
end Go.AM.SN
set_option linter.unusedSimpArgs false
set_option linter.unusedVariables false
namespace Go.AM
variable {P : Program}
def FSpec (P : Program) (f : Nat) (args : List AV) (v : AV) : Prop :=
  Callable P f ∧ noRefs args = true ∧ noRef v = true ∧ ∀ (F : Nat → Prop) (w : World) (cargs : Array Value), (∀ k, F k → k < w.heap.size) → VRels (only F) w args cargs.toList →
    Calls P f cargs w fun e w' => ∃ cv F', e = .returned cv ∧ Evo2 0 (only F) w (only fun k => F k ∨ F' k) w' ∧ (∀ k, F' k → w.heap.size ≤ k ∧ k < w'.heap.size) ∧ VRel (only F') w' v cv
def RnO (h : Heap) (x y : AV) : Prop := ∀ (c : Ctx) (w : World) (v : Value), HRel c h w → VRel c w y v → VRel (only c.O) w x v
def RnOL (h : Heap) : List AV → List AV → Prop
  | [], [] => True
  | x :: xs, y :: ys => RnO h x y ∧ RnOL h xs ys
  | _, _ => False
section
variable {h : Heap}
theorem RnO.flat {x : AV} (hf : flatV x = true) : RnO h x x := fun c w v _ hv => VRel.flat _ _ hf hv
theorem RnOL.nil : RnOL h [] [] := trivial
theorem RnOL.cons {x y : AV} {xs ys : List AV} (h1 : RnO h x y) (h2 : RnOL h xs ys) : RnOL h (x :: xs) (y :: ys) := ⟨h1, h2⟩
theorem RnOL.rels {c : Ctx} {w : World} (H : HRel c h w) : ∀ {xs ys : List AV} {vs : List Value}, RnOL h xs ys → VRels c w ys vs → VRels (only c.O) w xs vs
  | [], [], _, _, hv => by simpa [VRels] using hv
  | [], _ :: _, _, hh, _ => hh.elim
  | _ :: _, [], _, hh, _ => hh.elim
  | x :: xs, y :: ys, vs, hh, hv => by
    simp only [VRels] at hv ⊢
    obtain ⟨v, vs', rfl, g1, g2⟩ := hv
    exact ⟨v, vs', rfl, hh.1 c w v H g1, RnOL.rels H hh.2 g2⟩
theorem RnO.tup {xs ys : List AV} (hL : RnOL h xs ys) : RnO h (.tup xs) (.tup ys) := fun c w v H hv => by
  simp only [VRel] at hv ⊢
  obtain ⟨vs, rfl, hv⟩ := hv
  exact ⟨vs, rfl, hL.rels H hv⟩
theorem VPre.flat {c c' : Ctx} {w w' : World} : ∀ {xs : List AV} {vs : List Value}, flatVs xs = true → VPre c w xs vs → VPre c' w' xs vs
  | [], _, _, _ => by simp [VPre]
  | x :: xs, vs, hf, hv => by
    simp only [flatVs, Bool.and_eq_true] at hf
    simp only [VPre] at hv ⊢
    obtain ⟨v, vs', rfl, g1, g2⟩ := hv
    exact ⟨v, vs', rfl, VRel.flat _ _ hf.1 g1, VPre.flat hf.2 g2⟩
theorem RnO.sl {b g len sz : Nat} {ds : List AV} (hb : h.get b = some (.cells g ds)) (hf : flatVs ds = true) (hl : ds.length = len * sz) : RnO h (.fsl ds len sz) (.sl b g 0 len sz) := fun c w v H hv => by
  simp only [VRel] at hv
  rcases hv with ⟨hp, rfl, _, rfl⟩ | ⟨cb, base, o, cap, C, e, fr, hp, rfl, hlc, hC, hcap⟩
  · have : ds = [] := List.eq_nil_of_length_eq_zero (by rw [hl]; simp)
    subst this
    simp only [VRel]; exact .inl (by simp)
  · obtain ⟨C', e', fr', hO, hC', hfr, hbs, hpre⟩ := H.here hb hp
    rw [hC] at hC'; cases hC'
    by_cases h0 : cap = 0
    · have hl0 : len = 0 := by omega
      subst hl0
      have : ds = [] := List.eq_nil_of_length_eq_zero (by rw [hl]; simp)
      subst this
      simp only [VRel]
      exact .inr ⟨cb, o, cap, C, e, fr, rfl, hlc, by simp, hO, hC, by simp [VPre]⟩
    · obtain ⟨ho, hbd⟩ := hcap.resolve_left h0
      simp only [VRel]
      exact .inr ⟨cb, o, cap, C, e, fr, rfl, hlc, hl, hO, hC, by rw [ho]; exact VPre.flat hf hpre⟩
theorem RnO.slm {b g len k sz : Nat} {ds es : List AV} (hb : h.get b = some (.cells g ds)) (he : es = ds) (hk : k = len) (hf : flatVs ds = true) (hl : ds.length = len * sz) : RnO h (.fsl es k sz) (.sl b g 0 len sz) := by
  subst he; subst hk; exact RnO.sl hb hf hl
end
theorem FSpec.of_W2 {f : Nat} {sf : SFn} {args : List AV} {v : AV} (hok : okFn P f sf = true) (hl : args.length ≤ sf.n) (ha : noRefs args = true) (hv : noRef v = true)
    (hw : W2 P ⟨sf.n, 0⟩ sf.body (fun e B => (e = .normal ∨ e = .ret) ∧ ∃ vs, resV B.T B.h sf.res = some vs ∧ RnO B.h v (resOf vs)) ⟨argT 0 args, .e⟩) : FSpec P f args v := by
  obtain ⟨_, _, _, _, _, _, _, hc⟩ := okFn_spec hok
  refine ⟨hc, ha, hv, fun F w cargs hF ha => (call_of_W2 (R := fun vs k => RnO k v (resOf vs)) hok hl hw (HRel.only hF) ha).mono ?_⟩
  rintro e w' ⟨cv, c', vs, k, rfl, E, H', V, hk⟩
  have hnew : ∀ k, c'.O k → w.heap.size ≤ k := fun k hO => (E.own k hO).elim (fun h => h.elim) id
  refine ⟨cv, c'.O, rfl, ?_, fun k hO => ⟨hnew k hO, H'.inO k hO⟩, hk c' w' cv H' V⟩
  refine ⟨E.os, E.tape, E.output, E.size, E.shape, fun k hk _ => E.keep k hk (fun h => h), fun b g p hb => absurd hb (Nat.not_lt_zero _), fun k hk => .inl hk, fun k hk => ?_, fun k hk => hk.elim⟩
  rcases hk with hk | hk
  · exact .inl hk
  · exact .inr (.inr (hnew k hk))
theorem FSpec.of_wS {f : Nat} {sf : SFn} {args : List AV} {v : AV} (n : Nat) (hok : okFn P f sf = true) (hl : Nat.ble args.length sf.n = true) (ha : noRefs args = true) (hv : noRef v = true)
    (hw : wS P ⟨sf.n, 0⟩ sf.body [] n (argT 0 args) .e fun e T h _ => (e = .normal ∨ e = .ret) ∧ ∃ vs, resV T h sf.res = some vs ∧ RnO h v (resOf vs)) : FSpec P f args v :=
  FSpec.of_W2 hok (Nat.le_of_ble_eq_true hl) ha hv ((wpC.toW hw).mono fun e B ⟨_, h⟩ => h)
section
variable {h : Heap}
theorem FrzTo.fn {f : Nat} {xs ys us vs : List AV} (hL : FrzL h xs ys) (hK : FrzL h us vs) : FrzTo h (.fn f xs us) (.fn f ys vs) := fun c w v H hv => by
  simp only [VRel] at hv ⊢
  obtain ⟨x', y', rfl, h1, h2⟩ := hv
  exact ⟨x', y', rfl, hL.rels H h1, hK.rels H h2⟩
theorem FrzTo.ptr {b g off : Nat} {cs ys : List AV} (hb : h.get b = some (.cells g cs)) (hL : FrzL h (cs.drop off) ys) : FrzTo h (.ptr b g off) (.fptr ys) := fun c w v H hv => by
  simp only [VRel] at hv
  obtain ⟨cb, base, hp, rfl⟩ := hv
  obtain ⟨C', e', fr', hO, hC', hfr, hbs, hpre⟩ := H.here hb hp
  have hp2 := VPre_drop off hpre
  rw [List.drop_drop] at hp2
  simp only [VRel]
  exact ⟨cb, base + off, C', e', fr', rfl, .inr hO, hC', hL.pre H hp2⟩
theorem HSpec.lend {f : Nat} {args bs : List AV} {v : AV} (hL : FrzL h args bs) (hp : PSpec P f bs v) (hv : flatV v = true) : HSpec P f args h v h := by
  obtain ⟨h', hc, _⟩ := hp.2.2
  exact ⟨hc, fun c w cargs H ha => (hp.borrow hv H (hL.rels H ha)).2⟩
theorem HSpec.of_F {f : Nat} {args bs : List AV} {v : AV} (hL : FrzL h args bs) (hp : FSpec P f bs v) : HSpec P f args h v h := by
  obtain ⟨hc, n1, n2, hs⟩ := hp
  refine ⟨hc, fun c w cargs H ha => ?_⟩
  have hF : ∀ k, (c.F k ∨ c.O k) → k < w.heap.size := fun k hk => hk.elim (H.inF k) (H.inO k)
  refine (hs (fun k => c.F k ∨ c.O k) w cargs hF (VRels.noRef (c := lent c) (c' := only fun k => c.F k ∨ c.O k) (fun _ h => h) _ _ n1 (hL.rels H ha))).mono ?_
  rintro e w' ⟨cv, F', rfl, E, hnew, V⟩
  have hk : ∀ k, k < w.heap.size → w'.heap[k]? = w.heap[k]? := fun k hk => E.keep k hk (fun h => h)
  obtain ⟨E1, H1⟩ := H.grow E.os E.tape E.output E.size hk
  refine ⟨cv, { c with F := fun k => c.F k ∨ F' k }, rfl, ?_, H1.frozen (fun k => c.F k ∨ F' k) (fun k hk => .inl hk) (fun k hk => ?_), VRel.noRef (c := only F') (c' := { c with F := fun k => c.F k ∨ F' k }) (fun _ h => .inr h) _ _ n2 V⟩
  · refine ⟨E1.os, E1.tape, E1.output, E1.size, E1.shape, E1.keep, E1.rho, fun k hk => .inl hk, fun k hk => ?_, E1.own⟩
    rcases hk with hk | hk
    · exact .inl hk
    · exact .inr (.inr (hnew k hk).1)
  · rcases hk with hk | hk
    · exact ⟨fun hO => H.disj k hk hO, Nat.lt_of_lt_of_le (H.inF k hk) E.size⟩
    · exact ⟨fun hO => by have := H.inO k hO; have := (hnew k hk).1; omega, (hnew k hk).2⟩
end
end Go.AM
namespace Go.AM.SN
open Go.Proofs Go.AM.SK
set_option maxRecDepth 100000
set_option linter.unusedSimpArgs false
set_option linter.unusedVariables false
abbrev Mx := Nat → Nat → Int
def rrow (cols : List Nat) (r : List Int) : List Int := cols.map fun c => r.getD c 0
def nz (r : List Int) : Bool := r.any (· != 0)
def rows0 (R : List (List Int)) (cols : List Nat) : List (List Int) := (R.map (rrow cols)).filter nz
structure KS where
  M : Mx
  piv : Nat
  last : Int
  free : Int
  pos : Nat → Nat
def mx (rows : List (List Int)) : Mx := fun i c => (rows.getD i []).getD c 0
def kfind (nr k : Nat) (s : KS) : Option Nat := (List.range (nr - s.piv)).findIdx? fun i => s.M (s.piv + i) k != 0
def kswap (M : Mx) (a b : Nat) : Mx := fun i c => if i = a then M b c else if i = b then M a c else M i c
def kelim (n k : Nat) (M : Mx) (piv : Nat) (last : Int) : Mx := fun j c => if j = piv ∨ n ≤ c then M j c else (M piv k * M j c - M j k * M piv c).tdiv last
def kstep (nr n k : Nat) (s : KS) : Option KS :=
  match kfind nr k s with
  | none => if 0 ≤ s.free then none else some ⟨s.M, s.piv, s.last, k, s.pos⟩
  | some i => some ⟨kelim n k (kswap s.M s.piv (s.piv + i)) s.piv s.last, s.piv + 1, kswap s.M s.piv (s.piv + i) s.piv k, s.free, fun c => if c = k then s.piv else s.pos c⟩
def krun (R : List (List Int)) (cols : List Nat) : Nat → Option KS
  | 0 => some ⟨mx (rows0 R cols), 0, 1, -1, fun _ => 0⟩
  | k + 1 => (krun R cols k).bind (kstep (rows0 R cols).length cols.length k)
def kout (s : KS) (k : Nat) : Int := if (k : Int) = s.free then s.last else -(s.M (s.pos k) s.free.toNat)
def kgcd (o : List Int) : Nat := o.foldl (fun g x => Nat.gcd g x.natAbs) 0
def kfin (n : Nat) (s : KS) : Option (List Int) :=
  if s.free < 0 then none else
  if ((List.range n).map (kout s)).any (· == 0) = true then none else
  some ((List.range n).map fun k => if kout s 0 < 0 then -((kout s k).tdiv (kgcd ((List.range n).map (kout s)))) else (kout s k).tdiv (kgcd ((List.range n).map (kout s))))
def kerR (R : List (List Int)) (cols : List Nat) : Option (List Int) := (krun R cols cols.length).bind (kfin cols.length)
def kerV : Option (List Int) → AV
  | none => .tup [.nilsl, .bool false]
  | some l => .tup [sli l, .bool true]
def colI (cols : List Nat) : List Int := cols.map fun c : Nat => (c : Int)
def KBd (R : List (List Int)) (cols : List Nat) : Prop := ∀ k s, krun R cols k = some s → (k < cols.length ∨ (k = cols.length ∧ 0 ≤ s.free)) → s.last ≠ 0 ∧ (-2147483648 < s.last ∧ s.last < 2147483648) ∧ ∀ i c, -2147483648 < s.M i c ∧ s.M i c < 2147483648
theorem colI_get {cols : List Nat} {i c : Nat} (h : cols[i]? = some c) : (colI cols)[i]? = some (c : Int) := by simp [colI, h]
theorem colI_len (cols : List Nat) : (colI cols).length = cols.length := by simp [colI]
theorem pad_rowF {r : List Int} (h : r.length ≤ 10) : pad r = rowF 10 (fun p => r.getD p 0) := pad_range h
theorem rows0_take (R : List (List Int)) (cols : List Nat) {a : Nat} {r : List Int} (h : R[a]? = some r) : rows0 (R.take (a + 1)) cols = rows0 (R.take a) cols ++ if nz (rrow cols r) = true then [rrow cols r] else [] := by
  unfold rows0
  rw [List.take_add_one, List.map_append, List.filter_append, h]
  congr 1
  simp only [Option.toList, List.map_cons, List.map_nil, List.filter_cons, List.filter_nil]
theorem pad_flat_len {R : List (List Int)} (h : ∀ r ∈ R, r.length ≤ 10) : (R.flatMap pad).length = R.length * 10 := by
  rw [flat10_tab h, flat10_len]
theorem rows0_len10 {R : List (List Int)} {cols : List Nat} (hn : cols.length ≤ 10) : ∀ r ∈ rows0 R cols, r.length ≤ 10 := by
  intro r hr
  unfold rows0 at hr
  obtain ⟨q, _, rfl⟩ := List.mem_map.1 (List.mem_filter.1 hr).1
  simp [rrow]; exact hn
theorem rows0_le (R : List (List Int)) (cols : List Nat) : (rows0 R cols).length ≤ R.length := by
  unfold rows0
  exact Nat.le_trans (List.length_filter_le _ _) (by simp)
theorem eq_row10 (f : Nat → Int) : aEq (.flat true [.i, .i, .i, .i, .i, .i, .i, .i, .i, .i]) true (.agg (rowF 10 f)) (.agg [.int .i64 0, .int .i64 0, .int .i64 0, .int .i64 0, .int .i64 0, .int .i64 0, .int .i64 0, .int .i64 0, .int .i64 0, .int .i64 0]) =
    some (.bool ((List.range 10).any fun c => f c != 0)) := by
  have e : rowF 10 f = [.int .i64 (f 0), .int .i64 (f 1), .int .i64 (f 2), .int .i64 (f 3), .int .i64 (f 4), .int .i64 (f 5), .int .i64 (f 6), .int .i64 (f 7), .int .i64 (f 8), .int .i64 (f 9)] := rfl
  rw [e]
  simp only [aEq, eqCells, eqCell, if_true]
  congr 2
  simp only [show List.range 10 = [0, 1, 2, 3, 4, 5, 6, 7, 8, 9] from rfl, List.any_cons, List.any_nil, Bool.or_false, bne, Bool.and_true]
  have : ∀ n : Int, (n == 0) = decide (n = 0) := fun n => rfl
  simp only [this]
  cases decide (f 0 = 0) <;> cases decide (f 1 = 0) <;> cases decide (f 2 = 0) <;> cases decide (f 3 = 0) <;> cases decide (f 4 = 0) <;> cases decide (f 5 = 0) <;> cases decide (f 6 = 0) <;> cases decide (f 7 = 0) <;> cases decide (f 8 = 0) <;> cases decide (f 9 = 0) <;> rfl
theorem any10 {r : List Int} (h : r.length ≤ 10) : ((List.range 10).any fun c => r.getD c 0 != 0) = nz r := by
  unfold nz
  refine Bool.eq_iff_iff.2 ?_
  simp only [List.any_eq_true, List.mem_range]
  constructor
  · rintro ⟨c, hc, h0⟩
    rw [List.getD_eq_getElem?_getD] at h0
    cases hx : r[c]? with
    | none => rw [hx] at h0; simp at h0
    | some x => rw [hx] at h0; exact ⟨x, List.mem_of_getElem? hx, h0⟩
  · rintro ⟨x, hx, h0⟩
    obtain ⟨j, hj, hl⟩ := mem_at hx
    exact ⟨j, by omega, by rw [List.getD_eq_getElem?_getD, hj]; exact h0⟩
theorem one_rowF (n : Nat) (f : Nat → Int) : (rowF n f).all AV.one = true := by
  rw [List.all_eq_true]; intro y hy
  simp only [rowF, ints, List.mem_map] at hy
  obtain ⟨z, _, rfl⟩ := hy; rfl
theorem put10 {cs : List AV} (h : cs.length = 10) : putR [.int .i64 0, .int .i64 0, .int .i64 0, .int .i64 0, .int .i64 0, .int .i64 0, .int .i64 0, .int .i64 0, .int .i64 0, .int .i64 0] 0 cs = cs := by
  rcases hp : cs with _ | ⟨a, _ | ⟨b, l⟩⟩
  · rw [hp] at h; cases h
  · rw [hp] at h; cases h
  · rw [hp] at h
    rw [putR_many, h]; simp
theorem zero10 : [AV.int .i64 0, .int .i64 0, .int .i64 0, .int .i64 0, .int .i64 0, .int .i64 0, .int .i64 0, .int .i64 0, .int .i64 0, .int .i64 0] = rowF 10 (fun _ => 0) := rfl
theorem flat10_get {nr i c : Nat} (M : Mx) (hi : i < nr) (hc : c < 10) : (flat10 nr M)[i * 10 + c]? = some (.int .i64 (M i c)) := by
  have h3 : i * 10 + c < nr * 10 := by omega
  have h1 : (i * 10 + c) / 10 = i := by omega
  have h2 : (i * 10 + c) % 10 = c := by omega
  simp [flat10, ints, List.getElem?_range h3, h1, h2]
theorem flat10_drop {nr p : Nat} (M : Mx) (hp : p ≤ nr) : ((flat10 nr M).drop (p * 10)).take ((nr - p) * 10) = flat10 (nr - p) (fun i c => M (p + i) c) := by
  rw [List.take_of_length_le (by rw [List.length_drop, flat10_len]; omega)]
  refine List.ext_getElem? fun j => ?_
  rw [List.getElem?_drop]
  by_cases hj : j < (nr - p) * 10
  · have e1 : p * 10 + j = (p + j / 10) * 10 + j % 10 := by omega
    have e2 : j = (j / 10) * 10 + j % 10 := by omega
    rw [e1, flat10_get M (by omega) (by omega)]
    conv => rhs; rw [e2]
    rw [flat10_get (fun i c => M (p + i) c) (by omega) (by omega)]
  · rw [List.getElem?_eq_none (by rw [flat10_len]; omega), List.getElem?_eq_none (by rw [flat10_len]; omega)]
theorem flat10_row {nr i : Nat} (M : Mx) (hi : i < nr) : ((flat10 nr M).drop (i * 10)).take 10 = rowF 10 (M i) := by
  refine List.ext_getElem? fun j => ?_
  by_cases hj : j < 10
  · rw [List.getElem?_take_of_lt hj, List.getElem?_drop, flat10_get M hi hj, rowF_get (M i) hj]
  · rw [List.getElem?_eq_none (by simp; omega), List.getElem?_eq_none (by rw [rowF_len]; omega)]
theorem flat10_put {nr i : Nat} (M : Mx) (f : Nat → Int) (hi : i < nr) : putR (flat10 nr M) (i * 10) (rowF 10 f) = flat10 nr (fun j c => if j = i then f c else M j c) := by
  have e : putR (flat10 nr M) (i * 10) (rowF 10 f) = (flat10 nr M).take (i * 10) ++ rowF 10 f ++ (flat10 nr M).drop (i * 10 + 10) := rfl
  rw [e]
  refine List.ext_getElem? fun j => ?_
  have hl := flat10_len nr M
  have hlt : ((flat10 nr M).take (i * 10)).length = i * 10 := by rw [List.length_take]; omega
  by_cases hj : j < nr * 10
  · have e2 : j = (j / 10) * 10 + j % 10 := by omega
    conv => rhs; rw [e2]
    rw [flat10_get _ (by omega) (by omega)]
    by_cases c1 : j < i * 10
    · rw [List.append_assoc, List.getElem?_append_left (by omega), List.getElem?_take_of_lt c1]
      conv => lhs; rw [e2]
      rw [flat10_get _ (by omega) (by omega), if_neg (by omega)]
    · by_cases c2 : j < i * 10 + 10
      · rw [List.append_assoc, List.getElem?_append_right (by omega), hlt, List.getElem?_append_left (by rw [rowF_len]; omega), rowF_get f (by omega), if_pos (by omega)]
        congr 3; omega
      · rw [List.getElem?_append_right (by rw [List.length_append, hlt, rowF_len]; omega), List.length_append, hlt, rowF_len, List.getElem?_drop, show i * 10 + 10 + (j - (i * 10 + 10)) = j by omega]
        conv => lhs; rw [e2]
        rw [flat10_get _ (by omega) (by omega), if_neg (by omega)]
  · rw [List.getElem?_eq_none (by rw [List.length_append, List.length_append, hlt, rowF_len, List.length_drop]; omega), List.getElem?_eq_none (by rw [flat10_len]; omega)]
theorem rowNz (f : Nat → Int) (k : Nat) (hk : k < 10) : PSpec Try.prog 71 [.agg (rowF 10 f), .fptr [.int .i64 k]] (.bool (f k != 0)) := by
  refine PSpec.of_rn 64 SK.ok71 rfl (by simp only [noRefs, noRef, noRefs_rowF]; rfl) rfl ?_
  have hk' : (k : Int) < 10 := by omega
  simp (maxSteps := 1000000) (disch := first | omega | (simp only [lenW] <;> omega)) only [SK.s71, hk', rowF_get f hk, wordsN, Int.reduceGT, wordsR, ne_eq, words, Nat.reduceAdd, Nat.reduceEqDiff, Nat.reduceBEq, ↓reduceIte, reduceCtorEq, SX.exit.injEq, if_true, if_false, Int.reduceAdd, Int.reduceSub, Int.reduceMul, Int.reduceLT, Int.reduceLE, Int.reduceEq, Int.reduceNe, Int.reduceNeg, Int.reduceToNat, Nat.reduceMul, Nat.reduceLT, Nat.reduceSub, Nat.reduceLeDiff]
  refine ⟨.inr trivial, _, rfl, ?_⟩
  have : (f k != 0) = !decide (f k = 0) := rfl
  rw [this]; exact Rn.same rfl
def kidx : Option Nat → Int
  | none => -1
  | some i => i
theorem index70 (n k : Nat) (M : Mx) (hk : k < 10) (hn : n ≤ 1000) : PSpec Try.prog 70 [.fsl (flat10 n M) n 10, .fn 71 [] [.fptr [.int .i64 k]]] (.int .i64 (kidx ((List.range n).findIdx? fun i => M i k != 0))) := by
  have hnf : noRefs (flat10 n M) = true := noRefs_ints _
  refine PSpec.of_rn 64 SK.ok70 rfl (by simp only [noRefs, noRef, hnf]; rfl) rfl ?_
  simp (maxSteps := 1000000) (disch := first | omega | (simp only [lenW] <;> omega)) only [SK.s70, wordsN, Int.reduceGT, wordsR, ne_eq, words, Nat.reduceAdd, Nat.reduceEqDiff, Nat.reduceBEq, ↓reduceIte, reduceCtorEq, SX.exit.injEq, if_true, if_false, Int.reduceAdd, Int.reduceSub, Int.reduceMul, Int.reduceLT, Int.reduceLE, Int.reduceEq, Int.reduceNe, Int.reduceNeg, Int.reduceToNat, Nat.reduceMul, Nat.reduceLT, Nat.reduceSub, Nat.reduceLeDiff]
  refine wS_loopR 100 (fun i : Nat => [(0, .fsl (flat10 n M) n 10), (1, .fn 71 [] [.fptr [.int .i64 k]]), (7, .int .i64 n), (8, .int .i64 i)]) (fun _ => []) (fun i => i ≤ n ∧ ∀ j, j < i → (M j k != 0) = false) (fun i => n - i) 0 ?_ ⟨Nat.zero_le _, fun j hj => absurd hj (Nat.not_lt_zero _)⟩ ?_
  · refine ⟨[], rfl, RO.zero, trivial, RT.cons' rfl (Rn.same (by simp only [noRef, hnf])) (RT.cons' rfl (Rn.same rfl) (RT.cons' rfl (Rn.same rfl) (RT.cons' rfl (Rn.same rfl) RT.nil)))⟩
  rintro i ⟨hi, hb⟩
  by_cases hlt : i < n
  · have hd : ((flat10 n M).drop (i * 10)).take 10 = rowF 10 (M i) := flat10_row M hlt
    have hl10 : (10 ≤ ((flat10 n M).drop (i * 10)).length) = True := eq_true (by rw [List.length_drop, flat10_len]; omega)
    simp (maxSteps := 1000000) (disch := first | omega | (simp only [lenW] <;> omega)) only [hlt, hd, hl10, wordsN, Int.reduceGT, wordsR, ne_eq, words, Nat.reduceAdd, Nat.reduceEqDiff, Nat.reduceBEq, ↓reduceIte, reduceCtorEq, SX.exit.injEq, if_true, if_false, Int.reduceAdd, Int.reduceSub, Int.reduceMul, Int.reduceLT, Int.reduceLE, Int.reduceEq, Int.reduceNe, Int.reduceNeg, Int.reduceToNat, Nat.reduceMul, Nat.reduceLT, Nat.reduceSub, Nat.reduceLeDiff]
    refine call_pure (by simpa using rowNz (M i) k hk) ?_
    cases hz : (M i k != 0) with
    | true =>
      simp (maxSteps := 1000000) (disch := first | omega | (simp only [lenW] <;> omega)) only [wordsN, Int.reduceGT, wordsR, ne_eq, words, Nat.reduceAdd, Nat.reduceEqDiff, Nat.reduceBEq, ↓reduceIte, reduceCtorEq, SX.exit.injEq, if_true, if_false, Int.reduceAdd, Int.reduceSub, Int.reduceMul, Int.reduceLT, Int.reduceLE, Int.reduceEq, Int.reduceNe, Int.reduceNeg, Int.reduceToNat, Nat.reduceMul, Nat.reduceLT, Nat.reduceSub, Nat.reduceLeDiff]
      refine ⟨.inr trivial, _, rfl, ?_⟩
      have e : (List.range n).findIdx? (fun i => M i k != 0) = some i := by
        rw [List.findIdx?_eq_some_iff_getElem]
        refine ⟨by simp; exact hlt, by simpa using hz, fun j hj => ?_⟩
        have := hb j hj
        simpa using this
      rw [e]; exact Rn.same rfl
    | false =>
      simp (maxSteps := 1000000) (disch := first | omega | (simp only [lenW] <;> omega)) only [wordsN, Int.reduceGT, wordsR, ne_eq, words, Nat.reduceAdd, Nat.reduceEqDiff, Nat.reduceBEq, ↓reduceIte, reduceCtorEq, SX.exit.injEq, if_true, if_false, Int.reduceAdd, Int.reduceSub, Int.reduceMul, Int.reduceLT, Int.reduceLE, Int.reduceEq, Int.reduceNe, Int.reduceNeg, Int.reduceToNat, Nat.reduceMul, Nat.reduceLT, Nat.reduceSub, Nat.reduceLeDiff]
      refine ⟨i + 1, by omega, ⟨by omega, fun j hj => ?_⟩, ?_⟩
      · by_cases e : j = i
        · subst e; exact hz
        · exact hb j (by omega)
      · exact ⟨[], rfl, RO.zero, trivial, RT.cons' rfl (Rn.same (by simp only [noRef, hnf])) (RT.cons' rfl (Rn.same rfl) (RT.cons' rfl (Rn.same rfl) (RT.cons' rfl (Rn.same rfl) RT.nil)))⟩
  · simp (maxSteps := 1000000) (disch := first | omega | (simp only [lenW] <;> omega)) only [hlt, wordsN, Int.reduceGT, wordsR, ne_eq, words, Nat.reduceAdd, Nat.reduceEqDiff, Nat.reduceBEq, ↓reduceIte, reduceCtorEq, SX.exit.injEq, if_true, if_false, Int.reduceAdd, Int.reduceSub, Int.reduceMul, Int.reduceLT, Int.reduceLE, Int.reduceEq, Int.reduceNe, Int.reduceNeg, Int.reduceToNat, Nat.reduceMul, Nat.reduceLT, Nat.reduceSub, Nat.reduceLeDiff]
    refine ⟨.inr trivial, _, rfl, ?_⟩
    have e : (List.range n).findIdx? (fun i => M i k != 0) = none := by
      rw [List.findIdx?_eq_none_iff]
      intro j hj
      exact hb j (by have := List.mem_range.1 hj; omega)
    rw [e]; exact Rn.same rfl
structure KInv (nr k : Nat) (s : KS) : Prop where
  piv : s.piv ≤ nr
  free : s.free = -1 ∨ (0 ≤ s.free ∧ s.free < k)
  pos : ∀ c, c < k → (c : Int) ≠ s.free → s.pos c < s.piv
theorem kfind_some {nr k i : Nat} {s : KS} (h : kfind nr k s = some i) : s.piv + i < nr ∧ s.M (s.piv + i) k ≠ 0 := by
  unfold kfind at h
  rw [List.findIdx?_eq_some_iff_getElem] at h
  obtain ⟨h1, h2, _⟩ := h
  simp at h1 h2
  exact ⟨by omega, h2⟩
theorem krun_inv (R : List (List Int)) (cols : List Nat) : ∀ (k : Nat) (s : KS), krun R cols k = some s → KInv (rows0 R cols).length k s
  | 0, s, h => by
    simp only [krun, Option.some.injEq] at h
    subst h
    exact ⟨Nat.zero_le _, .inl rfl, fun c hc => absurd hc (Nat.not_lt_zero _)⟩
  | k + 1, s, h => by
    simp only [krun, Option.bind_eq_some_iff] at h
    obtain ⟨s0, h0, h1⟩ := h
    obtain ⟨i1, i2, i3⟩ := krun_inv R cols k s0 h0
    unfold kstep at h1
    split at h1
    · split at h1
      · cases h1
      · rename_i hf
        cases h1
        refine ⟨i1, .inr ⟨by simp, by simp; omega⟩, fun c hc hne => ?_⟩
        have hck : c ≠ k := fun e => hne (by rw [e])
        exact i3 c (by omega) (by rcases i2 with h | h <;> omega)
    · rename_i i hi
      cases h1
      obtain ⟨q1, q2⟩ := kfind_some hi
      refine ⟨by show s0.piv + 1 ≤ _; omega, by rcases i2 with h | h
                                                · exact .inl h
                                                · exact .inr ⟨h.1, by show s0.free < _; omega⟩, fun c hc hne => ?_⟩
      show (if c = k then s0.piv else s0.pos c) < s0.piv + 1
      split
      · omega
      · have := i3 c (by omega) hne; omega
theorem krun_none (R : List (List Int)) (cols : List Nat) : ∀ (k j : Nat), krun R cols k = none → krun R cols (k + j) = none
  | k, 0, h => h
  | k, j + 1, h => by
    show (krun R cols (k + j)).bind _ = none
    rw [krun_none R cols k j h]; rfl
theorem kgcd_succ (f : Nat → Int) (k : Nat) : kgcd ((List.range (k + 1)).map f) = Nat.gcd (kgcd ((List.range k).map f)) (f k).natAbs := by
  unfold kgcd
  rw [List.range_succ, List.map_append, List.foldl_append]; rfl
theorem tdiv_small {x : Int} {g : Nat} (h1 : -2147483648 < x) (h2 : x < 2147483648) : -2147483648 < x.tdiv g ∧ x.tdiv g < 2147483648 := by
  have h : (x.tdiv g).natAbs ≤ x.natAbs := by rw [Int.natAbs_tdiv]; exact Nat.div_le_self _ _
  omega
end Go.AM.SN
namespace Go.AM.SN
set_option maxRecDepth 100000
set_option linter.unusedSimpArgs false
set_option linter.unusedVariables false
abbrev Rw := Nat → Int
def D2 (r0 r1 : Rw) (c0 c1 : Nat) : Int := r0 c0 * r1 c1 - r0 c1 * r1 c0
def D3 (r0 r1 r2 : Rw) (c0 c1 c2 : Nat) : Int := r2 c2 * D2 r0 r1 c0 c1 - r2 c1 * D2 r0 r1 c0 c2 + r2 c0 * D2 r0 r1 c1 c2
def D4 (r0 r1 r2 r3 : Rw) (c0 c1 c2 c3 : Nat) : Int := r3 c3 * D3 r0 r1 r2 c0 c1 c2 - r3 c2 * D3 r0 r1 r2 c0 c1 c3 + r3 c1 * D3 r0 r1 r2 c0 c2 c3 - r3 c0 * D3 r0 r1 r2 c1 c2 c3
def D5 (r0 r1 r2 r3 r4 : Rw) (c0 c1 c2 c3 c4 : Nat) : Int := r4 c4 * D4 r0 r1 r2 r3 c0 c1 c2 c3 - r4 c3 * D4 r0 r1 r2 r3 c0 c1 c2 c4 + r4 c2 * D4 r0 r1 r2 r3 c0 c1 c3 c4 - r4 c1 * D4 r0 r1 r2 r3 c0 c2 c3 c4 + r4 c0 * D4 r0 r1 r2 r3 c1 c2 c3 c4
theorem syl1 (a p j : Rw) (k0 k c : Nat) : D2 a p k0 k * D2 a j k0 c - D2 a j k0 k * D2 a p k0 c = a k0 * D3 a p j k0 k c := by
  unfold D3 D2; grind
theorem syl2 (a b p j : Rw) (k0 k1 k c : Nat) : D3 a b p k0 k1 k * D3 a b j k0 k1 c - D3 a b j k0 k1 k * D3 a b p k0 k1 c = D2 a b k0 k1 * D4 a b p j k0 k1 k c := by
  unfold D4 D3 D2; grind
set_option maxHeartbeats 4000000 in
theorem syl3 (a b e p j : Rw) (k0 k1 k2 k c : Nat) : D4 a b e p k0 k1 k2 k * D4 a b e j k0 k1 k2 c - D4 a b e j k0 k1 k2 k * D4 a b e p k0 k1 k2 c = D3 a b e k0 k1 k2 * D5 a b e p j k0 k1 k2 k c := by
  unfold D5 D4 D3 D2; grind
theorem piv1 (a p : Rw) (k0 k c : Nat) : D2 a p k0 k * a c - a k * D2 a p k0 c = a k0 * D2 a p c k := by
  unfold D2; grind
theorem piv2a (a b p : Rw) (k0 k1 k c : Nat) : D3 a b p k0 k1 k * D2 a b c k1 - D2 a b k k1 * D3 a b p k0 k1 c = D2 a b k0 k1 * D3 a b p c k1 k := by
  unfold D3 D2; grind
theorem piv2b (a b p : Rw) (k0 k1 k c : Nat) : D3 a b p k0 k1 k * D2 a b k0 c - D2 a b k0 k * D3 a b p k0 k1 c = D2 a b k0 k1 * D3 a b p k0 c k := by
  unfold D3 D2; grind
theorem piv3a (a b e p : Rw) (k0 k1 k2 k c : Nat) : D4 a b e p k0 k1 k2 k * D3 a b e c k1 k2 - D3 a b e k k1 k2 * D4 a b e p k0 k1 k2 c = D3 a b e k0 k1 k2 * D4 a b e p c k1 k2 k := by
  unfold D4 D3 D2; grind
theorem piv3b (a b e p : Rw) (k0 k1 k2 k c : Nat) : D4 a b e p k0 k1 k2 k * D3 a b e k0 c k2 - D3 a b e k0 k k2 * D4 a b e p k0 k1 k2 c = D3 a b e k0 k1 k2 * D4 a b e p k0 c k2 k := by
  unfold D4 D3 D2; grind
theorem piv3c (a b e p : Rw) (k0 k1 k2 k c : Nat) : D4 a b e p k0 k1 k2 k * D3 a b e k0 k1 c - D3 a b e k0 k1 k * D4 a b e p k0 k1 k2 c = D3 a b e k0 k1 k2 * D4 a b e p k0 k1 c k := by
  unfold D4 D3 D2; grind
theorem row1 (a j : Rw) (k0 f : Nat) : j f * a k0 - j k0 * a f = D2 a j k0 f := by unfold D2; grind
theorem row2 (a b j : Rw) (k0 k1 f : Nat) : j f * D2 a b k0 k1 - j k0 * D2 a b f k1 - j k1 * D2 a b k0 f = D3 a b j k0 k1 f := by unfold D3 D2; grind
theorem row3 (a b e j : Rw) (k0 k1 k2 f : Nat) : j f * D3 a b e k0 k1 k2 - j k0 * D3 a b e f k1 k2 - j k1 * D3 a b e k0 f k2 - j k2 * D3 a b e k0 k1 f = D4 a b e j k0 k1 k2 f := by unfold D4 D3 D2; grind
theorem row4 (a b e d j : Rw) (k0 k1 k2 k3 f : Nat) : j f * D4 a b e d k0 k1 k2 k3 - j k0 * D4 a b e d f k1 k2 k3 - j k1 * D4 a b e d k0 f k2 k3 - j k2 * D4 a b e d k0 k1 f k3 - j k3 * D4 a b e d k0 k1 k2 f = D5 a b e d j k0 k1 k2 k3 f := by unfold D5 D4 D3 D2; grind
theorem dup2 (a : Rw) (c0 c1 : Nat) : D2 a a c0 c1 = 0 := by unfold D2; grind
theorem dup3a (a b : Rw) (c0 c1 c2 : Nat) : D3 a b a c0 c1 c2 = 0 := by unfold D3 D2; grind
theorem dup3b (a b : Rw) (c0 c1 c2 : Nat) : D3 a b b c0 c1 c2 = 0 := by unfold D3 D2; grind
theorem dup4a (a b e : Rw) (c0 c1 c2 c3 : Nat) : D4 a b e a c0 c1 c2 c3 = 0 := by unfold D4 D3 D2; grind
theorem dup4b (a b e : Rw) (c0 c1 c2 c3 : Nat) : D4 a b e b c0 c1 c2 c3 = 0 := by unfold D4 D3 D2; grind
theorem dup4c (a b e : Rw) (c0 c1 c2 c3 : Nat) : D4 a b e e c0 c1 c2 c3 = 0 := by unfold D4 D3 D2; grind
theorem dup5a (a b e d : Rw) (c0 c1 c2 c3 c4 : Nat) : D5 a b e d a c0 c1 c2 c3 c4 = 0 := by unfold D5 D4 D3 D2; grind
theorem dup5b (a b e d : Rw) (c0 c1 c2 c3 c4 : Nat) : D5 a b e d b c0 c1 c2 c3 c4 = 0 := by unfold D5 D4 D3 D2; grind
theorem dup5c (a b e d : Rw) (c0 c1 c2 c3 c4 : Nat) : D5 a b e d e c0 c1 c2 c3 c4 = 0 := by unfold D5 D4 D3 D2; grind
theorem dup5d (a b e d : Rw) (c0 c1 c2 c3 c4 : Nat) : D5 a b e d d c0 c1 c2 c3 c4 = 0 := by unfold D5 D4 D3 D2; grind
theorem mul_bd {x y : Int} {a b : Nat} (hx : x.natAbs ≤ a) (hy : y.natAbs ≤ b) : (x * y).natAbs ≤ a * b := by
  rw [Int.natAbs_mul]; exact Nat.mul_le_mul hx hy
section
variable {B : Nat} {r0 r1 r2 r3 r4 : Rw} (h0 : ∀ c, (r0 c).natAbs ≤ B) (h1 : ∀ c, (r1 c).natAbs ≤ B) (h2 : ∀ c, (r2 c).natAbs ≤ B) (h3 : ∀ c, (r3 c).natAbs ≤ B) (h4 : ∀ c, (r4 c).natAbs ≤ B)
include h0 h1
theorem D2_bd (c0 c1 : Nat) : (D2 r0 r1 c0 c1).natAbs ≤ 2 * (B * B) := by
  have e1 := mul_bd (h0 c0) (h1 c1)
  have e2 := mul_bd (h0 c1) (h1 c0)
  unfold D2; omega
include h2
theorem D3_bd (c0 c1 c2 : Nat) : (D3 r0 r1 r2 c0 c1 c2).natAbs ≤ 3 * (B * (2 * (B * B))) := by
  have e1 := mul_bd (h2 c2) (D2_bd h0 h1 c0 c1)
  have e2 := mul_bd (h2 c1) (D2_bd h0 h1 c0 c2)
  have e3 := mul_bd (h2 c0) (D2_bd h0 h1 c1 c2)
  unfold D3; omega
include h3
theorem D4_bd (c0 c1 c2 c3 : Nat) : (D4 r0 r1 r2 r3 c0 c1 c2 c3).natAbs ≤ 4 * (B * (3 * (B * (2 * (B * B))))) := by
  have e1 := mul_bd (h3 c3) (D3_bd h0 h1 h2 c0 c1 c2)
  have e2 := mul_bd (h3 c2) (D3_bd h0 h1 h2 c0 c1 c3)
  have e3 := mul_bd (h3 c1) (D3_bd h0 h1 h2 c0 c2 c3)
  have e4 := mul_bd (h3 c0) (D3_bd h0 h1 h2 c1 c2 c3)
  unfold D4; omega
include h4
theorem D5_bd (c0 c1 c2 c3 c4 : Nat) : (D5 r0 r1 r2 r3 r4 c0 c1 c2 c3 c4).natAbs ≤ 5 * (B * (4 * (B * (3 * (B * (2 * (B * B))))))) := by
  have e1 := mul_bd (h4 c4) (D4_bd h0 h1 h2 h3 c0 c1 c2 c3)
  have e2 := mul_bd (h4 c3) (D4_bd h0 h1 h2 h3 c0 c1 c2 c4)
  have e3 := mul_bd (h4 c2) (D4_bd h0 h1 h2 h3 c0 c1 c3 c4)
  have e4 := mul_bd (h4 c1) (D4_bd h0 h1 h2 h3 c0 c2 c3 c4)
  have e5 := mul_bd (h4 c0) (D4_bd h0 h1 h2 h3 c1 c2 c3 c4)
  unfold D5; omega
end
end Go.AM.SN
namespace Go.AM.SN
set_option maxRecDepth 100000
set_option linter.unusedSimpArgs false
set_option linter.unusedVariables false
def Rel (n : Nat) (P : Nat → Rw) (K : Nat → Nat) : Nat → Mx → Int → Prop
  | 0, M, last => last = 1 ∧ ∀ j c, c < n → M j c = P j c
  | 1, M, last => last = P 0 (K 0) ∧ (∀ c, c < n → M 0 c = P 0 c) ∧ ∀ j c, 1 ≤ j → c < n → M j c = D2 (P 0) (P j) (K 0) c
  | 2, M, last => last = D2 (P 0) (P 1) (K 0) (K 1) ∧ (∀ c, c < n → M 0 c = D2 (P 0) (P 1) c (K 1)) ∧ (∀ c, c < n → M 1 c = D2 (P 0) (P 1) (K 0) c) ∧
      ∀ j c, 2 ≤ j → c < n → M j c = D3 (P 0) (P 1) (P j) (K 0) (K 1) c
  | 3, M, last => last = D3 (P 0) (P 1) (P 2) (K 0) (K 1) (K 2) ∧ (∀ c, c < n → M 0 c = D3 (P 0) (P 1) (P 2) c (K 1) (K 2)) ∧ (∀ c, c < n → M 1 c = D3 (P 0) (P 1) (P 2) (K 0) c (K 2)) ∧
      (∀ c, c < n → M 2 c = D3 (P 0) (P 1) (P 2) (K 0) (K 1) c) ∧ ∀ j c, 3 ≤ j → c < n → M j c = D4 (P 0) (P 1) (P 2) (P j) (K 0) (K 1) (K 2) c
  | 4, M, last => last = D4 (P 0) (P 1) (P 2) (P 3) (K 0) (K 1) (K 2) (K 3) ∧ (∀ c, c < n → M 0 c = D4 (P 0) (P 1) (P 2) (P 3) c (K 1) (K 2) (K 3)) ∧ (∀ c, c < n → M 1 c = D4 (P 0) (P 1) (P 2) (P 3) (K 0) c (K 2) (K 3)) ∧
      (∀ c, c < n → M 2 c = D4 (P 0) (P 1) (P 2) (P 3) (K 0) (K 1) c (K 3)) ∧ (∀ c, c < n → M 3 c = D4 (P 0) (P 1) (P 2) (P 3) (K 0) (K 1) (K 2) c) ∧
      ∀ j c, 4 ≤ j → c < n → M j c = D5 (P 0) (P 1) (P 2) (P 3) (P j) (K 0) (K 1) (K 2) (K 3) c
  | _, _, _ => True
def rswap (P : Nat → Rw) (a b : Nat) : Nat → Rw := fun j => if j = a then P b else if j = b then P a else P j
theorem rswap_lt {P : Nat → Rw} {a b j : Nat} (h1 : j < a) (h2 : a ≤ b) : rswap P a b j = P j := by
  unfold rswap; rw [if_neg (by omega), if_neg (by omega)]
theorem kswap_lt {M : Mx} {a b j : Nat} (h1 : j < a) (h2 : a ≤ b) : kswap M a b j = M j := by
  funext c; unfold kswap; rw [if_neg (by omega), if_neg (by omega)]
theorem swap_all {n : Nat} {P : Nat → Rw} {M : Mx} {s i : Nat} {F : Rw → Nat → Int} (h : ∀ j c, s ≤ j → c < n → M j c = F (P j) c) : ∀ j c, s ≤ j → c < n → kswap M s (s + i) j c = F (rswap P s (s + i) j) c := by
  intro j c hj hc
  unfold kswap rswap
  by_cases e1 : j = s
  · rw [if_pos e1, if_pos e1]; exact h _ _ (by omega) hc
  · by_cases e2 : j = s + i
    · rw [if_neg e1, if_neg e1, if_pos e2, if_pos e2]; exact h _ _ (Nat.le_refl _) hc
    · rw [if_neg e1, if_neg e1, if_neg e2, if_neg e2]; exact h _ _ hj hc
theorem Rel.swap {n : Nat} {P : Nat → Rw} {K : Nat → Nat} {s : Nat} {M : Mx} {last : Int} (i : Nat) (hs : s ≤ 4) (h : Rel n P K s M last) : Rel n (rswap P s (s + i)) K s (kswap M s (s + i)) last := by
  match s, hs, h with
  | 0, _, h => exact ⟨h.1, fun j c hc => swap_all (F := fun r c => r c) (fun j c _ hc => h.2 j c hc) j c (Nat.zero_le _) hc⟩
  | 1, _, ⟨h1, h2, h3⟩ =>
    simp only [Rel, rswap_lt (P := P) (show 0 < 1 by omega) (show 1 ≤ 1 + i by omega), kswap_lt (M := M) (show 0 < 1 by omega) (show 1 ≤ 1 + i by omega)]
    exact ⟨h1, h2, swap_all (F := fun r c => D2 (P 0) r (K 0) c) h3⟩
  | 2, _, ⟨h1, h2, h3, h4⟩ =>
    simp only [Rel, rswap_lt (P := P) (show 0 < 2 by omega) (show 2 ≤ 2 + i by omega), kswap_lt (M := M) (show 0 < 2 by omega) (show 2 ≤ 2 + i by omega), rswap_lt (P := P) (show 1 < 2 by omega) (show 2 ≤ 2 + i by omega), kswap_lt (M := M) (show 1 < 2 by omega) (show 2 ≤ 2 + i by omega)]
    exact ⟨h1, h2, h3, swap_all (F := fun r c => D3 (P 0) (P 1) r (K 0) (K 1) c) h4⟩
  | 3, _, ⟨h1, h2, h3, h4, h5⟩ =>
    simp only [Rel, rswap_lt (P := P) (show 0 < 3 by omega) (show 3 ≤ 3 + i by omega), kswap_lt (M := M) (show 0 < 3 by omega) (show 3 ≤ 3 + i by omega), rswap_lt (P := P) (show 1 < 3 by omega) (show 3 ≤ 3 + i by omega), kswap_lt (M := M) (show 1 < 3 by omega) (show 3 ≤ 3 + i by omega), rswap_lt (P := P) (show 2 < 3 by omega) (show 3 ≤ 3 + i by omega), kswap_lt (M := M) (show 2 < 3 by omega) (show 3 ≤ 3 + i by omega)]
    exact ⟨h1, h2, h3, h4, swap_all (F := fun r c => D4 (P 0) (P 1) (P 2) r (K 0) (K 1) (K 2) c) h5⟩
  | 4, _, ⟨h1, h2, h3, h4, h5, h6⟩ =>
    simp only [Rel, rswap_lt (P := P) (show 0 < 4 by omega) (show 4 ≤ 4 + i by omega), kswap_lt (M := M) (show 0 < 4 by omega) (show 4 ≤ 4 + i by omega), rswap_lt (P := P) (show 1 < 4 by omega) (show 4 ≤ 4 + i by omega), kswap_lt (M := M) (show 1 < 4 by omega) (show 4 ≤ 4 + i by omega), rswap_lt (P := P) (show 2 < 4 by omega) (show 4 ≤ 4 + i by omega), kswap_lt (M := M) (show 2 < 4 by omega) (show 4 ≤ 4 + i by omega), rswap_lt (P := P) (show 3 < 4 by omega) (show 4 ≤ 4 + i by omega), kswap_lt (M := M) (show 3 < 4 by omega) (show 4 ≤ 4 + i by omega)]
    exact ⟨h1, h2, h3, h4, h5, swap_all (F := fun r c => D5 (P 0) (P 1) (P 2) (P 3) r (K 0) (K 1) (K 2) (K 3) c) h6⟩
theorem kelim_piv {n k s c : Nat} {M : Mx} {last : Int} : kelim n k M s last s c = M s c := by unfold kelim; rw [if_pos (.inl rfl)]
theorem kelim_of {n k s j c : Nat} {M : Mx} {last v : Int} (hl : last ≠ 0) (hj : j ≠ s) (hc : c < n) (h : M s k * M j c - M j k * M s c = last * v) : kelim n k M s last j c = v := by
  unfold kelim; rw [if_neg (by omega), h, Int.mul_tdiv_cancel_left _ hl]
def kput (K : Nat → Nat) (s k : Nat) : Nat → Nat := fun l => if l = s then k else K l
theorem Rel.step {n : Nat} {P : Nat → Rw} {K : Nat → Nat} {s k : Nat} {M : Mx} {last : Int} (hs : s ≤ 3) (h : Rel n P K s M last) (hl : last ≠ 0) (hk : k < n) : Rel n P (kput K s k) (s + 1) (kelim n k M s last) (M s k) := by
  match s, hs, h with
  | 0, _, ⟨h1, h2⟩ =>
    refine ⟨h2 0 k hk, fun c hc => by rw [kelim_piv]; exact h2 0 c hc, fun j c hj hc => ?_⟩
    refine kelim_of hl (by omega) hc ?_
    rw [h2 _ _ hk, h2 _ _ hc, h2 _ _ hk, h2 _ _ hc, h1]
    show _ = 1 * D2 (P 0) (P j) k c
    unfold D2; grind
  | 1, _, ⟨h1, h2, h3⟩ =>
    have e0 : kput K 1 k 0 = K 0 := rfl
    have e1 : kput K 1 k 1 = k := rfl
    simp only [Rel, e0, e1]
    have hp : ∀ c, c < n → M 1 c = D2 (P 0) (P 1) (K 0) c := fun c hc => h3 1 c (Nat.le_refl _) hc
    refine ⟨hp k hk, fun c hc => ?_, fun c hc => by rw [kelim_piv]; exact hp c hc, fun j c hj hc => ?_⟩
    · refine kelim_of hl (by omega) hc ?_
      rw [hp _ hk, hp _ hc, h2 _ hk, h2 _ hc, h1, piv1]
    · refine kelim_of hl (by omega) hc ?_
      rw [hp _ hk, hp _ hc, h3 j _ (by omega) hk, h3 j _ (by omega) hc, h1, syl1]
  | 2, _, ⟨h1, h2, h3, h4⟩ =>
    have e0 : kput K 2 k 0 = K 0 := rfl
    have e1 : kput K 2 k 1 = K 1 := rfl
    have e2 : kput K 2 k 2 = k := rfl
    simp only [Rel, e0, e1, e2]
    have hp : ∀ c, c < n → M 2 c = D3 (P 0) (P 1) (P 2) (K 0) (K 1) c := fun c hc => h4 2 c (Nat.le_refl _) hc
    refine ⟨hp k hk, fun c hc => ?_, fun c hc => ?_, fun c hc => by rw [kelim_piv]; exact hp c hc, fun j c hj hc => ?_⟩
    · refine kelim_of hl (by omega) hc ?_
      rw [hp _ hk, hp _ hc, h2 _ hk, h2 _ hc, h1, piv2a]
    · refine kelim_of hl (by omega) hc ?_
      rw [hp _ hk, hp _ hc, h3 _ hk, h3 _ hc, h1, piv2b]
    · refine kelim_of hl (by omega) hc ?_
      rw [hp _ hk, hp _ hc, h4 j _ (by omega) hk, h4 j _ (by omega) hc, h1, syl2]
  | 3, _, ⟨h1, h2, h3, h4, h5⟩ =>
    have e0 : kput K 3 k 0 = K 0 := rfl
    have e1 : kput K 3 k 1 = K 1 := rfl
    have e2 : kput K 3 k 2 = K 2 := rfl
    have e3 : kput K 3 k 3 = k := rfl
    simp only [Rel, e0, e1, e2, e3]
    have hp : ∀ c, c < n → M 3 c = D4 (P 0) (P 1) (P 2) (P 3) (K 0) (K 1) (K 2) c := fun c hc => h5 3 c (Nat.le_refl _) hc
    refine ⟨hp k hk, fun c hc => ?_, fun c hc => ?_, fun c hc => ?_, fun c hc => by rw [kelim_piv]; exact hp c hc, fun j c hj hc => ?_⟩
    · refine kelim_of hl (by omega) hc ?_
      rw [hp _ hk, hp _ hc, h2 _ hk, h2 _ hc, h1, piv3a]
    · refine kelim_of hl (by omega) hc ?_
      rw [hp _ hk, hp _ hc, h3 _ hk, h3 _ hc, h1, piv3b]
    · refine kelim_of hl (by omega) hc ?_
      rw [hp _ hk, hp _ hc, h4 _ hk, h4 _ hc, h1, piv3c]
    · refine kelim_of hl (by omega) hc ?_
      rw [hp _ hk, hp _ hc, h5 j _ (by omega) hk, h5 j _ (by omega) hc, h1, syl3]
theorem Rel.bd {n : Nat} {P : Nat → Rw} {K : Nat → Nat} {s : Nat} {M : Mx} {last : Int} {B : Nat} (hB : ∀ j c, (P j c).natAbs ≤ B) (hB8 : B ≤ 8) (hs : s ≤ 4) (h : Rel n P K s M last) (hM : ∀ j c, n ≤ c → M j c = 0) :
    last.natAbs ≤ 3932160 ∧ ∀ j c, (M j c).natAbs ≤ 3932160 := by
  have hB' : ∀ j c, (P j c).natAbs ≤ 8 := fun j c => Nat.le_trans (hB j c) hB8
  have b2 := fun a b c d => D2_bd (hB' a) (hB' b) c d
  have b3 := fun a b e c d f => D3_bd (hB' a) (hB' b) (hB' e) c d f
  have b4 := fun a b e g c d f i => D4_bd (hB' a) (hB' b) (hB' e) (hB' g) c d f i
  have b5 := fun a b e g l c d f i m => D5_bd (hB' a) (hB' b) (hB' e) (hB' g) (hB' l) c d f i m
  have hz : ∀ j c, n ≤ c → (M j c).natAbs ≤ 3932160 := fun j c hc => by rw [hM j c hc]; decide
  match s, hs, h with
  | 0, _, ⟨h1, h2⟩ =>
    refine ⟨by rw [h1]; decide, fun j c => ?_⟩
    rcases Nat.lt_or_ge c n with hc | hc
    · rw [h2 j c hc]; have := hB' j c; omega
    · exact hz j c hc
  | 1, _, ⟨h1, h2, h3⟩ =>
    refine ⟨by rw [h1]; have := hB' 0 (K 0); omega, fun j c => ?_⟩
    rcases Nat.lt_or_ge c n with hc | hc
    · match j with
      | 0 => rw [h2 c hc]; have := hB' 0 c; omega
      | j + 1 => rw [h3 (j + 1) c (by omega) hc]; have := b2 0 (j + 1) (K 0) c; omega
    · exact hz j c hc
  | 2, _, ⟨h1, h2, h3, h4⟩ =>
    refine ⟨by rw [h1]; have := b2 0 1 (K 0) (K 1); omega, fun j c => ?_⟩
    rcases Nat.lt_or_ge c n with hc | hc
    · match j with
      | 0 => rw [h2 c hc]; have := b2 0 1 c (K 1); omega
      | 1 => rw [h3 c hc]; have := b2 0 1 (K 0) c; omega
      | j + 2 => rw [h4 (j + 2) c (by omega) hc]; have := b3 0 1 (j + 2) (K 0) (K 1) c; omega
    · exact hz j c hc
  | 3, _, ⟨h1, h2, h3, h4, h5⟩ =>
    refine ⟨by rw [h1]; have := b3 0 1 2 (K 0) (K 1) (K 2); omega, fun j c => ?_⟩
    rcases Nat.lt_or_ge c n with hc | hc
    · match j with
      | 0 => rw [h2 c hc]; have := b3 0 1 2 c (K 1) (K 2); omega
      | 1 => rw [h3 c hc]; have := b3 0 1 2 (K 0) c (K 2); omega
      | 2 => rw [h4 c hc]; have := b3 0 1 2 (K 0) (K 1) c; omega
      | j + 3 => rw [h5 (j + 3) c (by omega) hc]; have := b4 0 1 2 (j + 3) (K 0) (K 1) (K 2) c; omega
    · exact hz j c hc
  | 4, _, ⟨h1, h2, h3, h4, h5, h6⟩ =>
    refine ⟨by rw [h1]; have := b4 0 1 2 3 (K 0) (K 1) (K 2) (K 3); omega, fun j c => ?_⟩
    rcases Nat.lt_or_ge c n with hc | hc
    · match j with
      | 0 => rw [h2 c hc]; have := b4 0 1 2 3 c (K 1) (K 2) (K 3); omega
      | 1 => rw [h3 c hc]; have := b4 0 1 2 3 (K 0) c (K 2) (K 3); omega
      | 2 => rw [h4 c hc]; have := b4 0 1 2 3 (K 0) (K 1) c (K 3); omega
      | 3 => rw [h5 c hc]; have := b4 0 1 2 3 (K 0) (K 1) (K 2) c; omega
      | j + 4 => rw [h6 (j + 4) c (by omega) hc]; have := b5 0 1 2 3 (j + 4) (K 0) (K 1) (K 2) (K 3) c; omega
    · exact hz j c hc
end Go.AM.SN
namespace Go.AM.SN
set_option maxRecDepth 100000
set_option linter.unusedSimpArgs false
set_option linter.unusedVariables false
def kcol (free : Int) (l : Nat) : Nat := if free < 0 ∨ (l : Int) < free then l else l + 1
def kpos (free : Int) (c : Nat) : Nat := if free < 0 ∨ (c : Int) < free then c else c - 1
structure Inv (A : Nat → Rw) (nr n k : Nat) (s : KS) (P : Nat → Rw) (K : Nat → Nat) : Prop where
  from' : ∀ j, ∃ i, P j = A i
  onto : ∀ i, i < nr → ∃ j, j < nr ∧ P j = A i
  rel : Rel n P K s.piv s.M s.last
  nz : s.last ≠ 0
  out : ∀ j c, n ≤ c → s.M j c = 0
  cnt : (s.free = -1 ∧ s.piv = k) ∨ (0 ≤ s.free ∧ s.free < k ∧ s.piv + 1 = k ∧ ∀ j, s.piv ≤ j → j < nr → s.M j s.free.toNat = 0)
  col : ∀ l, l < s.piv → K l = kcol s.free l
  pos : ∀ c, c < k → (c : Int) ≠ s.free → s.pos c = kpos s.free c
theorem Rel.step' {n : Nat} {P : Nat → Rw} {K : Nat → Nat} {s k : Nat} {M : Mx} {last : Int} (hs : s ≤ 4) (h : Rel n P K s M last) (hl : last ≠ 0) (hk : k < n) : Rel n P (kput K s k) (s + 1) (kelim n k M s last) (M s k) := by
  by_cases e : s = 4
  · subst e; trivial
  · exact h.step (by omega) hl hk
theorem krun_Inv (R : List (List Int)) (cols : List Nat) (hn : cols.length ≤ 5) : ∀ (k : Nat) (s : KS), k ≤ cols.length → krun R cols k = some s → ∃ P K, Inv (mx (rows0 R cols)) (rows0 R cols).length cols.length k s P K
  | 0, s, _, h => by
    simp only [krun, Option.some.injEq] at h
    subst h
    refine ⟨mx (rows0 R cols), fun l => l, ⟨fun j => ⟨j, rfl⟩, fun i hi => ⟨i, hi, rfl⟩, ⟨rfl, fun _ _ _ => rfl⟩, (by show (1 : Int) ≠ 0; decide), fun j c hc => ?_, .inl ⟨rfl, rfl⟩, fun l hl => absurd hl (Nat.not_lt_zero _), fun c hc => absurd hc (Nat.not_lt_zero _)⟩⟩
    show ((rows0 R cols).getD j []).getD c 0 = 0
    rw [List.getD_eq_getElem?_getD, List.getD_eq_getElem?_getD]
    cases hj : (rows0 R cols)[j]? with
    | none => simp
    | some r =>
      have hr := List.mem_of_getElem? hj
      unfold rows0 at hr
      obtain ⟨q, _, rfl⟩ := List.mem_map.1 (List.mem_filter.1 hr).1
      simp only [Option.getD_some]
      rw [List.getElem?_eq_none (by simp [rrow]; exact hc)]; rfl
  | k + 1, s, hk, h => by
    simp only [krun, Option.bind_eq_some_iff] at h
    obtain ⟨s0, h0, h1⟩ := h
    obtain ⟨P, K, I⟩ := krun_Inv R cols hn k s0 (by omega) h0
    generalize (rows0 R cols).length = nr at *
    unfold kstep at h1
    split at h1
    · rename_i hf
      split at h1
      · cases h1
      · rename_i hfree
        cases h1
        have hm : s0.free = -1 ∧ s0.piv = k := by
          rcases I.cnt with h | h
          · exact h
          · exact absurd h.1 hfree
        refine ⟨P, K, ⟨I.from', I.onto, I.rel, I.nz, I.out, .inr ⟨by simp, by simp; omega, by show s0.piv + 1 = _; omega, ?_⟩, fun l hl => ?_, fun c hc hne => ?_⟩⟩
        · intro j hj hjn
          have hf' := hf
          unfold kfind at hf'
          rw [List.findIdx?_eq_none_iff] at hf'
          have := hf' (j - s0.piv) (by simp; have : s0.piv ≤ j := hj; omega)
          have hj' : s0.piv ≤ j := hj
          rw [show s0.piv + (j - s0.piv) = j by omega] at this
          simpa using this
        · have hl' : l < s0.piv := hl
          rw [I.col l hl']
          show kcol s0.free l = kcol (k : Int) l
          unfold kcol; rw [if_pos (.inl (by omega)), if_pos (.inr (by omega))]
        · have hck : c ≠ k := fun e => hne (by rw [e])
          show s0.pos c = kpos (k : Int) c
          rw [I.pos c (by omega) (by omega)]
          unfold kpos; rw [if_pos (.inl (by omega)), if_pos (.inr (by omega))]
    · rename_i i hi
      cases h1
      obtain ⟨q1, q2⟩ := kfind_some hi
      have hp4 : s0.piv ≤ 4 := by rcases I.cnt with h | h <;> omega
      have hsw : ∀ j, s0.piv ≤ j → j < nr → ∀ c, (∀ j, s0.piv ≤ j → j < nr → s0.M j c = 0) → kswap s0.M s0.piv (s0.piv + i) j c = 0 := by
        intro j hj hjn c hz
        unfold kswap
        split
        · exact hz _ (by omega) q1
        · split
          · exact hz _ (Nat.le_refl _) (by omega)
          · exact hz _ hj hjn
      refine ⟨rswap P s0.piv (s0.piv + i), kput K s0.piv k, ⟨fun j => ?_, fun a ha => ?_, (I.rel.swap i hp4).step' hp4 I.nz (by omega), ?_, fun j c hc => ?_, ?_, fun l hl => ?_, fun c hc hne => ?_⟩⟩
      · unfold rswap; split
        · exact I.from' _
        · split <;> exact I.from' _
      · obtain ⟨j, hj, e⟩ := I.onto a ha
        by_cases e1 : j = s0.piv
        · subst e1
          by_cases e2 : i = 0
          · subst e2; exact ⟨s0.piv, hj, by unfold rswap; rw [if_pos rfl]; exact e⟩
          · exact ⟨s0.piv + i, q1, by unfold rswap; rw [if_neg (by omega), if_pos rfl]; exact e⟩
        · by_cases e2 : j = s0.piv + i
          · subst e2
            exact ⟨s0.piv, by omega, by unfold rswap; rw [if_pos rfl]; exact e⟩
          · exact ⟨j, hj, by unfold rswap; rw [if_neg e1, if_neg e2]; exact e⟩
      · show kswap s0.M s0.piv (s0.piv + i) s0.piv k ≠ 0
        unfold kswap; rw [if_pos rfl]; exact q2
      · show kelim cols.length k (kswap s0.M s0.piv (s0.piv + i)) s0.piv s0.last j c = 0
        unfold kelim; rw [if_pos (.inr hc)]
        unfold kswap
        split
        · exact I.out _ _ hc
        · split <;> exact I.out _ _ hc
      · rcases I.cnt with h | ⟨h1, h2, h3, h4⟩
        · exact .inl ⟨h.1, by show s0.piv + 1 = _; omega⟩
        · refine .inr ⟨h1, by show s0.free < _; omega, by show s0.piv + 1 + 1 = _; omega, fun j hj hjn => ?_⟩
          have hj' : s0.piv + 1 ≤ j := hj
          show kelim cols.length k (kswap s0.M s0.piv (s0.piv + i)) s0.piv s0.last j s0.free.toNat = 0
          unfold kelim
          split
          · exact hsw j (by omega) hjn _ h4
          · rw [hsw j (by omega) hjn _ h4, hsw s0.piv (Nat.le_refl _) (by omega) _ h4]; simp
      · have hl' : l < s0.piv + 1 := hl
        show kput K s0.piv k l = kcol s0.free l
        unfold kput
        by_cases e : l = s0.piv
        · rw [if_pos e]; unfold kcol
          rcases I.cnt with h | h
          · rw [if_pos (.inl (by omega))]; omega
          · rw [if_neg (by omega)]; omega
        · rw [if_neg e]; exact I.col l (by omega)
      · show (if c = k then s0.piv else s0.pos c) = kpos s0.free c
        have hne' : (c : Int) ≠ s0.free := hne
        by_cases e : c = k
        · rw [if_pos e]; unfold kpos
          rcases I.cnt with h | h
          · rw [if_pos (.inl (by omega))]; omega
          · rw [if_neg (by omega)]; omega
        · rw [if_neg e]; exact I.pos c (by omega) hne'
theorem mx_bd {R : List (List Int)} {cols : List Nat} {B : Nat} (h : ∀ r ∈ R, ∀ x ∈ r, x.natAbs ≤ B) (i c : Nat) : (mx (rows0 R cols) i c).natAbs ≤ B := by
  unfold mx
  rw [List.getD_eq_getElem?_getD, List.getD_eq_getElem?_getD]
  cases hi : (rows0 R cols)[i]? with
  | none => simp
  | some r =>
    have hr := List.mem_of_getElem? hi
    unfold rows0 at hr
    obtain ⟨q, hq, rfl⟩ := List.mem_map.1 (List.mem_filter.1 hr).1
    simp only [Option.getD_some, rrow, List.getElem?_map]
    cases hc : cols[c]? with
    | none => simp
    | some d =>
      simp only [Option.map_some, Option.getD_some, List.getD_eq_getElem?_getD]
      cases hd : q[d]? with
      | none => simp
      | some x => exact h q hq x (List.mem_of_getElem? hd)
theorem Inv.piv4 {A : Nat → Rw} {nr n k : Nat} {s : KS} {P : Nat → Rw} {K : Nat → Nat} (I : Inv A nr n k s P K) (hn : n ≤ 5) (hk : k < n ∨ (k = n ∧ 0 ≤ s.free)) : s.piv ≤ 4 := by
  rcases I.cnt with h | h <;> omega
theorem KBd_of (R : List (List Int)) (cols : List Nat) (hn : cols.length ≤ 5) (hB : ∀ r ∈ R, ∀ x ∈ r, x.natAbs ≤ 8) : KBd R cols := by
  intro k s hs hk
  obtain ⟨P, K, I⟩ := krun_Inv R cols hn k s (by omega) hs
  have hP : ∀ j c, (P j c).natAbs ≤ 8 := fun j c => by obtain ⟨i, e⟩ := I.from' j; rw [e]; exact mx_bd hB i c
  obtain ⟨h1, h2⟩ := I.rel.bd hP (Nat.le_refl _) (I.piv4 hn hk) I.out
  exact ⟨I.nz, by omega, fun i c => by have := h2 i c; omega⟩
end Go.AM.SN
namespace Go.AM.SN
set_option maxRecDepth 100000
set_option linter.unusedSimpArgs false
set_option linter.unusedVariables false
def sumN (g : Nat → Int) : Nat → Int
  | 0 => 0
  | n + 1 => sumN g n + g n
theorem sumN_mul (g : Nat → Int) (a : Int) : ∀ n, sumN (fun c => g c * a) n = sumN g n * a
  | 0 => by simp [sumN]
  | n + 1 => by simp only [sumN, sumN_mul g a n, Int.add_mul]
theorem sumN_congr {f g : Nat → Int} : ∀ {n : Nat}, (∀ c, c < n → f c = g c) → sumN f n = sumN g n
  | 0, _ => rfl
  | n + 1, h => by simp only [sumN]; rw [sumN_congr (fun c hc => h c (by omega)), h n (by omega)]
theorem rowSum_sumN (f : Nat → Int) : ∀ (xs : List Int), rowSum xs ((List.range xs.length).map f) = sumN (fun c => xs.getD c 0 * f c) xs.length := by
  intro xs
  have key : ∀ i, i ≤ xs.length → rowSum (xs.take i) (((List.range xs.length).map f).take i) = sumN (fun c => xs.getD c 0 * f c) i := by
    intro i
    induction i with
    | zero => intro _; rfl
    | succ i ih =>
      intro hi
      obtain ⟨x, hx⟩ := get_ex (l := xs) (i := i) (by omega)
      rw [rowSum_take hx (y := f i) (by simp [List.getElem?_range (show i < xs.length by omega)]), ih (by omega)]
      show _ = sumN _ i + xs.getD i 0 * f i
      rw [show xs.getD i 0 = x by rw [List.getD_eq_getElem?_getD, hx]; rfl]
  have := key xs.length (Nat.le_refl _)
  rwa [List.take_length, List.take_of_length_le (by simp)] at this
theorem Rel.sum {n : Nat} {P : Nat → Rw} {K : Nat → Nat} {s f j : Nat} {M : Mx} {last : Int} (hs : s ≤ 4) (h : Rel n P K s M last) (hf : f < n) (hj : s ≤ j → M j f = 0) :
    P j f * last - sumN (fun l => P j (K l) * M l f) s = 0 := by
  match s, hs, h with
  | 0, _, ⟨h1, h2⟩ =>
    have := hj (Nat.zero_le _)
    rw [h2 j f hf] at this
    simp [sumN, this]
  | 1, _, ⟨h1, h2, h3⟩ =>
    simp only [sumN, Int.zero_add]
    rw [h1, h2 f hf, row1]
    match j, hj with
    | 0, _ => exact dup2 _ _ _
    | j + 1, hj => rw [← h3 (j + 1) f (by omega) hf]; exact hj (by omega)
  | 2, _, ⟨h1, h2, h3, h4⟩ =>
    simp only [sumN, Int.zero_add]
    rw [h1, h2 f hf, h3 f hf]
    have := row2 (P 0) (P 1) (P j) (K 0) (K 1) f
    rw [← Int.sub_sub, this]
    match j, hj with
    | 0, _ => exact dup3a _ _ _ _ _
    | 1, _ => exact dup3b _ _ _ _ _
    | j + 2, hj => rw [← h4 (j + 2) f (by omega) hf]; exact hj (by omega)
  | 3, _, ⟨h1, h2, h3, h4, h5⟩ =>
    simp only [sumN, Int.zero_add]
    rw [h1, h2 f hf, h3 f hf, h4 f hf]
    have := row3 (P 0) (P 1) (P 2) (P j) (K 0) (K 1) (K 2) f
    rw [← Int.sub_sub, ← Int.sub_sub, this]
    match j, hj with
    | 0, _ => exact dup4a _ _ _ _ _ _ _
    | 1, _ => exact dup4b _ _ _ _ _ _ _
    | 2, _ => exact dup4c _ _ _ _ _ _ _
    | j + 3, hj => rw [← h5 (j + 3) f (by omega) hf]; exact hj (by omega)
  | 4, _, ⟨h1, h2, h3, h4, h5, h6⟩ =>
    simp only [sumN, Int.zero_add]
    rw [h1, h2 f hf, h3 f hf, h4 f hf, h5 f hf]
    have := row4 (P 0) (P 1) (P 2) (P 3) (P j) (K 0) (K 1) (K 2) (K 3) f
    rw [← Int.sub_sub, ← Int.sub_sub, ← Int.sub_sub, this]
    match j, hj with
    | 0, _ => exact dup5a _ _ _ _ _ _ _ _ _
    | 1, _ => exact dup5b _ _ _ _ _ _ _ _ _
    | 2, _ => exact dup5c _ _ _ _ _ _ _ _ _
    | 3, _ => exact dup5d _ _ _ _ _ _ _ _ _
    | j + 4, hj => rw [← h6 (j + 4) f (by omega) hf]; exact hj (by omega)
theorem sumN_but (g : Nat → Int) (f : Nat) : ∀ s, f ≤ s → sumN g (s + 1) = g f + sumN (fun l => g (if l < f then l else l + 1)) s
  | 0, h => by
    obtain rfl : f = 0 := by omega
    simp [sumN]
  | s + 1, h => by
    rw [sumN]
    by_cases e : f = s + 1
    · subst e
      have : sumN (fun l => g (if l < s + 1 then l else l + 1)) (s + 1) = sumN g (s + 1) := sumN_congr fun c hc => by rw [if_pos hc]
      rw [this]; omega
    · rw [sumN_but g f s (by omega)]
      show _ = g f + (sumN _ s + g (if s < f then s else s + 1))
      rw [if_neg (by omega)]; omega
theorem kgcd_dvd (f : Nat → Int) : ∀ (n c : Nat), c < n → (kgcd ((List.range n).map f) : Int) ∣ f c
  | 0, c, h => absurd h (Nat.not_lt_zero _)
  | n + 1, c, h => by
    rw [kgcd_succ]
    by_cases e : c = n
    · subst e
      exact Int.dvd_natAbs.1 (Int.natCast_dvd_natCast.2 (Nat.gcd_dvd_right _ _))
    · exact Int.dvd_trans (Int.natCast_dvd_natCast.2 (Nat.gcd_dvd_left _ _)) (kgcd_dvd f n c (by omega))
theorem kgcd_pos {f : Nat → Int} {n : Nat} (hn : 0 < n) (h : ∀ c, c < n → f c ≠ 0) : kgcd ((List.range n).map f) ≠ 0 := by
  intro e
  have := kgcd_dvd f n 0 hn
  rw [e] at this
  exact h 0 hn (by simpa using this)
theorem kfin_some {n : Nat} {s : KS} {l : List Int} (h : kfin n s = some l) : 0 ≤ s.free ∧ (∀ c, c < n → kout s c ≠ 0) ∧ l = (List.range n).map fun k => if kout s 0 < 0 then -((kout s k).tdiv (kgcd ((List.range n).map (kout s)))) else (kout s k).tdiv (kgcd ((List.range n).map (kout s))) := by
  unfold kfin at h
  split at h
  · cases h
  · split at h
    · cases h
    · rename_i h1 h2
      cases h
      refine ⟨by omega, fun c hc e => h2 ?_, rfl⟩
      rw [List.any_eq_true]
      exact ⟨kout s c, List.mem_map.2 ⟨c, by simpa using hc, rfl⟩, by simp [e]⟩
theorem ker_propG {B C : Nat} (hbd : ∀ {n : Nat} {P : Nat → Rw} {K : Nat → Nat} {s : Nat} {M : Mx} {last : Int}, (∀ j c, (P j c).natAbs ≤ B) → s ≤ 4 → Rel n P K s M last → last.natAbs ≤ C ∧ ∀ l c, l < s → c < n → (M l c).natAbs ≤ C)
    {R : List (List Int)} {cols : List Nat} {l : List Int} (hn0 : 0 < cols.length) (hn : cols.length ≤ 5) (hB : ∀ r ∈ R, ∀ x ∈ r, x.natAbs ≤ B) (h : kerR R cols = some l) :
    l.length = cols.length ∧ (∀ x ∈ l, x ≠ 0 ∧ x.natAbs ≤ C) ∧ ∀ r ∈ R, rowSum (rrow cols r) l = 0 := by
  unfold kerR at h
  simp only [Option.bind_eq_some_iff] at h
  obtain ⟨s, hs, hf⟩ := h
  obtain ⟨P, K, I⟩ := krun_Inv R cols hn _ s (Nat.le_refl _) hs
  obtain ⟨f0, f1, rfl⟩ := kfin_some hf
  have hp4 := I.piv4 hn (.inr ⟨rfl, f0⟩)
  obtain ⟨fr, hfr⟩ : ∃ fr : Nat, s.free = fr := ⟨s.free.toNat, by omega⟩
  have hcnt : fr < cols.length ∧ s.piv + 1 = cols.length ∧ ∀ j, s.piv ≤ j → j < (rows0 R cols).length → s.M j fr = 0 := by
    rcases I.cnt with h | ⟨_, h2, h3, h4⟩
    · omega
    · rw [hfr] at h2 h4; exact ⟨by omega, h3, h4⟩
  obtain ⟨c1, c2, c3⟩ := hcnt
  have hP : ∀ j c, (P j c).natAbs ≤ B := fun j c => by obtain ⟨i, e⟩ := I.from' j; rw [e]; exact mx_bd hB i c
  obtain ⟨g1, g2⟩ := hbd hP hp4 I.rel
  have hko : ∀ c, c < cols.length → kout s c = if c = fr then s.last else -(s.M (kpos s.free c) fr) := fun c hc => by
    unfold kout
    by_cases e : c = fr
    · rw [if_pos (by omega), if_pos e]
    · rw [if_neg (by omega), if_neg e, I.pos c hc (by omega), hfr]; rfl
  have hg := kgcd_pos hn0 f1
  generalize hG : kgcd ((List.range cols.length).map (kout s)) = G at hg
  have hdv : ∀ c, c < cols.length → ((kout s c).tdiv G) * G = kout s c := fun c hc => Int.tdiv_mul_cancel (by rw [← hG]; exact kgcd_dvd _ _ c hc)
  refine ⟨by simp, fun x hx => ?_, fun r hr => ?_⟩
  · obtain ⟨c, hc, rfl⟩ := List.mem_map.1 hx
    rw [List.mem_range] at hc
    have hne := f1 c hc
    have hd := hdv c hc
    have hb : (kout s c).natAbs ≤ C := by
      rw [hko c hc]
      split
      · exact g1
      · rename_i e
        have : kpos s.free c < s.piv := by unfold kpos; split <;> omega
        have := g2 (kpos s.free c) fr this c1
        omega
    have hq : ((kout s c).tdiv G).natAbs ≤ C := Nat.le_trans (by rw [Int.natAbs_tdiv]; exact Nat.div_le_self _ _) hb
    have hq0 : (kout s c).tdiv G ≠ 0 := fun e => by rw [e] at hd; simp at hd; exact hne hd.symm
    split
    · exact ⟨by omega, by omega⟩
    · exact ⟨hq0, hq⟩
  · have hrl : (rrow cols r).length = cols.length := by simp [rrow]
    rw [← hrl, rowSum_sumN, hrl]
    have hG0 : (G : Int) ≠ 0 := by omega
    have key : sumN (fun c => (rrow cols r).getD c 0 * kout s c) cols.length = 0 := by
      by_cases hz : nz (rrow cols r) = true
      · have hmem : rrow cols r ∈ rows0 R cols := List.mem_filter.2 ⟨List.mem_map.2 ⟨r, hr, rfl⟩, hz⟩
        obtain ⟨a, ha, hal⟩ := mem_at hmem
        obtain ⟨j, hj, hPj⟩ := I.onto a hal
        have hrow : ∀ c, (rrow cols r).getD c 0 = P j c := fun c => by
          rw [hPj]; unfold mx
          rw [List.getD_eq_getElem?_getD (l := rows0 R cols), ha]; rfl
        have hsum := I.rel.sum hp4 c1 (j := j) (fun hsj => c3 j hsj hj)
        rw [← c2, sumN_but _ fr s.piv (by omega)]
        have e1 : kout s fr = s.last := by rw [hko fr c1, if_pos rfl]
        have e2 : sumN (fun l => (rrow cols r).getD (if l < fr then l else l + 1) 0 * kout s (if l < fr then l else l + 1)) s.piv = -(sumN (fun l => P j (K l) * s.M l fr) s.piv) := by
          rw [← Int.mul_neg_one, ← sumN_mul]
          refine sumN_congr fun l hl => ?_
          have hK : K l = if l < fr then l else l + 1 := by
            rw [I.col l hl]; unfold kcol
            by_cases e : l < fr
            · rw [if_pos (.inr (by omega)), if_pos e]
            · rw [if_neg (by omega), if_neg e]
          have hkp : kpos s.free (K l) = l := by
            rw [hK]; unfold kpos
            by_cases e : l < fr
            · simp only [if_pos e]; rw [if_pos (.inr (by omega))]
            · simp only [if_neg e]; rw [if_neg (by omega)]; omega
          rw [← hK, hrow, hko (K l) (by rw [hK]; split <;> omega), if_neg (by rw [hK]; split <;> omega), hkp]
          rw [Int.mul_neg_one, Int.mul_neg]
        rw [e2, hrow, e1]; omega
      · have hz' : ∀ c, (rrow cols r).getD c 0 = 0 := fun c => by
          rw [List.getD_eq_getElem?_getD]
          cases hc : (rrow cols r)[c]? with
          | none => rfl
          | some x =>
            simp only [Option.getD_some]
            cases hx : decide (x = 0) with
            | true => simpa using hx
            | false =>
              exact absurd (List.any_eq_true.2 ⟨x, List.mem_of_getElem? hc, by simpa using hx⟩) hz
        have : sumN (fun c => (rrow cols r).getD c 0 * kout s c) cols.length = sumN (fun _ => 0 * 0) cols.length := sumN_congr fun c _ => by rw [hz' c]; simp
        rw [this, sumN_mul]; simp
    by_cases hneg : kout s 0 < 0
    · have e : sumN (fun c => (rrow cols r).getD c 0 * kout s c) cols.length = sumN (fun c => (rrow cols r).getD c 0 * (if kout s 0 < 0 then -((kout s c).tdiv G) else (kout s c).tdiv G)) cols.length * (-(G : Int)) := by
        rw [← sumN_mul]
        refine sumN_congr fun c hc => ?_
        conv => lhs; rw [← hdv c hc]
        rw [if_pos hneg, Int.mul_neg, Int.mul_neg, Int.neg_mul, Int.neg_neg, Int.mul_assoc]
      rw [e] at key
      rcases Int.mul_eq_zero.1 key with h | h
      · exact h
      · omega
    · have e : sumN (fun c => (rrow cols r).getD c 0 * kout s c) cols.length = sumN (fun c => (rrow cols r).getD c 0 * (if kout s 0 < 0 then -((kout s c).tdiv G) else (kout s c).tdiv G)) cols.length * (G : Int) := by
        rw [← sumN_mul]
        refine sumN_congr fun c hc => ?_
        conv => lhs; rw [← hdv c hc]
        rw [if_neg hneg, Int.mul_assoc]
      rw [e] at key
      rcases Int.mul_eq_zero.1 key with h | h
      · exact h
      · omega
end Go.AM.SN
namespace Go.AM.SN
open Go.Proofs Go.AM.SK
set_option maxRecDepth 100000
set_option linter.unusedSimpArgs false
set_option linter.unusedVariables false
theorem noRefs_flat10 (n : Nat) (M : Mx) : noRefs (flat10 n M) = true := noRefs_ints _
theorem flatVs_ints (l : List Int) : flatVs (ints l) = true := by
  induction l with
  | nil => rfl
  | cons x l ih => simp only [ints, List.map_cons, flatVs, flatV, Bool.true_and]; exact ih
theorem toNat_add (a b : Nat) : ((a : Int) + (b : Int)).toNat = a + b := by omega
set_option maxHeartbeats 16000000 in
theorem kernelF (R : List (List Int)) (K : Nat) (cols : List Nat) (hK : K ≤ 10) (hR : R.length ≤ 100) (hRk : ∀ r ∈ R, r.length = K) (hc : ∀ c ∈ cols, c < K) (hn : cols.length ≤ 10) (hb : KBd R cols) :
    FSpec Try.prog 61 [tabV K R, sli (colI cols)] (kerV (kerR R cols)) := by
  refine FSpec.of_wS 64 SK.ok61 rfl (by (try simp only [noRefs, noRef_net, noRef_sli, noRef_lsts, noRef_arcs, noRef_tns, noRef_tab]) <;> rfl) (by unfold kerV; split <;> simp only [noRef, noRefs, noRefs_ints] <;> rfl) ?_
  have hcl : (80 : Int) * (R.length : Int) ≤ 1099511627776 := by omega
  have hcl2 : (R.length : Int) ≤ 1099511627776 := by omega
  have hR10 : ∀ r ∈ R, r.length ≤ 10 := fun r hr => by rw [hRk r hr]; exact hK
  have hcil := colI_len cols
  simp (maxSteps := 1000000) (disch := first | omega | (simp only [lenW] <;> omega)) only [SK.s61, hcl, hcl2, wordsN, Int.reduceGT, wordsR, ne_eq, words, Nat.reduceAdd, Nat.reduceEqDiff, Nat.reduceBEq, ↓reduceIte, reduceCtorEq, SX.exit.injEq, if_true, if_false, Int.reduceAdd, Int.reduceSub, Int.reduceMul, Int.reduceLT, Int.reduceLE, Int.reduceEq, Int.reduceNe, Int.reduceNeg, Int.reduceToNat, Nat.reduceMul, Nat.reduceLT, Nat.reduceSub, Nat.reduceLeDiff]
  refine wS_loopX 100 (fun a : Nat => [(1, sli (colI cols)), (6, .sl 50 0 0 (rows0 (R.take a) cols).length 10), (32, .fsl (R.flatMap pad) R.length 10), (33, .int .i64 R.length), (34, .int .i64 a)])
    (fun a => [(50, .cells 0 ((rows0 (R.take a) cols).flatMap pad))]) (fun a => a ≤ R.length) (fun a => R.length - a) 0 0 400
    (fun _ : Unit => [(1, sli (colI cols)), (6, .sl 50 0 0 (rows0 R cols).length 10)]) (fun _ => [(50, .cells 0 (flat10 (rows0 R cols).length (mx (rows0 R cols))))]) (fun _ => True) ?_ (Nat.zero_le _) ?_ ?_
  · refine ⟨[(50, .blk 70 0)], rfl, (by repeat (first | exact RO.zero | exact RO.e | refine RO.set rfl ?_)), ?_, (by repeat (first | exact RT.nil | (refine RT.cons ?_ ?_; · (first | exact Rn.any | exact Rn.x1 rfl rfl | exact Rn.x2 rfl rfl | exact Rn.x3 rfl rfl | exact Rn.x4 rfl rfl | exact Rn.x5 rfl | exact Rn.x6 rfl | exact Rn.x7 rfl | (refine Rn.slot ?_ ?_; (first | rfl | (rw [Int.natCast_add]; rfl)); (first | rfl | (simp only [noRef, noRefs, noRefs_append, Bool.and_self, Bool.and_true, Bool.true_and, noRefs_flat10, noRefs_ints, noRefs_lsts, noRefs_pad, noRefs_tnC, noRefs_arcC, noRefs_rowF]; done))) | (refine Rn.fn ?_ ?_ <;> (repeat' (first | exact RnL.nil | refine RnL.cons ?_ ?_ | exact Rn.same rfl | exact Rn.x6 rfl | exact Rn.x2 rfl rfl | exact Rn.x5 rfl | exact Rn.x1 rfl rfl)))))))⟩
    exact RB.pre 0 rfl rfl rfl (by rw [List.take_zero]; exact RnL.nil) RB.nil
  · intro a ha
    have hl0 := pad_flat_len (rows0_len10 (R := R.take a) hn)
    have hle := rows0_le (R.take a) cols
    have hle2 : (R.take a).length ≤ R.length := by simp; omega
    by_cases hlt : a < R.length
    · obtain ⟨r, hr⟩ := get_ex hlt
      have hrm := List.mem_of_getElem? hr
      have hrl := hRk r hrm
      have hs := rows0_take R cols hr
      have hd := drop_flat' (f := pad) (k := 10) (fun y hy => pad_len (hR10 y hy)) hr
      have hpl : (pad r).length = 10 := pad_len (by omega)
      have ht10 : (pad r ++ (R.drop (a + 1)).flatMap pad).take 10 = pad r := by rw [← hpl, List.take_left']; rfl
      have hl10 : (10 ≤ (pad r ++ (R.drop (a + 1)).flatMap pad).length) = True := by simp [hpl]
      have hone : (pad r).all AV.one = true := by rw [pad_rowF (by omega)]; exact one_rowF _ _
      have hput := put10 hpl
      simp (maxSteps := 1000000) (disch := first | omega | (simp only [lenW] <;> omega)) only [hlt, hd, ht10, hl10, hpl, hone, hput, wordsN, Int.reduceGT, wordsR, ne_eq, words, Nat.reduceAdd, Nat.reduceEqDiff, Nat.reduceBEq, ↓reduceIte, reduceCtorEq, SX.exit.injEq, if_true, if_false, Int.reduceAdd, Int.reduceSub, Int.reduceMul, Int.reduceLT, Int.reduceLE, Int.reduceEq, Int.reduceNe, Int.reduceNeg, Int.reduceToNat, Nat.reduceMul, Nat.reduceLT, Nat.reduceSub, Nat.reduceLeDiff]
      refine wS_loopR 200 (fun i : Nat => [(1, sli (colI cols)), (6, .sl 50 0 0 (rows0 (R.take a) cols).length 10), (32, .fsl (R.flatMap pad) R.length 10), (33, .int .i64 R.length), (34, .int .i64 a), (8, .ptr 51 0 0), (9, .ptr 52 0 0), (38, sli (colI cols)), (39, .int .i64 (colI cols).length), (40, .int .i64 i)])
        (fun i => [(50, .cells 0 ((rows0 (R.take a) cols).flatMap pad)), (51, .cells 0 (pad r)), (52, .cells 0 (rowF 10 fun k => if k < i then (rrow cols r).getD k 0 else 0))]) (fun i => i ≤ cols.length) (fun i => cols.length - i) 0 ?_ (Nat.zero_le _) ?_
      · refine ⟨[(50, .blk 50 0), (51, .blk 103 0), (52, .blk 105 0)], rfl, (by repeat (first | exact RO.zero | exact RO.e | refine RO.set rfl ?_)), ?_, (by repeat (first | exact RT.nil | (refine RT.cons ?_ ?_; · (first | exact Rn.any | exact Rn.x1 rfl rfl | exact Rn.x2 rfl rfl | exact Rn.x3 rfl rfl | exact Rn.x4 rfl rfl | exact Rn.x5 rfl | exact Rn.x6 rfl | exact Rn.x7 rfl | (refine Rn.slot ?_ ?_; (first | rfl | (rw [Int.natCast_add]; rfl)); (first | rfl | (simp only [noRef, noRefs, noRefs_append, Bool.and_self, Bool.and_true, Bool.true_and, noRefs_flat10, noRefs_ints, noRefs_lsts, noRefs_pad, noRefs_tnC, noRefs_arcC, noRefs_rowF]; done))) | (refine Rn.fn ?_ ?_ <;> (repeat' (first | exact RnL.nil | refine RnL.cons ?_ ?_ | exact Rn.same rfl | exact Rn.x6 rfl | exact Rn.x2 rfl rfl | exact Rn.x5 rfl | exact Rn.x1 rfl rfl)))))))⟩
        exact RB.cells rfl rfl rfl (RnL.same (noRefs_pad _)) (RB.cells rfl rfl rfl (RnL.same (noRefs_ints _)) (RB.cells rfl rfl rfl (RnL.eq (by rw [zero10]; exact rowF_congr fun k _ => by simp) (noRefs_rowF _ _)) RB.nil))
      intro i hi
      by_cases hil : i < cols.length
      · obtain ⟨c, hcc⟩ := get_ex hil
        have hcK := hc c (List.mem_of_getElem? hcc)
        have hil' : i < (colI cols).length := by omega
        have hc10 : (c : Int) < 10 := by omega
        have hi10 : (i : Int) < 10 := by omega
        have hgr : (pad r)[c]? = some (.int .i64 (r.getD c 0)) := by rw [pad_rowF (by omega)]; exact rowF_get _ (by omega)
        have hrD : (rrow cols r).getD i 0 = r.getD c 0 := by simp [rrow, List.getD_eq_getElem?_getD, hcc]
        have hle1 : i + 1 ≤ 10 := by omega
        simp (maxSteps := 1000000) (disch := first | omega | (simp only [lenW] <;> omega)) only [hil', head_ints (colI_get hcc), hc10, hi10, hgr, rowF_set, rowF_len, hle1, wordsN, Int.reduceGT, wordsR, ne_eq, words, Nat.reduceAdd, Nat.reduceEqDiff, Nat.reduceBEq, ↓reduceIte, reduceCtorEq, SX.exit.injEq, if_true, if_false, Int.reduceAdd, Int.reduceSub, Int.reduceMul, Int.reduceLT, Int.reduceLE, Int.reduceEq, Int.reduceNe, Int.reduceNeg, Int.reduceToNat, Nat.reduceMul, Nat.reduceLT, Nat.reduceSub, Nat.reduceLeDiff]
        refine ⟨i + 1, by omega, by omega, ?_⟩
        refine ⟨[(50, .blk 50 0), (51, .blk 51 0), (52, .blk 52 0)], rfl, (by repeat (first | exact RO.zero | exact RO.e | refine RO.set rfl ?_)), ?_, (by repeat (first | exact RT.nil | (refine RT.cons ?_ ?_; · (first | exact Rn.any | exact Rn.x1 rfl rfl | exact Rn.x2 rfl rfl | exact Rn.x3 rfl rfl | exact Rn.x4 rfl rfl | exact Rn.x5 rfl | exact Rn.x6 rfl | exact Rn.x7 rfl | (refine Rn.slot ?_ ?_; (first | rfl | (rw [Int.natCast_add]; rfl)); (first | rfl | (simp only [noRef, noRefs, noRefs_append, Bool.and_self, Bool.and_true, Bool.true_and, noRefs_flat10, noRefs_ints, noRefs_lsts, noRefs_pad, noRefs_tnC, noRefs_arcC, noRefs_rowF]; done))) | (refine Rn.fn ?_ ?_ <;> (repeat' (first | exact RnL.nil | refine RnL.cons ?_ ?_ | exact Rn.same rfl | exact Rn.x6 rfl | exact Rn.x2 rfl rfl | exact Rn.x5 rfl | exact Rn.x1 rfl rfl)))))))⟩
        refine RB.cells rfl rfl rfl (RnL.same (noRefs_pad _)) (RB.cells rfl rfl rfl (RnL.same (noRefs_ints _)) (RB.cells rfl rfl rfl (RnL.eq (rowF_congr fun k _ => ?_) (noRefs_rowF _ _)) RB.nil))
        by_cases e : k = i
        · subst e; simp only [Nat.lt_succ_self, if_true]; exact hrD
        · have : (k < i + 1) ↔ (k < i) := by omega
          simp [e, this]
      · have e : i = cols.length := by omega
        have hil2 : ¬ i < (colI cols).length := by omega
        have hrr : (rrow cols r).length = cols.length := by simp [rrow]
        have hfin : rowF 10 (fun k => if k < i then (rrow cols r).getD k 0 else 0) = pad (rrow cols r) := by
          rw [pad_rowF (by omega)]
          refine rowF_congr fun k _ => ?_
          by_cases hk : k < i
          · simp [hk]
          · simp [hk, List.getD_eq_getElem?_getD, List.getElem?_eq_none (show (rrow cols r).length ≤ k by omega)]
        have hf10 := rowF_len 10 (fun k => if k < i then (rrow cols r).getD k 0 else 0)
        have hone2 := one_rowF 10 (fun k => if k < i then (rrow cols r).getD k 0 else 0)
        have hput2 := put10 hf10
        have htk : (rowF 10 (fun k => if k < i then (rrow cols r).getD k 0 else 0)).take 10 = rowF 10 (fun k => if k < i then (rrow cols r).getD k 0 else 0) := List.take_of_length_le (by omega)
        have hany : ((List.range 10).any fun c => (if c < i then (rrow cols r).getD c 0 else 0) != 0) = nz (rrow cols r) := by
          rw [← any10 (r := rrow cols r) (by omega)]
          congr 1; funext c
          by_cases hk : c < i
          · simp [hk]
          · simp [hk, List.getD_eq_getElem?_getD, List.getElem?_eq_none (show (rrow cols r).length ≤ c by omega)]
        cases hz : nz (rrow cols r) with
        | true =>
          rw [hz, if_pos rfl] at hs
          simp (maxSteps := 1000000) (disch := first | omega | (simp only [lenW] <;> omega)) only [hil2, rowF_len, htk, eq_row10, hany, hz, hone2, hput2, aBuild_eq, wordsN, Int.reduceGT, wordsR, ne_eq, words, Nat.reduceAdd, Nat.reduceEqDiff, Nat.reduceBEq, ↓reduceIte, reduceCtorEq, SX.exit.injEq, if_true, if_false, Int.reduceAdd, Int.reduceSub, Int.reduceMul, Int.reduceLT, Int.reduceLE, Int.reduceEq, Int.reduceNe, Int.reduceNeg, Int.reduceToNat, Nat.reduceMul, Nat.reduceLT, Nat.reduceSub, Nat.reduceLeDiff]
          refine ⟨a + 1, by omega, by omega, ?_⟩
          rw [hs, List.length_append]
          refine ⟨[(50, .blk 50 1)], rfl, (by repeat (first | exact RO.zero | exact RO.e | refine RO.set rfl ?_)), ?_, (by repeat (first | exact RT.nil | (refine RT.cons ?_ ?_; · (first | exact Rn.any | exact Rn.x1 rfl rfl | exact Rn.x2 rfl rfl | exact Rn.x3 rfl rfl | exact Rn.x4 rfl rfl | exact Rn.x5 rfl | exact Rn.x6 rfl | exact Rn.x7 rfl | (refine Rn.slot ?_ ?_; (first | rfl | (rw [Int.natCast_add]; rfl)); (first | rfl | (simp only [noRef, noRefs, noRefs_append, Bool.and_self, Bool.and_true, Bool.true_and, noRefs_flat10, noRefs_ints, noRefs_lsts, noRefs_pad, noRefs_tnC, noRefs_arcC, noRefs_rowF]; done))) | (refine Rn.fn ?_ ?_ <;> (repeat' (first | exact RnL.nil | refine RnL.cons ?_ ?_ | exact Rn.same rfl | exact Rn.x6 rfl | exact Rn.x2 rfl rfl | exact Rn.x5 rfl | exact Rn.x1 rfl rfl)))))))⟩
          exact RB.cells rfl rfl rfl (RnL.eq (by rw [List.flatMap_append, hfin]; simp) (noRefs_pad _)) RB.nil
        | false =>
          rw [hz, if_neg (by simp), List.append_nil] at hs
          simp (maxSteps := 1000000) (disch := first | omega | (simp only [lenW] <;> omega)) only [hil2, rowF_len, htk, eq_row10, hany, hz, hone2, hput2, aBuild_eq, wordsN, Int.reduceGT, wordsR, ne_eq, words, Nat.reduceAdd, Nat.reduceEqDiff, Nat.reduceBEq, ↓reduceIte, reduceCtorEq, SX.exit.injEq, if_true, if_false, Int.reduceAdd, Int.reduceSub, Int.reduceMul, Int.reduceLT, Int.reduceLE, Int.reduceEq, Int.reduceNe, Int.reduceNeg, Int.reduceToNat, Nat.reduceMul, Nat.reduceLT, Nat.reduceSub, Nat.reduceLeDiff]
          refine ⟨a + 1, by omega, by omega, ?_⟩
          rw [hs]
          refine ⟨[(50, .blk 50 0)], rfl, (by repeat (first | exact RO.zero | exact RO.e | refine RO.set rfl ?_)), ?_, (by repeat (first | exact RT.nil | (refine RT.cons ?_ ?_; · (first | exact Rn.any | exact Rn.x1 rfl rfl | exact Rn.x2 rfl rfl | exact Rn.x3 rfl rfl | exact Rn.x4 rfl rfl | exact Rn.x5 rfl | exact Rn.x6 rfl | exact Rn.x7 rfl | (refine Rn.slot ?_ ?_; (first | rfl | (rw [Int.natCast_add]; rfl)); (first | rfl | (simp only [noRef, noRefs, noRefs_append, Bool.and_self, Bool.and_true, Bool.true_and, noRefs_flat10, noRefs_ints, noRefs_lsts, noRefs_pad, noRefs_tnC, noRefs_arcC, noRefs_rowF]; done))) | (refine Rn.fn ?_ ?_ <;> (repeat' (first | exact RnL.nil | refine RnL.cons ?_ ?_ | exact Rn.same rfl | exact Rn.x6 rfl | exact Rn.x2 rfl rfl | exact Rn.x5 rfl | exact Rn.x1 rfl rfl)))))))⟩
          exact RB.cells rfl rfl rfl (RnL.same (noRefs_pad _)) RB.nil
    · have e : a = R.length := by omega
      rw [e, List.take_length] at *
      simp (maxSteps := 1000000) (disch := first | omega | (simp only [lenW] <;> omega)) only [hlt, wordsN, Int.reduceGT, wordsR, ne_eq, words, Nat.reduceAdd, Nat.reduceEqDiff, Nat.reduceBEq, ↓reduceIte, reduceCtorEq, SX.exit.injEq, if_true, if_false, Int.reduceAdd, Int.reduceSub, Int.reduceMul, Int.reduceLT, Int.reduceLE, Int.reduceEq, Int.reduceNe, Int.reduceNeg, Int.reduceToNat, Nat.reduceMul, Nat.reduceLT, Nat.reduceSub, Nat.reduceLeDiff]
      refine ⟨(), ?_⟩
      refine ⟨[(50, .blk 50 0)], rfl, (by repeat (first | exact RO.zero | exact RO.e | refine RO.set rfl ?_)), ?_, (by repeat (first | exact RT.nil | (refine RT.cons ?_ ?_; · (first | exact Rn.any | exact Rn.x1 rfl rfl | exact Rn.x2 rfl rfl | exact Rn.x3 rfl rfl | exact Rn.x4 rfl rfl | exact Rn.x5 rfl | exact Rn.x6 rfl | exact Rn.x7 rfl | (refine Rn.slot ?_ ?_; (first | rfl | (rw [Int.natCast_add]; rfl)); (first | rfl | (simp only [noRef, noRefs, noRefs_append, Bool.and_self, Bool.and_true, Bool.true_and, noRefs_flat10, noRefs_ints, noRefs_lsts, noRefs_pad, noRefs_tnC, noRefs_arcC, noRefs_rowF]; done))) | (refine Rn.fn ?_ ?_ <;> (repeat' (first | exact RnL.nil | refine RnL.cons ?_ ?_ | exact Rn.same rfl | exact Rn.x6 rfl | exact Rn.x2 rfl rfl | exact Rn.x5 rfl | exact Rn.x1 rfl rfl)))))))⟩
      exact RB.cells rfl rfl rfl (RnL.eq (by rw [flat10_tab (rows0_len10 hn)]; rfl) (noRefs_ints _)) RB.nil
  rintro _ -
  generalize hnr : (rows0 R cols).length = nr
  have hnr100 : nr ≤ 100 := by rw [← hnr]; exact Nat.le_trans (rows0_le R cols) hR
  simp (maxSteps := 1000000) (disch := first | omega | (simp only [lenW] <;> omega)) only [wordsN, Int.reduceGT, wordsR, ne_eq, words, Nat.reduceAdd, Nat.reduceEqDiff, Nat.reduceBEq, ↓reduceIte, reduceCtorEq, SX.exit.injEq, if_true, if_false, Int.reduceAdd, Int.reduceSub, Int.reduceMul, Int.reduceLT, Int.reduceLE, Int.reduceEq, Int.reduceNe, Int.reduceNeg, Int.reduceToNat, Nat.reduceMul, Nat.reduceLT, Nat.reduceSub, Nat.reduceLeDiff]
  refine wS_loopX 200 (fun a : Nat × KS => [(1, sli (colI cols)), (6, .sl 50 0 0 nr 10), (12, .int .i64 a.2.piv), (13, .int .i64 a.2.last), (14, .int .i64 a.2.free), (15, .ptr 51 0 0), (60, .int .i64 (colI cols).length), (61, .int .i64 a.1)])
    (fun a => [(50, .cells 0 (flat10 nr a.2.M)), (51, .cells 0 (rowF 10 fun c => (a.2.pos c : Int)))]) (fun a => a.1 ≤ cols.length ∧ krun R cols a.1 = some a.2) (fun a => cols.length - a.1) (0, ⟨mx (rows0 R cols), 0, 1, -1, fun _ => 0⟩) 4 600
    (fun s : KS => [(1, sli (colI cols)), (6, .sl 50 0 0 nr 10), (13, .int .i64 s.last), (14, .int .i64 s.free), (15, .ptr 51 0 0)])
    (fun s => [(50, .cells 0 (flat10 nr s.M)), (51, .cells 0 (rowF 10 fun c => (s.pos c : Int)))]) (fun s => krun R cols cols.length = some s) ?_ ⟨Nat.zero_le _, rfl⟩ ?_ ?_
  · refine ⟨[(50, .blk 50 0), (51, .blk 403 0)], rfl, (by repeat (first | exact RO.zero | exact RO.e | refine RO.set rfl ?_)), ?_, (by repeat (first | exact RT.nil | (refine RT.cons ?_ ?_; · (first | exact Rn.any | exact Rn.x1 rfl rfl | exact Rn.x2 rfl rfl | exact Rn.x3 rfl rfl | exact Rn.x4 rfl rfl | exact Rn.x5 rfl | exact Rn.x6 rfl | exact Rn.x7 rfl | (refine Rn.slot ?_ ?_; (first | rfl | (rw [Int.natCast_add]; rfl)); (first | rfl | (simp only [noRef, noRefs, noRefs_append, Bool.and_self, Bool.and_true, Bool.true_and, noRefs_flat10, noRefs_ints, noRefs_lsts, noRefs_pad, noRefs_tnC, noRefs_arcC, noRefs_rowF]; done))) | (refine Rn.fn ?_ ?_ <;> (repeat' (first | exact RnL.nil | refine RnL.cons ?_ ?_ | exact Rn.same rfl | exact Rn.x6 rfl | exact Rn.x2 rfl rfl | exact Rn.x5 rfl | exact Rn.x1 rfl rfl)))))))⟩
    exact RB.cells rfl rfl rfl (RnL.same (noRefs_flat10 _ _)) (RB.cells rfl rfl rfl (RnL.eq zero10.symm (noRefs_rowF _ _)) RB.nil)
  · rintro ⟨k, s⟩ ⟨hk, hs⟩
    dsimp only at hk hs ⊢
    obtain ⟨i1, i2, i3⟩ := krun_inv R cols k s hs
    rw [hnr] at i1
    by_cases hlt : k < cols.length
    · obtain ⟨b1, b2, b3⟩ := hb k s hs (.inl hlt)
      have hlt' : k < (colI cols).length := by omega
      have hpv : (s.piv : Int) ≤ nr := by omega
      simp (maxSteps := 1000000) (disch := first | omega | (simp only [lenW] <;> omega)) only [hlt', hpv, aSliceC, aSlice, bnd, or_true, wordsN, Int.reduceGT, wordsR, ne_eq, words, Nat.reduceAdd, Nat.reduceEqDiff, Nat.reduceBEq, ↓reduceIte, reduceCtorEq, SX.exit.injEq, if_true, if_false, Int.reduceAdd, Int.reduceSub, Int.reduceMul, Int.reduceLT, Int.reduceLE, Int.reduceEq, Int.reduceNe, Int.reduceNeg, Int.reduceToNat, Nat.reduceMul, Nat.reduceLT, Nat.reduceSub, Nat.reduceLeDiff]
      have hfl : s.piv * 10 + (nr - s.piv) * 10 ≤ (flat10 nr s.M).length := by rw [flat10_len]; omega
      refine ch (HSpec.lend (bs := [.fsl (flat10 (nr - s.piv) fun i c => s.M (s.piv + i) c) (nr - s.piv) 10, .fn 71 [] [.fptr [.int .i64 k]]]) ?_ (index70 (nr - s.piv) k _ (by omega) (by omega)) rfl) ?_
      · refine ⟨FrzTo.sl (cs := flat10 nr s.M) rfl hfl (by rw [flat10_drop s.M i1]; exact FrzL.same _), FrzTo.fn trivial ⟨FrzTo.ptr rfl (FrzL.same _), trivial⟩, trivial⟩
      have hkf : (List.range (nr - s.piv)).findIdx? (fun i => s.M (s.piv + i) k != 0) = kfind nr k s := rfl
      rw [hkf]
      have hstep : krun R cols (k + 1) = kstep nr cols.length k s := by
        show (krun R cols k).bind _ = _
        rw [hs, hnr]; rfl
      cases hf : kfind nr k s with
      | none =>
        rw [kstep, hf] at hstep
        by_cases h0 : 0 ≤ s.free
        · rw [if_pos h0] at hstep
          have hk0 : kerR R cols = none := by
            unfold kerR
            have := krun_none R cols (k + 1) (cols.length - (k + 1)) hstep
            rw [show k + 1 + (cols.length - (k + 1)) = cols.length by omega] at this
            rw [this]; rfl
          simp (maxSteps := 1000000) (disch := first | omega | (simp only [lenW] <;> omega)) only [kidx, h0, wordsN, Int.reduceGT, wordsR, ne_eq, words, Nat.reduceAdd, Nat.reduceEqDiff, Nat.reduceBEq, ↓reduceIte, reduceCtorEq, SX.exit.injEq, if_true, if_false, Int.reduceAdd, Int.reduceSub, Int.reduceMul, Int.reduceLT, Int.reduceLE, Int.reduceEq, Int.reduceNe, Int.reduceNeg, Int.reduceToNat, Nat.reduceMul, Nat.reduceLT, Nat.reduceSub, Nat.reduceLeDiff]
          refine ⟨.inr trivial, _, rfl, ?_⟩
          rw [hk0]; exact RnO.flat rfl
        · simp only [if_neg h0] at hstep
          simp (maxSteps := 1000000) (disch := first | omega | (simp only [lenW] <;> omega)) only [kidx, h0, wordsN, Int.reduceGT, wordsR, ne_eq, words, Nat.reduceAdd, Nat.reduceEqDiff, Nat.reduceBEq, ↓reduceIte, reduceCtorEq, SX.exit.injEq, if_true, if_false, Int.reduceAdd, Int.reduceSub, Int.reduceMul, Int.reduceLT, Int.reduceLE, Int.reduceEq, Int.reduceNe, Int.reduceNeg, Int.reduceToNat, Nat.reduceMul, Nat.reduceLT, Nat.reduceSub, Nat.reduceLeDiff]
          refine ⟨(k + 1, _), by simp only; omega, ⟨by simp only; omega, hstep⟩, ⟨[(50, .blk 50 0), (51, .blk 51 0)], rfl, (by repeat (first | exact RO.zero | exact RO.e | refine RO.set rfl ?_)), (by repeat' (first | exact RB.nil | (refine RnL.same ?_; first | rfl | (simp only [noRef, noRefs, noRefs_append, Bool.and_self, Bool.and_true, Bool.true_and, noRefs_flat10, noRefs_ints, noRefs_lsts, noRefs_pad, noRefs_tnC, noRefs_arcC, noRefs_rowF]; done)) | exact RnM.keyM rfl | exact RnL.nil | refine RnL.cons ?_ ?_ | (refine Rn.same ?_; first | rfl | (simp only [noRef, noRefs, noRefs_append, Bool.and_self, Bool.and_true, Bool.true_and, noRefs_flat10, noRefs_ints, noRefs_lsts, noRefs_pad, noRefs_tnC, noRefs_arcC, noRefs_rowF]; done)) | exact Rn.x1 rfl rfl | exact Rn.x2 rfl rfl | exact Rn.x3 rfl rfl | exact Rn.x4 rfl rfl | exact Rn.x5 rfl | exact Rn.x6 rfl | exact Rn.x7 rfl | refine RB.newnil rfl rfl ?_ | refine RB.cells rfl rfl rfl ?_ ?_ | refine RB.map rfl rfl rfl ?_ ?_ | refine RB.cellsB rfl rfl ?_ ?_ | refine RB.mapB rfl rfl ?_ ?_)), (by repeat (first | exact RT.nil | (refine RT.cons ?_ ?_; · (first | exact Rn.any | exact Rn.x1 rfl rfl | exact Rn.x2 rfl rfl | exact Rn.x3 rfl rfl | exact Rn.x4 rfl rfl | exact Rn.x5 rfl | exact Rn.x6 rfl | exact Rn.x7 rfl | (refine Rn.slot ?_ ?_; (first | rfl | (rw [Int.natCast_add]; rfl)); (first | rfl | (simp only [noRef, noRefs, noRefs_append, Bool.and_self, Bool.and_true, Bool.true_and, noRefs_flat10, noRefs_ints, noRefs_lsts, noRefs_pad, noRefs_tnC, noRefs_arcC, noRefs_rowF]; done))) | (refine Rn.fn ?_ ?_ <;> (repeat' (first | exact RnL.nil | refine RnL.cons ?_ ?_ | exact Rn.same rfl | exact Rn.x6 rfl | exact Rn.x2 rfl rfl | exact Rn.x5 rfl | exact Rn.x1 rfl rfl)))))))⟩⟩
      | some i =>
        rw [kstep, hf] at hstep
        replace hstep : krun R cols (k + 1) = some ⟨kelim cols.length k (kswap s.M s.piv (s.piv + i)) s.piv s.last, s.piv + 1, kswap s.M s.piv (s.piv + i) s.piv k, s.free, fun c => if c = k then s.piv else s.pos c⟩ := hstep
        obtain ⟨q1, q2⟩ := kfind_some hf
        have hi0 : ¬ ((i : Nat) : Int) < 0 := by omega
        have hpi : s.piv + i < nr := q1
        have hpl : s.piv < nr := by omega
        simp only [kidx]
        have hpi' : (s.piv : Int) + i < nr := by omega
        have hle1 : s.piv * 10 + 10 ≤ nr * 10 := by omega
        have hle2 : (s.piv + i) * 10 + 10 ≤ nr * 10 := by omega
        have hsw : ∀ f : Mx, flat10 nr (fun j c => if j = s.piv + i then s.M s.piv c else (if j = s.piv then s.M (s.piv + i) c else s.M j c)) = flat10 nr (kswap s.M s.piv (s.piv + i)) := fun _ => flat10_congr fun j c _ _ => by
          unfold kswap
          by_cases e1 : j = s.piv
          · subst e1
            by_cases e2 : s.piv = s.piv + i
            · simp only [if_pos e2, if_true]; rw [← e2]
            · simp only [if_neg e2, if_true]
          · by_cases e2 : j = s.piv + i
            · simp only [if_pos e2, if_neg e1]
            · simp only [if_neg e2, if_neg e1]
        have hsw := hsw s.M
        simp (maxSteps := 1000000) (disch := first | omega | (simp only [lenW] <;> omega)) only [hi0, hpi', hpl, toNat_add, flat10_row, flat10_put, flat10_len, rowF_len, one_rowF, hle1, hle2, hsw, wordsN, Int.reduceGT, wordsR, ne_eq, words, Nat.reduceAdd, Nat.reduceEqDiff, Nat.reduceBEq, ↓reduceIte, reduceCtorEq, SX.exit.injEq, if_true, if_false, Int.reduceAdd, Int.reduceSub, Int.reduceMul, Int.reduceLT, Int.reduceLE, Int.reduceEq, Int.reduceNe, Int.reduceNeg, Int.reduceToNat, Nat.reduceMul, Nat.reduceLT, Nat.reduceSub, Nat.reduceLeDiff]
        have hSk : kswap s.M s.piv (s.piv + i) s.piv k ≠ 0 := by simp only [kswap, if_true]; exact q2
        have hSb : ∀ a c, -2147483648 < kswap s.M s.piv (s.piv + i) a c ∧ kswap s.M s.piv (s.piv + i) a c < 2147483648 := fun a c => by
          unfold kswap; split
          · exact b3 _ _
          · split <;> exact b3 _ _
        generalize kswap s.M s.piv (s.piv + i) = S at hSk hSb hstep
        have hk10 : (k : Int) < 10 := by omega
        have hE : ∀ j c, j ≠ s.piv → c < cols.length → (S s.piv k * S j c - S j k * S s.piv c).tdiv s.last = kelim cols.length k S s.piv s.last j c := fun j c h1 h2 => by
          unfold kelim; rw [if_neg (by omega)]
        have hE2 : ∀ j c, j = s.piv ∨ cols.length ≤ c → kelim cols.length k S s.piv s.last j c = S j c := fun j c h => by unfold kelim; rw [if_pos h]
        generalize kelim cols.length k S s.piv s.last = E at hstep hE hE2
        refine wS_loopR 300 (fun j : Nat => [(1, sli (colI cols)), (6, .sl 50 0 0 nr 10), (12, .int .i64 s.piv), (13, .int .i64 s.last), (14, .int .i64 s.free), (15, .ptr 51 0 0), (60, .int .i64 (colI cols).length), (61, .int .i64 k), (16, .ptr 52 0 0), (18, .ptr 53 0 0), (97, .int .i64 nr), (98, .int .i64 j)])
          (fun j => [(50, .cells 0 (flat10 nr fun a c => if a < j then E a c else S a c)), (51, .cells 0 (rowF 10 fun c => (s.pos c : Int))), (52, .cells 0 [.int .i64 k]), (53, .cells 0 (rowF 10 (S s.piv)))]) (fun j => j ≤ nr) (fun j => nr - j) 0 ?_ (Nat.zero_le _) ?_
        · refine ⟨[(50, .blk 50 0), (51, .blk 51 0), (52, .blk 202 0), (53, .blk 236 0)], rfl, (by repeat (first | exact RO.zero | exact RO.e | refine RO.set rfl ?_)), ?_, (by repeat (first | exact RT.nil | (refine RT.cons ?_ ?_; · (first | exact Rn.any | exact Rn.x1 rfl rfl | exact Rn.x2 rfl rfl | exact Rn.x3 rfl rfl | exact Rn.x4 rfl rfl | exact Rn.x5 rfl | exact Rn.x6 rfl | exact Rn.x7 rfl | (refine Rn.slot ?_ ?_; (first | rfl | (rw [Int.natCast_add]; rfl)); (first | rfl | (simp only [noRef, noRefs, noRefs_append, Bool.and_self, Bool.and_true, Bool.true_and, noRefs_flat10, noRefs_ints, noRefs_lsts, noRefs_pad, noRefs_tnC, noRefs_arcC, noRefs_rowF]; done))) | (refine Rn.fn ?_ ?_ <;> (repeat' (first | exact RnL.nil | refine RnL.cons ?_ ?_ | exact Rn.same rfl | exact Rn.x6 rfl | exact Rn.x2 rfl rfl | exact Rn.x5 rfl | exact Rn.x1 rfl rfl)))))))⟩
          refine RB.cells rfl rfl rfl (RnL.eq (flat10_congr fun a c _ _ => if_neg (Nat.not_lt_zero _)) (noRefs_flat10 _ _)) (RB.cells rfl rfl rfl (RnL.same (noRefs_rowF _ _)) (RB.cells rfl rfl rfl ?_ (RB.cells rfl rfl rfl (RnL.eq (put10 (rowF_len _ _)).symm (noRefs_rowF _ _)) RB.nil)))
          repeat' (first | exact RB.nil | (refine RnL.same ?_; first | rfl | (simp only [noRef, noRefs, noRefs_append, Bool.and_self, Bool.and_true, Bool.true_and, noRefs_flat10, noRefs_ints, noRefs_lsts, noRefs_pad, noRefs_tnC, noRefs_arcC, noRefs_rowF]; done)) | exact RnM.keyM rfl | exact RnL.nil | refine RnL.cons ?_ ?_ | (refine Rn.same ?_; first | rfl | (simp only [noRef, noRefs, noRefs_append, Bool.and_self, Bool.and_true, Bool.true_and, noRefs_flat10, noRefs_ints, noRefs_lsts, noRefs_pad, noRefs_tnC, noRefs_arcC, noRefs_rowF]; done)) | exact Rn.x1 rfl rfl | exact Rn.x2 rfl rfl | exact Rn.x3 rfl rfl | exact Rn.x4 rfl rfl | exact Rn.x5 rfl | exact Rn.x6 rfl | exact Rn.x7 rfl | refine RB.newnil rfl rfl ?_ | refine RB.cells rfl rfl rfl ?_ ?_ | refine RB.map rfl rfl rfl ?_ ?_ | refine RB.cellsB rfl rfl ?_ ?_ | refine RB.mapB rfl rfl ?_ ?_)
        intro j hj
        by_cases hjl : j < nr
        · by_cases hjp : j = s.piv
          · simp (maxSteps := 1000000) (disch := first | omega | (simp only [lenW] <;> omega)) only [hjl, hjp, hpl, wordsN, Int.reduceGT, wordsR, ne_eq, words, Nat.reduceAdd, Nat.reduceEqDiff, Nat.reduceBEq, ↓reduceIte, reduceCtorEq, SX.exit.injEq, if_true, if_false, Int.reduceAdd, Int.reduceSub, Int.reduceMul, Int.reduceLT, Int.reduceLE, Int.reduceEq, Int.reduceNe, Int.reduceNeg, Int.reduceToNat, Nat.reduceMul, Nat.reduceLT, Nat.reduceSub, Nat.reduceLeDiff]
            refine ⟨j + 1, by omega, by omega, ?_⟩
            subst hjp
            refine ⟨[(50, .blk 50 0), (51, .blk 51 0), (52, .blk 52 0), (53, .blk 53 0)], rfl, (by repeat (first | exact RO.zero | exact RO.e | refine RO.set rfl ?_)), ?_, (by repeat (first | exact RT.nil | (refine RT.cons ?_ ?_; · (first | exact Rn.any | exact Rn.x1 rfl rfl | exact Rn.x2 rfl rfl | exact Rn.x3 rfl rfl | exact Rn.x4 rfl rfl | exact Rn.x5 rfl | exact Rn.x6 rfl | exact Rn.x7 rfl | (refine Rn.slot ?_ ?_; (first | rfl | (rw [Int.natCast_add]; rfl)); (first | rfl | (simp only [noRef, noRefs, noRefs_append, Bool.and_self, Bool.and_true, Bool.true_and, noRefs_flat10, noRefs_ints, noRefs_lsts, noRefs_pad, noRefs_tnC, noRefs_arcC, noRefs_rowF]; done))) | (refine Rn.fn ?_ ?_ <;> (repeat' (first | exact RnL.nil | refine RnL.cons ?_ ?_ | exact Rn.same rfl | exact Rn.x6 rfl | exact Rn.x2 rfl rfl | exact Rn.x5 rfl | exact Rn.x1 rfl rfl)))))))⟩
            refine RB.cells rfl rfl rfl (RnL.eq (flat10_congr fun a c _ _ => ?_) (noRefs_flat10 _ _)) ?_
            · by_cases e : a = s.piv
              · subst e; rw [if_pos (Nat.lt_succ_self _), if_neg (Nat.lt_irrefl _)]; exact hE2 _ _ (.inl rfl)
              · have : (a < s.piv + 1) ↔ (a < s.piv) := by omega
                simp only [this]
            · repeat' (first | exact RB.nil | (refine RnL.same ?_; first | rfl | (simp only [noRef, noRefs, noRefs_append, Bool.and_self, Bool.and_true, Bool.true_and, noRefs_flat10, noRefs_ints, noRefs_lsts, noRefs_pad, noRefs_tnC, noRefs_arcC, noRefs_rowF]; done)) | exact RnM.keyM rfl | exact RnL.nil | refine RnL.cons ?_ ?_ | (refine Rn.same ?_; first | rfl | (simp only [noRef, noRefs, noRefs_append, Bool.and_self, Bool.and_true, Bool.true_and, noRefs_flat10, noRefs_ints, noRefs_lsts, noRefs_pad, noRefs_tnC, noRefs_arcC, noRefs_rowF]; done)) | exact Rn.x1 rfl rfl | exact Rn.x2 rfl rfl | exact Rn.x3 rfl rfl | exact Rn.x4 rfl rfl | exact Rn.x5 rfl | exact Rn.x6 rfl | exact Rn.x7 rfl | refine RB.newnil rfl rfl ?_ | refine RB.cells rfl rfl rfl ?_ ?_ | refine RB.map rfl rfl rfl ?_ ?_ | refine RB.cellsB rfl rfl ?_ ?_ | refine RB.mapB rfl rfl ?_ ?_)
          · have hg1 : ((flat10 nr fun a c => if a < j then E a c else S a c))[j * 10 + k]? = some (.int .i64 (S j k)) := by
              rw [flat10_get _ hjl (by omega), if_neg (Nat.lt_irrefl _)]
            simp (maxSteps := 1000000) (disch := first | omega | (simp only [lenW] <;> omega)) only [hjl, hjp, hk10, hg1, wordsN, Int.reduceGT, wordsR, ne_eq, words, Nat.reduceAdd, Nat.reduceEqDiff, Nat.reduceBEq, ↓reduceIte, reduceCtorEq, SX.exit.injEq, if_true, if_false, Int.reduceAdd, Int.reduceSub, Int.reduceMul, Int.reduceLT, Int.reduceLE, Int.reduceEq, Int.reduceNe, Int.reduceNeg, Int.reduceToNat, Nat.reduceMul, Nat.reduceLT, Nat.reduceSub, Nat.reduceLeDiff]
            refine wS_loopR 400 (fun c : Nat => [(1, sli (colI cols)), (6, .sl 50 0 0 nr 10), (12, .int .i64 s.piv), (13, .int .i64 s.last), (14, .int .i64 s.free), (15, .ptr 51 0 0), (60, .int .i64 (colI cols).length), (61, .int .i64 k), (16, .ptr 52 0 0), (18, .ptr 53 0 0), (97, .int .i64 nr), (98, .int .i64 j), (19, .int .i64 j), (20, .int .i64 (S j k)), (111, .int .i64 (colI cols).length), (112, .int .i64 c)])
              (fun c => [(50, .cells 0 (flat10 nr fun a c' => if a < j ∨ (a = j ∧ c' < c) then E a c' else S a c')), (51, .cells 0 (rowF 10 fun c => (s.pos c : Int))), (52, .cells 0 [.int .i64 k]), (53, .cells 0 (rowF 10 (S s.piv)))]) (fun c => c ≤ cols.length) (fun c => cols.length - c) 0 ?_ (Nat.zero_le _) ?_
            · refine ⟨[(50, .blk 50 0), (51, .blk 51 0), (52, .blk 52 0), (53, .blk 53 0)], rfl, (by repeat (first | exact RO.zero | exact RO.e | refine RO.set rfl ?_)), ?_, (by repeat (first | exact RT.nil | (refine RT.cons ?_ ?_; · (first | exact Rn.any | exact Rn.x1 rfl rfl | exact Rn.x2 rfl rfl | exact Rn.x3 rfl rfl | exact Rn.x4 rfl rfl | exact Rn.x5 rfl | exact Rn.x6 rfl | exact Rn.x7 rfl | (refine Rn.slot ?_ ?_; (first | rfl | (rw [Int.natCast_add]; rfl)); (first | rfl | (simp only [noRef, noRefs, noRefs_append, Bool.and_self, Bool.and_true, Bool.true_and, noRefs_flat10, noRefs_ints, noRefs_lsts, noRefs_pad, noRefs_tnC, noRefs_arcC, noRefs_rowF]; done))) | (refine Rn.fn ?_ ?_ <;> (repeat' (first | exact RnL.nil | refine RnL.cons ?_ ?_ | exact Rn.same rfl | exact Rn.x6 rfl | exact Rn.x2 rfl rfl | exact Rn.x5 rfl | exact Rn.x1 rfl rfl)))))))⟩
              refine RB.cells rfl rfl rfl (RnL.eq (flat10_congr fun a c _ _ => by simp) (noRefs_flat10 _ _)) ?_
              repeat' (first | exact RB.nil | (refine RnL.same ?_; first | rfl | (simp only [noRef, noRefs, noRefs_append, Bool.and_self, Bool.and_true, Bool.true_and, noRefs_flat10, noRefs_ints, noRefs_lsts, noRefs_pad, noRefs_tnC, noRefs_arcC, noRefs_rowF]; done)) | exact RnM.keyM rfl | exact RnL.nil | refine RnL.cons ?_ ?_ | (refine Rn.same ?_; first | rfl | (simp only [noRef, noRefs, noRefs_append, Bool.and_self, Bool.and_true, Bool.true_and, noRefs_flat10, noRefs_ints, noRefs_lsts, noRefs_pad, noRefs_tnC, noRefs_arcC, noRefs_rowF]; done)) | exact Rn.x1 rfl rfl | exact Rn.x2 rfl rfl | exact Rn.x3 rfl rfl | exact Rn.x4 rfl rfl | exact Rn.x5 rfl | exact Rn.x6 rfl | exact Rn.x7 rfl | refine RB.newnil rfl rfl ?_ | refine RB.cells rfl rfl rfl ?_ ?_ | refine RB.map rfl rfl rfl ?_ ?_ | refine RB.cellsB rfl rfl ?_ ?_ | refine RB.mapB rfl rfl ?_ ?_)
            intro c hcl
            by_cases hcn : c < cols.length
            · have hcn' : c < (colI cols).length := by omega
              have hc10 : (c : Int) < 10 := by omega
              have hg2 : ((flat10 nr fun a c' => if a < j ∨ (a = j ∧ c' < c) then E a c' else S a c'))[j * 10 + c]? = some (.int .i64 (S j c)) := by
                rw [flat10_get _ hjl (by omega), if_neg (by omega)]
              have hgk := rowF_get (n := 10) (S s.piv) (i := k) (by omega)
              have hgc := rowF_get (n := 10) (S s.piv) (i := c) (by omega)
              have hle3 : j * 10 + c + 1 ≤ nr * 10 := by omega
              have hset := flat10_set (fun a c' => if a < j ∨ (a = j ∧ c' < c) then E a c' else S a c') hjl (show c < 10 by omega) (E j c)
              simp (maxSteps := 1000000) (disch := first | omega | (simp only [lenW] <;> omega)) only [hcn', hjl, hk10, hc10, hg2, hgk, hgc, wordsN, Int.reduceGT, wordsR, ne_eq, words, Nat.reduceAdd, Nat.reduceEqDiff, Nat.reduceBEq, ↓reduceIte, reduceCtorEq, SX.exit.injEq, if_true, if_false, Int.reduceAdd, Int.reduceSub, Int.reduceMul, Int.reduceLT, Int.reduceLE, Int.reduceEq, Int.reduceNe, Int.reduceNeg, Int.reduceToNat, Nat.reduceMul, Nat.reduceLT, Nat.reduceSub, Nat.reduceLeDiff]
              refine cp (cross (S s.piv k) (S j c) (S j k) (S s.piv c) s.last (hSb _ _).1 (hSb _ _).2 (hSb _ _).1 (hSb _ _).2 (hSb _ _).1 (hSb _ _).2 (hSb _ _).1 (hSb _ _).2 b1 (by omega) (by omega)) ?_
              rw [hE j c hjp hcn]
              simp (maxSteps := 1000000) (disch := first | omega | (simp only [lenW] <;> omega)) only [hcn', hjl, hk10, hc10, flat10_len, hle3, hset, wordsN, Int.reduceGT, wordsR, ne_eq, words, Nat.reduceAdd, Nat.reduceEqDiff, Nat.reduceBEq, ↓reduceIte, reduceCtorEq, SX.exit.injEq, if_true, if_false, Int.reduceAdd, Int.reduceSub, Int.reduceMul, Int.reduceLT, Int.reduceLE, Int.reduceEq, Int.reduceNe, Int.reduceNeg, Int.reduceToNat, Nat.reduceMul, Nat.reduceLT, Nat.reduceSub, Nat.reduceLeDiff]
              refine ⟨c + 1, by omega, by omega, ?_⟩
              refine ⟨[(50, .blk 50 0), (51, .blk 51 0), (52, .blk 52 0), (53, .blk 53 0)], rfl, (by repeat (first | exact RO.zero | exact RO.e | refine RO.set rfl ?_)), ?_, (by repeat (first | exact RT.nil | (refine RT.cons ?_ ?_; · (first | exact Rn.any | exact Rn.x1 rfl rfl | exact Rn.x2 rfl rfl | exact Rn.x3 rfl rfl | exact Rn.x4 rfl rfl | exact Rn.x5 rfl | exact Rn.x6 rfl | exact Rn.x7 rfl | (refine Rn.slot ?_ ?_; (first | rfl | (rw [Int.natCast_add]; rfl)); (first | rfl | (simp only [noRef, noRefs, noRefs_append, Bool.and_self, Bool.and_true, Bool.true_and, noRefs_flat10, noRefs_ints, noRefs_lsts, noRefs_pad, noRefs_tnC, noRefs_arcC, noRefs_rowF]; done))) | (refine Rn.fn ?_ ?_ <;> (repeat' (first | exact RnL.nil | refine RnL.cons ?_ ?_ | exact Rn.same rfl | exact Rn.x6 rfl | exact Rn.x2 rfl rfl | exact Rn.x5 rfl | exact Rn.x1 rfl rfl)))))))⟩
              refine RB.cells rfl rfl rfl (RnL.eq (flat10_congr fun a c' _ _ => ?_) (noRefs_flat10 _ _)) ?_
              · by_cases e : a = j ∧ c' = c
                · obtain ⟨rfl, rfl⟩ := e
                  rw [if_pos (by omega), if_pos ⟨rfl, rfl⟩]
                · rw [if_neg e]
                  have : (a < j ∨ (a = j ∧ c' < c + 1)) ↔ (a < j ∨ (a = j ∧ c' < c)) := by omega
                  simp only [this]
              · repeat' (first | exact RB.nil | (refine RnL.same ?_; first | rfl | (simp only [noRef, noRefs, noRefs_append, Bool.and_self, Bool.and_true, Bool.true_and, noRefs_flat10, noRefs_ints, noRefs_lsts, noRefs_pad, noRefs_tnC, noRefs_arcC, noRefs_rowF]; done)) | exact RnM.keyM rfl | exact RnL.nil | refine RnL.cons ?_ ?_ | (refine Rn.same ?_; first | rfl | (simp only [noRef, noRefs, noRefs_append, Bool.and_self, Bool.and_true, Bool.true_and, noRefs_flat10, noRefs_ints, noRefs_lsts, noRefs_pad, noRefs_tnC, noRefs_arcC, noRefs_rowF]; done)) | exact Rn.x1 rfl rfl | exact Rn.x2 rfl rfl | exact Rn.x3 rfl rfl | exact Rn.x4 rfl rfl | exact Rn.x5 rfl | exact Rn.x6 rfl | exact Rn.x7 rfl | refine RB.newnil rfl rfl ?_ | refine RB.cells rfl rfl rfl ?_ ?_ | refine RB.map rfl rfl rfl ?_ ?_ | refine RB.cellsB rfl rfl ?_ ?_ | refine RB.mapB rfl rfl ?_ ?_)
            · have hcn' : ¬ c < (colI cols).length := by omega
              simp (maxSteps := 1000000) (disch := first | omega | (simp only [lenW] <;> omega)) only [hcn', wordsN, Int.reduceGT, wordsR, ne_eq, words, Nat.reduceAdd, Nat.reduceEqDiff, Nat.reduceBEq, ↓reduceIte, reduceCtorEq, SX.exit.injEq, if_true, if_false, Int.reduceAdd, Int.reduceSub, Int.reduceMul, Int.reduceLT, Int.reduceLE, Int.reduceEq, Int.reduceNe, Int.reduceNeg, Int.reduceToNat, Nat.reduceMul, Nat.reduceLT, Nat.reduceSub, Nat.reduceLeDiff]
              refine ⟨j + 1, by omega, by omega, ?_⟩
              refine ⟨[(50, .blk 50 0), (51, .blk 51 0), (52, .blk 52 0), (53, .blk 53 0)], rfl, (by repeat (first | exact RO.zero | exact RO.e | refine RO.set rfl ?_)), ?_, (by repeat (first | exact RT.nil | (refine RT.cons ?_ ?_; · (first | exact Rn.any | exact Rn.x1 rfl rfl | exact Rn.x2 rfl rfl | exact Rn.x3 rfl rfl | exact Rn.x4 rfl rfl | exact Rn.x5 rfl | exact Rn.x6 rfl | exact Rn.x7 rfl | (refine Rn.slot ?_ ?_; (first | rfl | (rw [Int.natCast_add]; rfl)); (first | rfl | (simp only [noRef, noRefs, noRefs_append, Bool.and_self, Bool.and_true, Bool.true_and, noRefs_flat10, noRefs_ints, noRefs_lsts, noRefs_pad, noRefs_tnC, noRefs_arcC, noRefs_rowF]; done))) | (refine Rn.fn ?_ ?_ <;> (repeat' (first | exact RnL.nil | refine RnL.cons ?_ ?_ | exact Rn.same rfl | exact Rn.x6 rfl | exact Rn.x2 rfl rfl | exact Rn.x5 rfl | exact Rn.x1 rfl rfl)))))))⟩
              refine RB.cells rfl rfl rfl (RnL.eq (flat10_congr fun a c' _ _ => ?_) (noRefs_flat10 _ _)) ?_
              · by_cases c1 : a < j
                · rw [if_pos (by omega), if_pos (.inl c1)]
                · by_cases c2 : a = j
                  · subst c2
                    by_cases c3 : c' < c
                    · rw [if_pos (by omega), if_pos (.inr ⟨rfl, c3⟩)]
                    · rw [if_pos (by omega), if_neg (by omega)]; exact hE2 _ _ (.inr (by omega))
                  · rw [if_neg (by omega), if_neg (by omega)]
              · repeat' (first | exact RB.nil | (refine RnL.same ?_; first | rfl | (simp only [noRef, noRefs, noRefs_append, Bool.and_self, Bool.and_true, Bool.true_and, noRefs_flat10, noRefs_ints, noRefs_lsts, noRefs_pad, noRefs_tnC, noRefs_arcC, noRefs_rowF]; done)) | exact RnM.keyM rfl | exact RnL.nil | refine RnL.cons ?_ ?_ | (refine Rn.same ?_; first | rfl | (simp only [noRef, noRefs, noRefs_append, Bool.and_self, Bool.and_true, Bool.true_and, noRefs_flat10, noRefs_ints, noRefs_lsts, noRefs_pad, noRefs_tnC, noRefs_arcC, noRefs_rowF]; done)) | exact Rn.x1 rfl rfl | exact Rn.x2 rfl rfl | exact Rn.x3 rfl rfl | exact Rn.x4 rfl rfl | exact Rn.x5 rfl | exact Rn.x6 rfl | exact Rn.x7 rfl | refine RB.newnil rfl rfl ?_ | refine RB.cells rfl rfl rfl ?_ ?_ | refine RB.map rfl rfl rfl ?_ ?_ | refine RB.cellsB rfl rfl ?_ ?_ | refine RB.mapB rfl rfl ?_ ?_)
        · have hgk := rowF_get (n := 10) (S s.piv) (i := k) (by omega)
          have hk1 : k + 1 ≤ 10 := by omega
          simp (maxSteps := 1000000) (disch := first | omega | (simp only [lenW] <;> omega)) only [hjl, hgk, hk10, rowF_set, rowF_len, hk1, wordsN, Int.reduceGT, wordsR, ne_eq, words, Nat.reduceAdd, Nat.reduceEqDiff, Nat.reduceBEq, ↓reduceIte, reduceCtorEq, SX.exit.injEq, if_true, if_false, Int.reduceAdd, Int.reduceSub, Int.reduceMul, Int.reduceLT, Int.reduceLE, Int.reduceEq, Int.reduceNe, Int.reduceNeg, Int.reduceToNat, Nat.reduceMul, Nat.reduceLT, Nat.reduceSub, Nat.reduceLeDiff]
          refine ⟨(k + 1, _), by simp only; omega, ⟨by simp only; omega, hstep⟩, ?_⟩
          refine ⟨[(50, .blk 50 0), (51, .blk 51 0)], rfl, (by repeat (first | exact RO.zero | exact RO.e | refine RO.set rfl ?_)), ?_, (by repeat (first | exact RT.nil | (refine RT.cons ?_ ?_; · (first | exact Rn.any | exact Rn.x1 rfl rfl | exact Rn.x2 rfl rfl | exact Rn.x3 rfl rfl | exact Rn.x4 rfl rfl | exact Rn.x5 rfl | exact Rn.x6 rfl | exact Rn.x7 rfl | (refine Rn.slot ?_ ?_; (first | rfl | (rw [Int.natCast_add]; rfl)); (first | rfl | (simp only [noRef, noRefs, noRefs_append, Bool.and_self, Bool.and_true, Bool.true_and, noRefs_flat10, noRefs_ints, noRefs_lsts, noRefs_pad, noRefs_tnC, noRefs_arcC, noRefs_rowF]; done))) | (refine Rn.fn ?_ ?_ <;> (repeat' (first | exact RnL.nil | refine RnL.cons ?_ ?_ | exact Rn.same rfl | exact Rn.x6 rfl | exact Rn.x2 rfl rfl | exact Rn.x5 rfl | exact Rn.x1 rfl rfl)))))))⟩
          refine RB.cells rfl rfl rfl (RnL.eq (flat10_congr fun a c q1 _ => ?_) (noRefs_flat10 _ _)) (RB.cells rfl rfl rfl (RnL.eq (rowF_congr fun c _ => ?_) (noRefs_rowF _ _)) RB.nil)
          · rw [if_pos (by omega)]
          · by_cases e : c = k <;> simp [e]
    · have e : k = cols.length := by omega
      have hlt' : ¬ k < (colI cols).length := by omega
      simp (maxSteps := 1000000) (disch := first | omega | (simp only [lenW] <;> omega)) only [hlt', wordsN, Int.reduceGT, wordsR, ne_eq, words, Nat.reduceAdd, Nat.reduceEqDiff, Nat.reduceBEq, ↓reduceIte, reduceCtorEq, SX.exit.injEq, if_true, if_false, Int.reduceAdd, Int.reduceSub, Int.reduceMul, Int.reduceLT, Int.reduceLE, Int.reduceEq, Int.reduceNe, Int.reduceNeg, Int.reduceToNat, Nat.reduceMul, Nat.reduceLT, Nat.reduceSub, Nat.reduceLeDiff]
      exact ⟨s, by rw [← e]; exact hs, ⟨[(50, .blk 50 0), (51, .blk 51 0)], rfl, (by repeat (first | exact RO.zero | exact RO.e | refine RO.set rfl ?_)), (by repeat' (first | exact RB.nil | (refine RnL.same ?_; first | rfl | (simp only [noRef, noRefs, noRefs_append, Bool.and_self, Bool.and_true, Bool.true_and, noRefs_flat10, noRefs_ints, noRefs_lsts, noRefs_pad, noRefs_tnC, noRefs_arcC, noRefs_rowF]; done)) | exact RnM.keyM rfl | exact RnL.nil | refine RnL.cons ?_ ?_ | (refine Rn.same ?_; first | rfl | (simp only [noRef, noRefs, noRefs_append, Bool.and_self, Bool.and_true, Bool.true_and, noRefs_flat10, noRefs_ints, noRefs_lsts, noRefs_pad, noRefs_tnC, noRefs_arcC, noRefs_rowF]; done)) | exact Rn.x1 rfl rfl | exact Rn.x2 rfl rfl | exact Rn.x3 rfl rfl | exact Rn.x4 rfl rfl | exact Rn.x5 rfl | exact Rn.x6 rfl | exact Rn.x7 rfl | refine RB.newnil rfl rfl ?_ | refine RB.cells rfl rfl rfl ?_ ?_ | refine RB.map rfl rfl rfl ?_ ?_ | refine RB.cellsB rfl rfl ?_ ?_ | refine RB.mapB rfl rfl ?_ ?_)), (by repeat (first | exact RT.nil | (refine RT.cons ?_ ?_; · (first | exact Rn.any | exact Rn.x1 rfl rfl | exact Rn.x2 rfl rfl | exact Rn.x3 rfl rfl | exact Rn.x4 rfl rfl | exact Rn.x5 rfl | exact Rn.x6 rfl | exact Rn.x7 rfl | (refine Rn.slot ?_ ?_; (first | rfl | (rw [Int.natCast_add]; rfl)); (first | rfl | (simp only [noRef, noRefs, noRefs_append, Bool.and_self, Bool.and_true, Bool.true_and, noRefs_flat10, noRefs_ints, noRefs_lsts, noRefs_pad, noRefs_tnC, noRefs_arcC, noRefs_rowF]; done))) | (refine Rn.fn ?_ ?_ <;> (repeat' (first | exact RnL.nil | refine RnL.cons ?_ ?_ | exact Rn.same rfl | exact Rn.x6 rfl | exact Rn.x2 rfl rfl | exact Rn.x5 rfl | exact Rn.x1 rfl rfl)))))))⟩⟩
  · intro s hs
    obtain ⟨i1, i2, i3⟩ := krun_inv R cols _ s hs
    rw [hnr] at i1
    have hker : kerR R cols = kfin cols.length s := by unfold kerR; rw [hs]; rfl
    rw [hker]
    by_cases hf0 : s.free < 0
    · have hk0 : kfin cols.length s = none := by unfold kfin; rw [if_pos hf0]
      simp (maxSteps := 1000000) (disch := first | omega | (simp only [lenW] <;> omega)) only [hf0, wordsN, Int.reduceGT, wordsR, ne_eq, words, Nat.reduceAdd, Nat.reduceEqDiff, Nat.reduceBEq, ↓reduceIte, reduceCtorEq, SX.exit.injEq, if_true, if_false, Int.reduceAdd, Int.reduceSub, Int.reduceMul, Int.reduceLT, Int.reduceLE, Int.reduceEq, Int.reduceNe, Int.reduceNeg, Int.reduceToNat, Nat.reduceMul, Nat.reduceLT, Nat.reduceSub, Nat.reduceLeDiff]
      refine ⟨.inr trivial, _, rfl, ?_⟩
      rw [hk0]; exact RnO.flat rfl
    have hfr : 0 ≤ s.free ∧ s.free < cols.length := by rcases i2 with h | h <;> omega
    obtain ⟨b1, b2, b3⟩ := hb _ s hs (.inr ⟨rfl, hfr.1⟩)
    obtain ⟨fr, hfre⟩ : ∃ fr : Nat, s.free = fr := ⟨s.free.toNat, by omega⟩
    have hfr10 : s.free < 10 := by omega
    have hn0 : 0 < cols.length := by omega
    have hc1 : (8 : Int) * ((colI cols).length : Int) ≤ 1099511627776 := by omega
    have hc2 : ((colI cols).length : Int) ≤ 1099511627776 := by omega
    have hob : ∀ j, -2147483648 < kout s j ∧ kout s j < 2147483648 := fun j => by
      unfold kout; split
      · exact b2
      · have := b3 (s.pos j) s.free.toNat; omega
    simp (maxSteps := 1000000) (disch := first | omega | (simp only [lenW] <;> omega)) only [hf0, hc1, hc2, rowF_zero, wordsN, Int.reduceGT, wordsR, ne_eq, words, Nat.reduceAdd, Nat.reduceEqDiff, Nat.reduceBEq, ↓reduceIte, reduceCtorEq, SX.exit.injEq, if_true, if_false, Int.reduceAdd, Int.reduceSub, Int.reduceMul, Int.reduceLT, Int.reduceLE, Int.reduceEq, Int.reduceNe, Int.reduceNeg, Int.reduceToNat, Nat.reduceMul, Nat.reduceLT, Nat.reduceSub, Nat.reduceLeDiff]
    refine wS_loopR 700 (fun k : Nat => [(6, .sl 50 0 0 nr 10), (13, .int .i64 s.last), (14, .int .i64 s.free), (15, .ptr 51 0 0), (22, .sl 54 0 0 (colI cols).length 1), (23, .int .u64 (kgcd ((List.range k).map (kout s)) : Nat)), (152, .int .i64 (colI cols).length), (153, .int .i64 k)])
      (fun k => [(50, .cells 0 (flat10 nr s.M)), (51, .cells 0 (rowF 10 fun c => (s.pos c : Int))), (54, .cells 0 (rowF (colI cols).length fun j => if j < k then kout s j else 0))])
      (fun k => k ≤ cols.length ∧ (∀ j, j < k → kout s j ≠ 0) ∧ kgcd ((List.range k).map (kout s)) < 2147483648 ∧ (0 < k → 0 < kgcd ((List.range k).map (kout s)))) (fun k => cols.length - k) 0 ?_ ⟨Nat.zero_le _, fun j hj => absurd hj (Nat.not_lt_zero _), (by show (0 : Nat) < _; omega), fun h => absurd h (Nat.lt_irrefl _)⟩ ?_
    · refine ⟨[(50, .blk 50 0), (51, .blk 51 0), (54, .blk 604 0)], rfl, (by repeat (first | exact RO.zero | exact RO.e | refine RO.set rfl ?_)), ?_, (by repeat (first | exact RT.nil | (refine RT.cons ?_ ?_; · (first | exact Rn.any | exact Rn.x1 rfl rfl | exact Rn.x2 rfl rfl | exact Rn.x3 rfl rfl | exact Rn.x4 rfl rfl | exact Rn.x5 rfl | exact Rn.x6 rfl | exact Rn.x7 rfl | (refine Rn.slot ?_ ?_; (first | rfl | (rw [Int.natCast_add]; rfl)); (first | rfl | (simp only [noRef, noRefs, noRefs_append, Bool.and_self, Bool.and_true, Bool.true_and, noRefs_flat10, noRefs_ints, noRefs_lsts, noRefs_pad, noRefs_tnC, noRefs_arcC, noRefs_rowF]; done))) | (refine Rn.fn ?_ ?_ <;> (repeat' (first | exact RnL.nil | refine RnL.cons ?_ ?_ | exact Rn.same rfl | exact Rn.x6 rfl | exact Rn.x2 rfl rfl | exact Rn.x5 rfl | exact Rn.x1 rfl rfl)))))))⟩
      exact RB.cells rfl rfl rfl (RnL.same (noRefs_flat10 _ _)) (RB.cells rfl rfl rfl (RnL.same (noRefs_rowF _ _)) (RB.cells rfl rfl rfl (RnL.eq (rowF_congr fun j _ => if_neg (Nat.not_lt_zero _)) (noRefs_rowF _ _)) RB.nil))
    rintro k ⟨hk, hnz, hg1, hg2⟩
    by_cases hlt : k < cols.length
    · have hlt' : k < (colI cols).length := by omega
      have hlt1 : k + 1 ≤ (colI cols).length := by omega
      have hk10 : (k : Int) < 10 := by omega
      have hgs := kgcd_succ (kout s) k
      have hset : ∀ v, (rowF (colI cols).length fun j => if j < k then kout s j else 0).set k (.int .i64 v) = rowF (colI cols).length (fun j => if j = k then v else if j < k then kout s j else 0) := fun v => rowF_set _ v
      have hget : ∀ v, (rowF (colI cols).length fun j => if j = k then v else if j < k then kout s j else 0)[k]? = some (.int .i64 v) := fun v => by rw [rowF_get _ hlt', if_pos rfl]
      have hfinal : ∀ v, v = kout s k → (rowF (colI cols).length fun j => if j = k then v else if j < k then kout s j else 0) = rowF (colI cols).length (fun j => if j < k + 1 then kout s j else 0) := fun v hv => rowF_congr fun j _ => by
        by_cases e : j = k
        · subst e; rw [if_pos rfl, if_pos (Nat.lt_succ_self _), hv]
        · have : (j < k + 1) ↔ (j < k) := by omega
          simp only [if_neg e, this]
      have hzero : kout s k = 0 → kfin cols.length s = none := fun h => by
        unfold kfin
        rw [if_neg hf0, if_pos]
        rw [List.any_eq_true]
        exact ⟨kout s k, List.mem_map.2 ⟨k, by simp; exact hlt, rfl⟩, by simp [h]⟩
      have hnext : kout s k ≠ 0 → (∀ j, j < k + 1 → kout s j ≠ 0) ∧ kgcd ((List.range (k + 1)).map (kout s)) < 2147483648 ∧ (0 < k + 1 → 0 < kgcd ((List.range (k + 1)).map (kout s))) := fun h => by
        have hb1 := hob k
        refine ⟨fun j hj => ?_, ?_, fun _ => ?_⟩
        · by_cases e : j = k
          · subst e; exact h
          · exact hnz j (by omega)
        · rw [hgs]
          exact Nat.lt_of_le_of_lt (Nat.gcd_le_right _ (by omega)) (by omega)
        · rw [hgs]; exact Nat.gcd_pos_of_pos_right _ (by omega)
      have hmg := magnitude (kout s k) (by have := hob k; omega) (by have := hob k; omega)
      have hgc := gcd (kgcd ((List.range k).map (kout s))) (kout s k).natAbs (by omega) (by have := hob k; omega)
      rw [← hgs] at hgc
      by_cases hkf : (k : Int) = s.free
      · have hko : kout s k = s.last := by unfold kout; rw [if_pos hkf]
        rw [hko] at hmg hgc hnext hzero
        have hkf2 := eq_true hkf
        simp (maxSteps := 1000000) (disch := first | omega | (simp only [lenW] <;> omega)) only [hlt', hlt1, hk10, hset, rowF_len, hkf2, hget, b1, wordsN, Int.reduceGT, wordsR, ne_eq, words, Nat.reduceAdd, Nat.reduceEqDiff, Nat.reduceBEq, ↓reduceIte, reduceCtorEq, SX.exit.injEq, if_true, if_false, Int.reduceAdd, Int.reduceSub, Int.reduceMul, Int.reduceLT, Int.reduceLE, Int.reduceEq, Int.reduceNe, Int.reduceNeg, Int.reduceToNat, Nat.reduceMul, Nat.reduceLT, Nat.reduceSub, Nat.reduceLeDiff]
        refine cp hmg ?_
        simp (maxSteps := 1000000) (disch := first | omega | (simp only [lenW] <;> omega)) only [wordsN, Int.reduceGT, wordsR, ne_eq, words, Nat.reduceAdd, Nat.reduceEqDiff, Nat.reduceBEq, ↓reduceIte, reduceCtorEq, SX.exit.injEq, if_true, if_false, Int.reduceAdd, Int.reduceSub, Int.reduceMul, Int.reduceLT, Int.reduceLE, Int.reduceEq, Int.reduceNe, Int.reduceNeg, Int.reduceToNat, Nat.reduceMul, Nat.reduceLT, Nat.reduceSub, Nat.reduceLeDiff]
        refine cp hgc ?_
        simp (maxSteps := 1000000) (disch := first | omega | (simp only [lenW] <;> omega)) only [wordsN, Int.reduceGT, wordsR, ne_eq, words, Nat.reduceAdd, Nat.reduceEqDiff, Nat.reduceBEq, ↓reduceIte, reduceCtorEq, SX.exit.injEq, if_true, if_false, Int.reduceAdd, Int.reduceSub, Int.reduceMul, Int.reduceLT, Int.reduceLE, Int.reduceEq, Int.reduceNe, Int.reduceNeg, Int.reduceToNat, Nat.reduceMul, Nat.reduceLT, Nat.reduceSub, Nat.reduceLeDiff]
        obtain ⟨n1, n2, n3⟩ := hnext b1
        refine ⟨k + 1, by omega, ⟨by omega, n1, n2, n3⟩, ?_⟩
        refine ⟨[(50, .blk 50 0), (51, .blk 51 0), (54, .blk 54 0)], rfl, (by repeat (first | exact RO.zero | exact RO.e | refine RO.set rfl ?_)), ?_, (by repeat (first | exact RT.nil | (refine RT.cons ?_ ?_; · (first | exact Rn.any | exact Rn.x1 rfl rfl | exact Rn.x2 rfl rfl | exact Rn.x3 rfl rfl | exact Rn.x4 rfl rfl | exact Rn.x5 rfl | exact Rn.x6 rfl | exact Rn.x7 rfl | (refine Rn.slot ?_ ?_; (first | rfl | (rw [Int.natCast_add]; rfl)); (first | rfl | (simp only [noRef, noRefs, noRefs_append, Bool.and_self, Bool.and_true, Bool.true_and, noRefs_flat10, noRefs_ints, noRefs_lsts, noRefs_pad, noRefs_tnC, noRefs_arcC, noRefs_rowF]; done))) | (refine Rn.fn ?_ ?_ <;> (repeat' (first | exact RnL.nil | refine RnL.cons ?_ ?_ | exact Rn.same rfl | exact Rn.x6 rfl | exact Rn.x2 rfl rfl | exact Rn.x5 rfl | exact Rn.x1 rfl rfl)))))))⟩
        exact RB.cells rfl rfl rfl (RnL.same (noRefs_flat10 _ _)) (RB.cells rfl rfl rfl (RnL.same (noRefs_rowF _ _)) (RB.cells rfl rfl rfl (RnL.eq (hfinal _ hko.symm).symm (noRefs_rowF _ _)) RB.nil))
      · have hko : kout s k = 0 - s.M (s.pos k) fr := by unfold kout; rw [if_neg hkf, hfre]; simp
        have hpk := i3 k hlt hkf
        have hpk' : s.pos k < nr := by omega
        have hgp := rowF_get (n := 10) (fun c => (s.pos c : Int)) (i := k) (by omega)
        have hgm := flat10_get (i := s.pos k) (c := fr) s.M hpk' (by omega)
        have hfr' : (fr : Int) < 10 := by omega
        have hkf' : ¬ k = fr := by omega
        have hset2 : ∀ u v, (rowF (colI cols).length fun j => if j = k then u else if j < k then kout s j else 0).set k (.int .i64 v) = rowF (colI cols).length (fun j => if j = k then v else if j < k then kout s j else 0) := fun u v => by
          rw [rowF_set]
          exact rowF_congr fun j _ => by by_cases e : j = k <;> simp [e]
        have hmb := b3 (s.pos k) fr
        have hmb2 : ∀ z, -2147483648 < z ∧ z < 2147483648 → wr .i64 (0 - z) = 0 - z := fun z hz => wr_i64 (by omega) (by omega)
        have hwr := hmb2 _ hmb
        rw [hko] at hmg hgc hnext hzero
        simp (maxSteps := 1000000) (disch := first | omega | (simp only [lenW] <;> omega)) only [hlt', hlt1, hk10, hset, rowF_len, hfre, hkf', hgp, hpk', hfr', hgm, hwr, hset2, hget, wordsN, Int.reduceGT, wordsR, ne_eq, words, Nat.reduceAdd, Nat.reduceEqDiff, Nat.reduceBEq, ↓reduceIte, reduceCtorEq, SX.exit.injEq, if_true, if_false, Int.reduceAdd, Int.reduceSub, Int.reduceMul, Int.reduceLT, Int.reduceLE, Int.reduceEq, Int.reduceNe, Int.reduceNeg, Int.reduceToNat, Nat.reduceMul, Nat.reduceLT, Nat.reduceSub, Nat.reduceLeDiff]
        by_cases hz : 0 - s.M (s.pos k) fr = 0
        · simp (maxSteps := 1000000) (disch := first | omega | (simp only [lenW] <;> omega)) only [hz, wordsN, Int.reduceGT, wordsR, ne_eq, words, Nat.reduceAdd, Nat.reduceEqDiff, Nat.reduceBEq, ↓reduceIte, reduceCtorEq, SX.exit.injEq, if_true, if_false, Int.reduceAdd, Int.reduceSub, Int.reduceMul, Int.reduceLT, Int.reduceLE, Int.reduceEq, Int.reduceNe, Int.reduceNeg, Int.reduceToNat, Nat.reduceMul, Nat.reduceLT, Nat.reduceSub, Nat.reduceLeDiff]
          refine ⟨.inr trivial, _, rfl, ?_⟩
          rw [hzero hz]; exact RnO.flat rfl
        · simp (maxSteps := 1000000) (disch := first | omega | (simp only [lenW] <;> omega)) only [hz, wordsN, Int.reduceGT, wordsR, ne_eq, words, Nat.reduceAdd, Nat.reduceEqDiff, Nat.reduceBEq, ↓reduceIte, reduceCtorEq, SX.exit.injEq, if_true, if_false, Int.reduceAdd, Int.reduceSub, Int.reduceMul, Int.reduceLT, Int.reduceLE, Int.reduceEq, Int.reduceNe, Int.reduceNeg, Int.reduceToNat, Nat.reduceMul, Nat.reduceLT, Nat.reduceSub, Nat.reduceLeDiff]
          refine cp hmg ?_
          simp (maxSteps := 1000000) (disch := first | omega | (simp only [lenW] <;> omega)) only [wordsN, Int.reduceGT, wordsR, ne_eq, words, Nat.reduceAdd, Nat.reduceEqDiff, Nat.reduceBEq, ↓reduceIte, reduceCtorEq, SX.exit.injEq, if_true, if_false, Int.reduceAdd, Int.reduceSub, Int.reduceMul, Int.reduceLT, Int.reduceLE, Int.reduceEq, Int.reduceNe, Int.reduceNeg, Int.reduceToNat, Nat.reduceMul, Nat.reduceLT, Nat.reduceSub, Nat.reduceLeDiff]
          refine cp hgc ?_
          simp (maxSteps := 1000000) (disch := first | omega | (simp only [lenW] <;> omega)) only [wordsN, Int.reduceGT, wordsR, ne_eq, words, Nat.reduceAdd, Nat.reduceEqDiff, Nat.reduceBEq, ↓reduceIte, reduceCtorEq, SX.exit.injEq, if_true, if_false, Int.reduceAdd, Int.reduceSub, Int.reduceMul, Int.reduceLT, Int.reduceLE, Int.reduceEq, Int.reduceNe, Int.reduceNeg, Int.reduceToNat, Nat.reduceMul, Nat.reduceLT, Nat.reduceSub, Nat.reduceLeDiff]
          obtain ⟨n1, n2, n3⟩ := hnext hz
          refine ⟨k + 1, by omega, ⟨by omega, n1, n2, n3⟩, ?_⟩
          refine ⟨[(50, .blk 50 0), (51, .blk 51 0), (54, .blk 54 0)], rfl, (by repeat (first | exact RO.zero | exact RO.e | refine RO.set rfl ?_)), ?_, (by repeat (first | exact RT.nil | (refine RT.cons ?_ ?_; · (first | exact Rn.any | exact Rn.x1 rfl rfl | exact Rn.x2 rfl rfl | exact Rn.x3 rfl rfl | exact Rn.x4 rfl rfl | exact Rn.x5 rfl | exact Rn.x6 rfl | exact Rn.x7 rfl | (refine Rn.slot ?_ ?_; (first | rfl | (rw [Int.natCast_add]; rfl)); (first | rfl | (simp only [noRef, noRefs, noRefs_append, Bool.and_self, Bool.and_true, Bool.true_and, noRefs_flat10, noRefs_ints, noRefs_lsts, noRefs_pad, noRefs_tnC, noRefs_arcC, noRefs_rowF]; done))) | (refine Rn.fn ?_ ?_ <;> (repeat' (first | exact RnL.nil | refine RnL.cons ?_ ?_ | exact Rn.same rfl | exact Rn.x6 rfl | exact Rn.x2 rfl rfl | exact Rn.x5 rfl | exact Rn.x1 rfl rfl)))))))⟩
          exact RB.cells rfl rfl rfl (RnL.same (noRefs_flat10 _ _)) (RB.cells rfl rfl rfl (RnL.same (noRefs_rowF _ _)) (RB.cells rfl rfl rfl (RnL.eq (hfinal _ hko.symm).symm (noRefs_rowF _ _)) RB.nil))
    have ek : k = cols.length := by omega
    have hlt' : ¬ k < (colI cols).length := by omega
    subst ek
    have hg0 := hg2 hn0
    generalize hG : kgcd ((List.range cols.length).map (kout s)) = G at hg1 hg0
    have hfirst : (rowF (colI cols).length fun j => if j < cols.length then kout s j else 0)[0]? = some (.int .i64 (kout s 0)) := by rw [rowF_get _ (by omega), if_pos hn0]
    have hc0 : (0 : Int) < (colI cols).length := by omega
    have hfres : kfin cols.length s = some ((List.range cols.length).map fun k => if kout s 0 < 0 then -((kout s k).tdiv G) else (kout s k).tdiv G) := by
      unfold kfin
      rw [if_neg hf0, if_neg, hG]
      intro ha
      obtain ⟨x, hx, hx0⟩ := List.any_eq_true.1 ha
      obtain ⟨j, hj, rfl⟩ := List.mem_map.1 hx
      exact hnz j (by simpa using hj) (by simpa using hx0)
    rw [hfres]
    have hG0 : ¬ (G : Int) = 0 := by omega
    simp (maxSteps := 1000000) (disch := first | omega | (simp only [lenW] <;> omega)) only [hlt', hfirst, hc0, wordsN, Int.reduceGT, wordsR, ne_eq, words, Nat.reduceAdd, Nat.reduceEqDiff, Nat.reduceBEq, ↓reduceIte, reduceCtorEq, SX.exit.injEq, if_true, if_false, Int.reduceAdd, Int.reduceSub, Int.reduceMul, Int.reduceLT, Int.reduceLE, Int.reduceEq, Int.reduceNe, Int.reduceNeg, Int.reduceToNat, Nat.reduceMul, Nat.reduceLT, Nat.reduceSub, Nat.reduceLeDiff]
    refine wS_loopR 800 (fun k : Nat => [(22, .sl 54 0 0 (colI cols).length 1), (23, .int .u64 G), (25, .bool (decide (kout s 0 < 0))), (193, .int .i64 (colI cols).length), (194, .int .i64 k)])
      (fun k => [(54, .cells 0 (rowF (colI cols).length fun j => if j < k then (if kout s 0 < 0 then -((kout s j).tdiv G) else (kout s j).tdiv G) else kout s j))]) (fun k => k ≤ cols.length) (fun k => cols.length - k) 0 ?_ (Nat.zero_le _) ?_
    · refine ⟨[(54, .blk 54 0)], rfl, (by repeat (first | exact RO.zero | exact RO.e | refine RO.set rfl ?_)), ?_, (by repeat (first | exact RT.nil | (refine RT.cons ?_ ?_; · (first | exact Rn.any | exact Rn.x1 rfl rfl | exact Rn.x2 rfl rfl | exact Rn.x3 rfl rfl | exact Rn.x4 rfl rfl | exact Rn.x5 rfl | exact Rn.x6 rfl | exact Rn.x7 rfl | (refine Rn.slot ?_ ?_; (first | rfl | (rw [Int.natCast_add]; rfl)); (first | rfl | (simp only [noRef, noRefs, noRefs_append, Bool.and_self, Bool.and_true, Bool.true_and, noRefs_flat10, noRefs_ints, noRefs_lsts, noRefs_pad, noRefs_tnC, noRefs_arcC, noRefs_rowF]; done))) | (refine Rn.fn ?_ ?_ <;> (repeat' (first | exact RnL.nil | refine RnL.cons ?_ ?_ | exact Rn.same rfl | exact Rn.x6 rfl | exact Rn.x2 rfl rfl | exact Rn.x5 rfl | exact Rn.x1 rfl rfl)))))))⟩
      exact RB.cells rfl rfl rfl (RnL.eq (rowF_congr fun j hj => by rw [if_neg (Nat.not_lt_zero _), if_pos (by omega)]) (noRefs_rowF _ _)) RB.nil
    intro k hk
    by_cases hkl : k < cols.length
    · have hkl' : k < (colI cols).length := by omega
      have hkl1 : k + 1 ≤ (colI cols).length := by omega
      have hg1' : (rowF (colI cols).length fun j => if j < k then (if kout s 0 < 0 then -((kout s j).tdiv G) else (kout s j).tdiv G) else kout s j)[k]? = some (.int .i64 (kout s k)) := by
        rw [rowF_get _ hkl', if_neg (Nat.lt_irrefl _)]
      have hq := tdiv_small (g := G) (hob k).1 (hob k).2
      have hneg : wr .i64 (0 - (kout s k).tdiv G) = 0 - (kout s k).tdiv G := by
        generalize (kout s k).tdiv G = q at hq
        exact wr_i64 (by omega) (by omega)
      have hwq : wr .i64 ((kout s k).tdiv G) = (kout s k).tdiv G := by
        generalize (kout s k).tdiv G = q at hq
        exact wr_i64 (by omega) (by omega)
      by_cases hng : kout s 0 < 0
      · have hset : ∀ v, (rowF (colI cols).length fun j => if j < k then (if kout s 0 < 0 then -((kout s j).tdiv G) else (kout s j).tdiv G) else kout s j).set k (.int .i64 v) = rowF (colI cols).length (fun j => if j = k then v else if j < k then (if kout s 0 < 0 then -((kout s j).tdiv G) else (kout s j).tdiv G) else kout s j) := fun v => rowF_set _ v
        have hget : ∀ v, (rowF (colI cols).length fun j => if j = k then v else if j < k then (if kout s 0 < 0 then -((kout s j).tdiv G) else (kout s j).tdiv G) else kout s j)[k]? = some (.int .i64 v) := fun v => by rw [rowF_get _ hkl', if_pos rfl]
        simp only [if_pos hng] at hset hget hg1' ⊢
        have hset2 : ∀ u v, (rowF (colI cols).length fun j => if j = k then u else if j < k then -((kout s j).tdiv G) else kout s j).set k (.int .i64 v) = rowF (colI cols).length (fun j => if j = k then v else if j < k then -((kout s j).tdiv G) else kout s j) := fun u v => by
          rw [rowF_set]
          exact rowF_congr fun j _ => by by_cases e : j = k <;> simp [e]
        simp (maxSteps := 1000000) (disch := first | omega | (simp only [lenW] <;> omega)) only [hkl', hkl1, hg1', hG0, hset, hget, rowF_len, hng, hneg, hwq, hset2, wordsN, Int.reduceGT, wordsR, ne_eq, words, Nat.reduceAdd, Nat.reduceEqDiff, Nat.reduceBEq, ↓reduceIte, reduceCtorEq, SX.exit.injEq, if_true, if_false, Int.reduceAdd, Int.reduceSub, Int.reduceMul, Int.reduceLT, Int.reduceLE, Int.reduceEq, Int.reduceNe, Int.reduceNeg, Int.reduceToNat, Nat.reduceMul, Nat.reduceLT, Nat.reduceSub, Nat.reduceLeDiff]
        refine ⟨k + 1, by omega, by omega, ?_⟩
        refine ⟨[(54, .blk 54 0)], rfl, (by repeat (first | exact RO.zero | exact RO.e | refine RO.set rfl ?_)), ?_, (by repeat (first | exact RT.nil | (refine RT.cons ?_ ?_; · (first | exact Rn.any | exact Rn.x1 rfl rfl | exact Rn.x2 rfl rfl | exact Rn.x3 rfl rfl | exact Rn.x4 rfl rfl | exact Rn.x5 rfl | exact Rn.x6 rfl | exact Rn.x7 rfl | (refine Rn.slot ?_ ?_; (first | rfl | (rw [Int.natCast_add]; rfl)); (first | rfl | (simp only [noRef, noRefs, noRefs_append, Bool.and_self, Bool.and_true, Bool.true_and, noRefs_flat10, noRefs_ints, noRefs_lsts, noRefs_pad, noRefs_tnC, noRefs_arcC, noRefs_rowF]; done))) | (refine Rn.fn ?_ ?_ <;> (repeat' (first | exact RnL.nil | refine RnL.cons ?_ ?_ | exact Rn.same rfl | exact Rn.x6 rfl | exact Rn.x2 rfl rfl | exact Rn.x5 rfl | exact Rn.x1 rfl rfl)))))))⟩
        refine RB.cells rfl rfl rfl (RnL.eq (rowF_congr fun j _ => ?_) (noRefs_rowF _ _)) RB.nil
        by_cases e : j = k
        · subst e; rw [if_pos (Nat.lt_succ_self _), if_pos rfl]; omega
        · have : (j < k + 1) ↔ (j < k) := by omega
          simp only [if_neg e, this]
      · have hset : ∀ v, (rowF (colI cols).length fun j => if j < k then (if kout s 0 < 0 then -((kout s j).tdiv G) else (kout s j).tdiv G) else kout s j).set k (.int .i64 v) = rowF (colI cols).length (fun j => if j = k then v else if j < k then (if kout s 0 < 0 then -((kout s j).tdiv G) else (kout s j).tdiv G) else kout s j) := fun v => rowF_set _ v
        simp only [if_neg hng] at hset hg1' ⊢
        simp (maxSteps := 1000000) (disch := first | omega | (simp only [lenW] <;> omega)) only [hkl', hkl1, hg1', hG0, hset, rowF_len, hng, hwq, wordsN, Int.reduceGT, wordsR, ne_eq, words, Nat.reduceAdd, Nat.reduceEqDiff, Nat.reduceBEq, ↓reduceIte, reduceCtorEq, SX.exit.injEq, if_true, if_false, Int.reduceAdd, Int.reduceSub, Int.reduceMul, Int.reduceLT, Int.reduceLE, Int.reduceEq, Int.reduceNe, Int.reduceNeg, Int.reduceToNat, Nat.reduceMul, Nat.reduceLT, Nat.reduceSub, Nat.reduceLeDiff]
        refine ⟨k + 1, by omega, by omega, ?_⟩
        refine ⟨[(54, .blk 54 0)], rfl, (by repeat (first | exact RO.zero | exact RO.e | refine RO.set rfl ?_)), ?_, (by repeat (first | exact RT.nil | (refine RT.cons ?_ ?_; · (first | exact Rn.any | exact Rn.x1 rfl rfl | exact Rn.x2 rfl rfl | exact Rn.x3 rfl rfl | exact Rn.x4 rfl rfl | exact Rn.x5 rfl | exact Rn.x6 rfl | exact Rn.x7 rfl | (refine Rn.slot ?_ ?_; (first | rfl | (rw [Int.natCast_add]; rfl)); (first | rfl | (simp only [noRef, noRefs, noRefs_append, Bool.and_self, Bool.and_true, Bool.true_and, noRefs_flat10, noRefs_ints, noRefs_lsts, noRefs_pad, noRefs_tnC, noRefs_arcC, noRefs_rowF]; done))) | (refine Rn.fn ?_ ?_ <;> (repeat' (first | exact RnL.nil | refine RnL.cons ?_ ?_ | exact Rn.same rfl | exact Rn.x6 rfl | exact Rn.x2 rfl rfl | exact Rn.x5 rfl | exact Rn.x1 rfl rfl)))))))⟩
        refine RB.cells rfl rfl rfl (RnL.eq (rowF_congr fun j _ => ?_) (noRefs_rowF _ _)) RB.nil
        by_cases e : j = k
        · subst e; rw [if_pos (Nat.lt_succ_self _), if_pos rfl]
        · have : (j < k + 1) ↔ (j < k) := by omega
          simp only [if_neg e, this]
    · have ek : k = cols.length := by omega
      have hkl' : ¬ k < (colI cols).length := by omega
      simp (maxSteps := 1000000) (disch := first | omega | (simp only [lenW] <;> omega)) only [hkl', wordsN, Int.reduceGT, wordsR, ne_eq, words, Nat.reduceAdd, Nat.reduceEqDiff, Nat.reduceBEq, ↓reduceIte, reduceCtorEq, SX.exit.injEq, if_true, if_false, Int.reduceAdd, Int.reduceSub, Int.reduceMul, Int.reduceLT, Int.reduceLE, Int.reduceEq, Int.reduceNe, Int.reduceNeg, Int.reduceToNat, Nat.reduceMul, Nat.reduceLT, Nat.reduceSub, Nat.reduceLeDiff]
      refine ⟨.inr trivial, _, rfl, RnO.tup (RnOL.cons ?_ (RnOL.cons (RnO.flat rfl) RnOL.nil))⟩
      refine RnO.slm rfl ?_ ?_ ?_ (by rw [rowF_len, Nat.mul_one])
      · show ints _ = ints _
        congr 1
        rw [ek, hcil]
        refine List.map_congr_left fun j hj => ?_
        have hj' : j < cols.length := by simpa using hj
        simp only [hj', if_true]
      · simp; exact hcil.symm
      · exact flatVs_ints _
end Go.AM.SN
set_option maxRecDepth 100000
namespace Go.AM.SM
open Go.Proofs
def s14 : SFn := ⟨21, [.tmp 4, .tmp 5],
 (.seq (.region [⟨(some 2), .box .dyn (.t 0), [], none⟩,
 ⟨(some 4), .mov (.c .nilsl), [], none⟩,
 ⟨(some 5), .mov (.c (.int .i64 0)), [1], none⟩] [] [0, 4, 5])
 (.seq (.region [⟨(some 9), .load (some 2) (.t 2), [], none⟩,
 ⟨(some 10), .mov (.t 1), [], none⟩,
 ⟨(some 11), .call .pure (.f 39) [(.t 9), (.t 10)], [0, 1], none⟩,
 ⟨(some 8), .mov (.t 11), [2], none⟩,
 ⟨(some 12), .extract 0 (.t 8), [3], none⟩,
 ⟨(some 13), .extract 1 (.t 8), [3], none⟩,
 ⟨(some 6), .alloc .dyn (.agg [(.int .i64 0), .nilsl]), [], none⟩,
 ⟨none, .store 2 (.t 6) (.t 12), [6, 4, 2, 0, 1, 2, 3, 4, 6], none⟩,
 ⟨(some 7), .mov (.t 13), [5, 7, 0, 1, 2, 3, 4, 5, 6, 7], none⟩] [] [1, 2, 9, 10, 11, 8, 12, 13])
 (.seq (.seq (.region [⟨(some 14), .mov (.t 7), [], none⟩,
 ⟨(some 15), .bin .neq (.t 14) (.c (.int .i64 0)), [0], none⟩] [] [14])
 (.cond (.t 15)
 (.seq (.region [⟨(some 16), .mov (.t 7), [], none⟩,
 ⟨(some 4), .mov (.c .nilsl), [], none⟩,
 ⟨(some 5), .mov (.t 16), [0, 1, 0, 1], none⟩] [] [6, 7, 15, 16])
 .ret)
 .skip))
 (.seq (.region [⟨(some 17), .load (some 2) (.t 6), [], none⟩,
 ⟨(some 18), .call .pure (.f 40) [(.t 17)], [0], none⟩,
 ⟨(some 19), .extract 0 (.t 18), [1], none⟩,
 ⟨(some 20), .extract 1 (.t 18), [1], none⟩,
 ⟨(some 4), .mov (.t 19), [2, 1, 0, 1, 2, 3], none⟩,
 ⟨(some 5), .mov (.t 20), [3, 4, 0, 1, 2, 3, 4], none⟩] [] [6, 7, 15, 17, 18, 19, 20])
 .ret))))⟩
def s15 : SFn := ⟨38, [.tmp 4, .tmp 5],
 (.seq (.region [⟨(some 2), .box .dyn (.t 0), [], none⟩,
 ⟨(some 4), .mov (.c (.bool false)), [], none⟩,
 ⟨(some 5), .mov (.c (.int .i64 0)), [1], none⟩] [] [0, 4, 5])
 (.seq (.region [⟨(some 12), .load (some 2) (.t 2), [], none⟩,
 ⟨(some 13), .mov (.t 1), [], none⟩,
 ⟨(some 14), .call .pure (.f 39) [(.t 12), (.t 13)], [0, 1], none⟩,
 ⟨(some 11), .mov (.t 14), [2], none⟩,
 ⟨(some 15), .extract 0 (.t 11), [3], none⟩,
 ⟨(some 16), .extract 1 (.t 11), [3], none⟩,
 ⟨(some 6), .alloc .dyn (.agg [(.int .i64 0), .nilsl]), [], none⟩,
 ⟨none, .store 2 (.t 6) (.t 15), [6, 4, 2, 0, 1, 2, 3, 4, 6], none⟩,
 ⟨(some 7), .mov (.t 16), [5, 7, 0, 1, 2, 3, 4, 5, 6, 7], none⟩] [] [1, 2, 12, 13, 14, 11, 15, 16])
 (.seq (.seq (.region [⟨(some 17), .mov (.t 7), [], none⟩,
 ⟨(some 18), .bin .neq (.t 17) (.c (.int .i64 0)), [0], none⟩] [] [17])
 (.cond (.t 18)
 (.seq (.region [⟨(some 19), .mov (.t 7), [], none⟩,
 ⟨(some 4), .mov (.c (.bool false)), [], none⟩,
 ⟨(some 5), .mov (.t 19), [0, 1, 0, 1], none⟩] [] [6, 7, 18, 19])
 .ret)
 .skip))
 (.seq (.region [⟨(some 8), .mov (.c (.int .u16 0)), [], none⟩] [] [4, 5, 7, 18])
 (.seq (.seq (.region [⟨(some 20), .load (some 2) (.t 6), [], none⟩,
 ⟨(some 21), .call .pure (.f 41) [(.t 20)], [0], none⟩,
 ⟨(some 22), .len 1 (.t 21), [1], none⟩,
 ⟨(some 23), .mov (.c (.int .i64 0)), [], none⟩] [] [20])
 (.block 0 (.loop (.seq (.region [⟨(some 24), .bin .lss (.t 23) (.t 22), [], none⟩] [] [])
 (.seq (.cond (.t 24)
 .skip
 (.exit 0))
 (.seq (.block 1 (.seq (.region [⟨(some 25), .iaddr none 11 (.t 21) (.t 23), [], none⟩,
 ⟨(some 26), .load (some 11) (.t 25), [0], none⟩,
 ⟨(some 10), .alloc .dyn (.agg [(.int .u16 0), (.int .i64 0), (.int .i64 0), (.int .i64 0), (.int .i64 0), (.int .i64 0), (.int .i64 0), (.int .i64 0), (.int .i64 0), (.int .i64 0), (.int .i64 0)]), [], none⟩,
 ⟨none, .store 11 (.t 10) (.t 26), [2, 1, 0, 1, 2], none⟩] [] [24, 25, 26])
 (.region [⟨(some 27), .mov (.t 8), [], none⟩,
 ⟨(some 28), .faddr 0 (.t 10), [], none⟩,
 ⟨(some 29), .load none (.t 28), [1], none⟩,
 ⟨(some 30), .bin .or (.t 27) (.t 29), [0, 2], none⟩,
 ⟨(some 8), .mov (.t 30), [3, 0, 1, 2, 3], none⟩] [] [10, 27, 28, 29, 30])))
 (.region [⟨(some 31), .bin .add (.t 23) (.c (.int .i64 1)), [], none⟩,
 ⟨(some 23), .mov (.t 31), [0], none⟩] [] [31])))))))
 (.seq (.region [⟨(some 32), .mov (.t 8), [], none⟩,
 ⟨(some 33), .faddr 0 (.t 6), [], none⟩,
 ⟨(some 34), .load none (.t 33), [1], none⟩,
 ⟨(some 35), .bin .shl (.c (.int .u16 1)) (.t 34), [2], none⟩,
 ⟨(some 36), .bin .sub (.t 35) (.c (.int .u16 1)), [3], none⟩,
 ⟨(some 37), .bin .eql (.t 32) (.t 36), [0, 4], none⟩,
 ⟨(some 4), .mov (.t 37), [5, 0, 1, 2, 3, 4, 5], none⟩,
 ⟨(some 5), .mov (.c (.int .i64 0)), [6, 0, 1, 2, 3, 4, 5, 6], none⟩] [] [6, 8, 21, 22, 23, 32, 33, 34, 35, 36, 37])
 .ret))))))⟩
def s40 : SFn := ⟨48, [.tmp 2, .tmp 3],
 (.seq (.region [⟨(some 1), .box .dyn (.t 0), [], none⟩,
 ⟨(some 2), .mov (.c .nilsl), [], none⟩,
 ⟨(some 3), .mov (.c (.int .i64 0)), [1], none⟩] [] [0, 2, 3])
 (.seq (.region [⟨(some 10), .load (some 2) (.t 1), [], none⟩,
 ⟨(some 11), .call .pure (.f 41) [(.t 10)], [0], none⟩,
 ⟨(some 4), .mov (.t 11), [1, 1, 0, 1], none⟩] [] [10, 11])
 (.seq (.seq (.region [⟨(some 12), .mov (.t 4), [], none⟩,
 ⟨(some 13), .len 1 (.t 12), [0], none⟩,
 ⟨(some 14), .bin .gtr (.t 13) (.c (.int .i64 128)), [1], none⟩] [] [12, 13])
 (.cond (.t 14)
 (.seq (.region [⟨(some 2), .mov (.c .nilsl), [], none⟩,
 ⟨(some 3), .mov (.c (.int .i64 3)), [0, 0], none⟩] [] [1, 4, 14])
 .ret)
 .skip))
 (.seq (.region [⟨(some 5), .mov (.c .nilsl), [], none⟩] [] [2, 3, 14])
 (.seq (.seq (.region [⟨(some 15), .mov (.t 4), [], none⟩,
 ⟨(some 16), .len 1 (.t 15), [0], none⟩,
 ⟨(some 17), .mov (.c (.int .i64 0)), [], none⟩] [] [4])
 (.block 0 (.loop (.seq (.region [⟨(some 18), .bin .lss (.t 17) (.t 16), [], none⟩] [] [])
 (.seq (.cond (.t 18)
 .skip
 (.exit 0))
 (.seq (.block 1 (.seq (.region [⟨(some 19), .iaddr none 11 (.t 15) (.t 17), [], none⟩,
 ⟨(some 20), .load (some 11) (.t 19), [0], none⟩,
 ⟨(some 7), .alloc .dyn (.agg [(.int .u16 0), (.int .i64 0), (.int .i64 0), (.int .i64 0), (.int .i64 0), (.int .i64 0), (.int .i64 0), (.int .i64 0), (.int .i64 0), (.int .i64 0), (.int .i64 0)]), [], none⟩,
 ⟨none, .store 11 (.t 7) (.t 20), [2, 1, 0, 1, 2], none⟩] [] [18, 19, 20])
 (.seq (.region [⟨(some 21), .faddr 0 (.t 1), [], none⟩,
 ⟨(some 22), .load none (.t 21), [0], none⟩,
 ⟨(some 23), .mkslice .dyn 1 8 [(.int .i64 0)] (.t 22) (.t 22), [1, 1], none⟩,
 ⟨(some 8), .mov (.t 23), [2, 0, 1, 2], none⟩] [] [21, 22, 23])
 (.seq (.seq (.region [⟨(some 24), .mov (.t 8), [], none⟩,
 ⟨(some 25), .len 1 (.t 24), [0], none⟩,
 ⟨(some 26), .mov (.c (.int .i64 0)), [], none⟩] [] [24])
 (.block 2 (.loop (.seq (.region [⟨(some 27), .bin .lss (.t 26) (.t 25), [], none⟩] [] [])
 (.seq (.cond (.t 27)
 .skip
 (.exit 2))
 (.seq (.block 3 (.seq (.region [⟨(some 28), .mov (.t 26), [], none⟩,
 ⟨(some 9), .mov (.t 28), [0, 0], none⟩] [] [27, 28])
 (.seq (.seq (.region [⟨(some 29), .mov (.t 9), [], none⟩,
 ⟨(some 30), .faddr 1 (.t 7), [], none⟩,
 ⟨(some 31), .iaddr (some 10) 1 (.t 30) (.t 29), [1, 0], none⟩,
 ⟨(some 32), .load none (.t 31), [2], none⟩,
 ⟨(some 33), .bin .gtr (.t 32) (.c (.int .i64 65536)), [3], none⟩] [] [29, 30, 31, 32])
 (.cond (.t 33)
 (.seq (.region [⟨(some 2), .mov (.c .nilsl), [], none⟩,
 ⟨(some 3), .mov (.c (.int .i64 3)), [0, 0], none⟩] [] [1, 5, 15, 16, 17, 7, 8, 25, 26, 9, 33])
 .ret)
 .skip))
 (.region [⟨(some 34), .mov (.t 8), [], none⟩,
 ⟨(some 35), .mov (.t 9), [], none⟩,
 ⟨(some 36), .mov (.t 9), [], none⟩,
 ⟨(some 37), .faddr 1 (.t 7), [], none⟩,
 ⟨(some 38), .iaddr (some 10) 1 (.t 37) (.t 36), [3, 2], none⟩,
 ⟨(some 39), .load none (.t 38), [4], none⟩,
 ⟨(some 40), .iaddr none 1 (.t 34) (.t 35), [0, 1, 0, 1, 2, 3, 4, 5], none⟩,
 ⟨none, .store 1 (.t 40) (.t 39), [6, 5, 0, 1, 2, 3, 4, 5], none⟩] [] [2, 3, 9, 33, 34, 35, 36, 37, 38, 39, 40]))))
 (.region [⟨(some 41), .bin .add (.t 26) (.c (.int .i64 1)), [], none⟩,
 ⟨(some 26), .mov (.t 41), [0], none⟩] [] [41])))))))
 (.region [⟨(some 42), .mov (.t 5), [], none⟩,
 ⟨(some 43), .mov (.t 8), [], none⟩,
 ⟨(some 44), .bslice false .dyn 1 1 [.nilsl] [(0, 1, (.t 43))], [1], none⟩,
 ⟨(some 45), .append .dyn 1 24 (.t 42) (.t 44), [0, 2], none⟩,
 ⟨(some 5), .mov (.t 45), [3, 3, 0, 1, 2, 3], none⟩] [] [7, 8, 25, 26, 42, 43, 44, 45])))))
 (.region [⟨(some 46), .bin .add (.t 17) (.c (.int .i64 1)), [], none⟩,
 ⟨(some 17), .mov (.t 46), [0], none⟩] [] [46])))))))
 (.seq (.region [⟨(some 47), .mov (.t 5), [], none⟩,
 ⟨(some 2), .mov (.t 47), [0, 0], none⟩,
 ⟨(some 3), .mov (.c (.int .i64 0)), [1, 0, 1], none⟩] [] [1, 5, 15, 16, 17, 47])
 .ret))))))⟩
def s41 : SFn := ⟨19, [.tmp 2],
 (.seq (.region [⟨(some 1), .box .dyn (.t 0), [], none⟩,
 ⟨(some 2), .mov (.c .nilsl), [], none⟩] [] [0, 2])
 (.seq (.region [⟨(some 3), .alloc .dyn .nilsl, [], none⟩] [] [])
 (.seq (.region [⟨(some 6), .mkmap .dyn, [], none⟩,
 ⟨(some 4), .alloc .dyn .nilmap, [], none⟩,
 ⟨none, .store 1 (.t 4) (.t 6), [1, 0, 0, 1], none⟩] [] [6])
 (.seq (.seq (.region [⟨(some 5), .mov (.c (.int .i64 1)), [], none⟩] [] [])
 (.block 0 (.loop (.seq (.seq (.region [⟨(some 7), .mov (.t 5), [], none⟩,
 ⟨(some 8), .faddr 0 (.t 1), [], none⟩,
 ⟨(some 9), .load none (.t 8), [1], none⟩,
 ⟨(some 10), .bin .leq (.t 7) (.t 9), [0, 2], none⟩] [] [7, 8, 9])
 (.cond (.t 10)
 .skip
 (.exit 0)))
 (.seq (.block 1 (.region [⟨(some 13), .faddr 0 (.t 1), [], none⟩,
 ⟨(some 14), .load none (.t 13), [0], none⟩,
 ⟨(some 15), .mov (.t 5), [], none⟩,
 ⟨(some 16), .mkfn 60 [] [(.t 4), (.t 1), (.t 3)], [], none⟩,
 ⟨(some 17), .call .heap (.f 59) [(.t 14), (.t 15), (.t 16)], [1, 2, 3], none⟩] [] [10, 13, 14, 15, 16, 17]))
 (.region [⟨(some 11), .mov (.t 5), [], none⟩,
 ⟨(some 12), .bin .add (.t 11) (.c (.int .i64 1)), [0], none⟩,
 ⟨(some 5), .mov (.t 12), [1, 0, 1], none⟩] [] [11, 12]))))))
 (.seq (.region [⟨(some 18), .load none (.t 3), [], none⟩,
 ⟨(some 2), .mov (.t 18), [0, 0], none⟩] [] [1, 3, 4, 5, 18])
 .ret)))))⟩
def s59 : SFn := ⟨70, [],
 (.seq (.region [⟨(some 10), .mov (.t 1), [], none⟩,
 ⟨(some 11), .mkslice .dyn 1 8 [(.int .i64 0)] (.t 10) (.t 10), [0, 0], none⟩,
 ⟨(some 6), .mov (.t 11), [1, 0, 1], none⟩] [] [10, 11])
 (.seq (.seq (.region [⟨(some 12), .mov (.t 6), [], none⟩,
 ⟨(some 13), .len 1 (.t 12), [0], none⟩,
 ⟨(some 14), .mov (.c (.int .i64 0)), [], none⟩] [] [12])
 (.block 0 (.loop (.seq (.region [⟨(some 15), .bin .lss (.t 14) (.t 13), [], none⟩] [] [])
 (.seq (.cond (.t 15)
 .skip
 (.exit 0))
 (.seq (.block 1 (.seq (.region [⟨(some 16), .mov (.t 14), [], none⟩,
 ⟨(some 7), .mov (.t 16), [0, 0], none⟩] [] [15, 16])
 (.region [⟨(some 17), .mov (.t 6), [], none⟩,
 ⟨(some 18), .mov (.t 7), [], none⟩,
 ⟨(some 19), .mov (.t 7), [], none⟩,
 ⟨(some 20), .iaddr none 1 (.t 17) (.t 18), [0, 1, 0, 1, 2], none⟩,
 ⟨none, .store 1 (.t 20) (.t 19), [3, 2, 0, 1, 2], none⟩] [] [7, 17, 18, 19, 20])))
 (.region [⟨(some 21), .bin .add (.t 14) (.c (.int .i64 1)), [], none⟩,
 ⟨(some 14), .mov (.t 21), [0], none⟩] [] [21])))))))
 (.block 2 (.loop (.seq (.seq (.region [⟨(some 22), .mov (.t 1), [], none⟩,
 ⟨(some 23), .mov (.t 0), [], none⟩,
 ⟨(some 24), .bin .leq (.t 22) (.t 23), [0, 1], none⟩] [] [13, 14, 22, 23])
 (.cond (.t 24)
 .skip
 (.exit 2)))
 (.block 3 (.seq (.region [⟨(some 25), .mov (.t 2), [], none⟩,
 ⟨(some 26), .mov (.t 6), [], none⟩,
 ⟨(some 27), .call .heap (.t 25) [(.t 26)], [0, 1], none⟩] [] [24, 25, 26, 27])
 (.seq (.region [⟨(some 28), .mov (.t 1), [], none⟩,
 ⟨(some 29), .bin .sub (.t 28) (.c (.int .i64 1)), [0], none⟩,
 ⟨(some 8), .mov (.t 29), [1, 0, 1], none⟩] [] [28, 29])
 (.seq (.block 4 (.loop (.seq (.seq (.region [⟨(some 30), .mov (.t 8), [], none⟩,
 ⟨(some 31), .bin .geq (.t 30) (.c (.int .i64 0)), [0], none⟩,
 ⟨(some 32), .mov (.t 31), [1], none⟩,
 ⟨(some 33), .mov (.t 6), [2], (some (32, true))⟩,
 ⟨(some 34), .mov (.t 8), [2], (some (32, true))⟩,
 ⟨(some 35), .iaddr none 1 (.t 33) (.t 34), [3, 4, 2], (some (32, true))⟩,
 ⟨(some 36), .load none (.t 35), [5, 2], (some (32, true))⟩,
 ⟨(some 37), .mov (.t 0), [2], (some (32, true))⟩,
 ⟨(some 38), .mov (.t 1), [2], (some (32, true))⟩,
 ⟨(some 39), .bin .sub (.t 37) (.t 38), [7, 8, 2], (some (32, true))⟩,
 ⟨(some 40), .mov (.t 8), [2], (some (32, true))⟩,
 ⟨(some 41), .bin .add (.t 39) (.t 40), [9, 10, 2], (some (32, true))⟩,
 ⟨(some 42), .bin .eql (.t 36) (.t 41), [6, 11, 2], (some (32, true))⟩,
 ⟨(some 43), .pick (.t 32) (.t 42) (.c (.bool false)), [2, 12], none⟩] [] [30, 31, 32])
 (.cond (.t 43)
 .skip
 (.exit 4)))
 (.block 5 (.region [⟨(some 44), .mov (.t 8), [], none⟩,
 ⟨(some 45), .bin .sub (.t 44) (.c (.int .i64 1)), [0], none⟩,
 ⟨(some 8), .mov (.t 45), [1, 0, 1], none⟩] [] [43, 44, 45])))))
 (.seq (.seq (.region [⟨(some 46), .mov (.t 8), [], none⟩,
 ⟨(some 47), .bin .lss (.t 46) (.c (.int .i64 0)), [0], none⟩] [] [46])
 (.cond (.t 47)
 .ret
 .skip))
 (.seq (.region [⟨(some 48), .mov (.t 6), [], none⟩,
 ⟨(some 49), .mov (.t 8), [], none⟩,
 ⟨(some 50), .iaddr none 1 (.t 48) (.t 49), [0, 1], none⟩,
 ⟨(some 51), .load none (.t 50), [2], none⟩,
 ⟨(some 52), .bin .add (.t 51) (.c (.int .i64 1)), [3], none⟩,
 ⟨(some 53), .iaddr none 1 (.t 48) (.t 49), [0, 1, 0, 1, 2, 3, 4], none⟩,
 ⟨none, .store 1 (.t 53) (.t 52), [5, 4, 0, 1, 2, 3, 4], none⟩] [] [47, 48, 49, 50, 51, 52, 53])
 (.seq (.region [⟨(some 54), .mov (.t 8), [], none⟩,
 ⟨(some 55), .bin .add (.t 54) (.c (.int .i64 1)), [0], none⟩,
 ⟨(some 9), .mov (.t 55), [1, 0, 1], none⟩] [] [8, 54, 55])
 (.block 6 (.loop (.seq (.seq (.region [⟨(some 56), .mov (.t 9), [], none⟩,
 ⟨(some 57), .mov (.t 1), [], none⟩,
 ⟨(some 58), .bin .lss (.t 56) (.t 57), [0, 1], none⟩] [] [56, 57])
 (.cond (.t 58)
 .skip
 (.exit 6)))
 (.seq (.block 7 (.region [⟨(some 61), .mov (.t 6), [], none⟩,
 ⟨(some 62), .mov (.t 9), [], none⟩,
 ⟨(some 63), .mov (.t 6), [], none⟩,
 ⟨(some 64), .mov (.t 9), [], none⟩,
 ⟨(some 65), .bin .sub (.t 64) (.c (.int .i64 1)), [3], none⟩,
 ⟨(some 66), .iaddr none 1 (.t 63) (.t 65), [2, 4], none⟩,
 ⟨(some 67), .load none (.t 66), [5], none⟩,
 ⟨(some 68), .bin .add (.t 67) (.c (.int .i64 1)), [6], none⟩,
 ⟨(some 69), .iaddr none 1 (.t 61) (.t 62), [0, 1, 0, 1, 2, 3, 4, 5, 6, 7], none⟩,
 ⟨none, .store 1 (.t 69) (.t 68), [8, 7, 0, 1, 2, 3, 4, 5, 6, 7], none⟩] [] [58, 61, 62, 63, 64, 65, 66, 67, 68, 69]))
 (.region [⟨(some 59), .mov (.t 9), [], none⟩,
 ⟨(some 60), .bin .add (.t 59) (.c (.int .i64 1)), [0], none⟩,
 ⟨(some 9), .mov (.t 60), [1, 0, 1], none⟩] [] [59, 60])))))))))))))))))⟩
def s60 : SFn := ⟨71, [],
 (.seq (.region [⟨(some 5), .mov (.c (.int .u16 0)), [], none⟩] [] [])
 (.seq (.seq (.region [⟨(some 14), .mov (.t 0), [], none⟩,
 ⟨(some 15), .len 1 (.t 14), [0], none⟩,
 ⟨(some 16), .mov (.c (.int .i64 0)), [], none⟩] [] [])
 (.block 0 (.loop (.seq (.region [⟨(some 17), .bin .lss (.t 16) (.t 15), [], none⟩] [] [])
 (.seq (.cond (.t 17)
 .skip
 (.exit 0))
 (.seq (.block 1 (.seq (.region [⟨(some 18), .iaddr none 1 (.t 14) (.t 16), [], none⟩,
 ⟨(some 19), .load none (.t 18), [0], none⟩,
 ⟨(some 7), .mov (.t 19), [1, 0, 1], none⟩] [] [17, 18, 19])
 (.region [⟨(some 20), .mov (.t 5), [], none⟩,
 ⟨(some 21), .mov (.t 7), [], none⟩,
 ⟨(some 22), .bin .shl (.c (.int .u16 1)) (.t 21), [1], none⟩,
 ⟨(some 23), .bin .or (.t 20) (.t 22), [0, 2], none⟩,
 ⟨(some 5), .mov (.t 23), [3, 0, 1, 2, 3], none⟩] [] [7, 20, 21, 22, 23])))
 (.region [⟨(some 24), .bin .add (.t 16) (.c (.int .i64 1)), [], none⟩,
 ⟨(some 16), .mov (.t 24), [0], none⟩] [] [24])))))))
 (.seq (.mloop [⟨(some 25), .load none (.t 1), [], none⟩] (.t 25) 26 27 28 29 2 3 [⟨(some 30), .extract 0 (.t 29), [0], none⟩, ⟨(some 8), .mov (.t 30), [1, 0, 1], none⟩]
 (.seq (.region [⟨(some 31), .mov (.t 8), [], none⟩,
 ⟨(some 32), .mov (.t 5), [], none⟩,
 ⟨(some 33), .bin .and (.t 31) (.t 32), [0, 1], none⟩,
 ⟨(some 34), .mov (.t 8), [], none⟩,
 ⟨(some 35), .bin .eql (.t 33) (.t 34), [2, 3], none⟩] [] [])
 (.cond (.t 35)
 .ret
 .skip)))
 (.seq (.region [⟨(some 37), .load (some 2) (.t 2), [], none⟩,
 ⟨(some 38), .mov (.t 0), [], none⟩,
 ⟨(some 39), .call .heap (.f 61) [(.t 37), (.t 38)], [0, 1], none⟩,
 ⟨(some 36), .mov (.t 39), [2], none⟩,
 ⟨(some 40), .extract 0 (.t 36), [3], none⟩,
 ⟨(some 41), .extract 1 (.t 36), [3], none⟩,
 ⟨(some 9), .mov (.t 40), [4, 2, 0, 1, 2, 3, 4], none⟩,
 ⟨(some 10), .mov (.t 41), [5, 6, 0, 1, 2, 3, 4, 5, 6], none⟩] [] [2, 14, 15, 16, 37, 38, 39, 36, 40, 41])
 (.seq (.seq (.region [⟨(some 42), .mov (.t 10), [], none⟩,
 ⟨(some 43), .un .not (.t 42), [0], none⟩,
 ⟨(some 44), .mov (.t 43), [1], none⟩,
 ⟨(some 45), .mov (.t 9), [2], (some (44, false))⟩,
 ⟨(some 46), .call .borrow (.f 62) [(.t 45), (.f 63)], [3, 2, 2], (some (44, false))⟩,
 ⟨(some 47), .pick (.t 44) (.c (.bool true)) (.t 46), [2, 4], none⟩] [] [46, 45, 10, 42, 43, 44])
 (.cond (.t 47)
 .ret
 .skip))
 (.seq (.region [⟨(some 48), .mov (.t 5), [], none⟩,
 ⟨(some 49), .build [(.int .u16 0), (.int .i64 0), (.int .i64 0), (.int .i64 0), (.int .i64 0), (.int .i64 0), (.int .i64 0), (.int .i64 0), (.int .i64 0), (.int .i64 0), (.int .i64 0)] [(0, 1, (.t 48))], [0], none⟩,
 ⟨(some 11), .alloc .dyn (.agg [(.int .u16 0), (.int .i64 0), (.int .i64 0), (.int .i64 0), (.int .i64 0), (.int .i64 0), (.int .i64 0), (.int .i64 0), (.int .i64 0), (.int .i64 0), (.int .i64 0)]), [], none⟩,
 ⟨none, .store 11 (.t 11) (.t 49), [2, 1, 0, 1, 2], none⟩] [] [47, 48, 49])
 (.seq (.seq (.region [⟨(some 50), .mov (.t 0), [], none⟩,
 ⟨(some 51), .len 1 (.t 50), [0], none⟩,
 ⟨(some 52), .mov (.c (.int .i64 0)), [], none⟩] [] [0])
 (.block 4 (.loop (.seq (.region [⟨(some 53), .bin .lss (.t 52) (.t 51), [], none⟩] [] [])
 (.seq (.cond (.t 53)
 .skip
 (.exit 4))
 (.seq (.block 5 (.seq (.region [⟨(some 54), .mov (.t 52), [], none⟩,
 ⟨(some 55), .iaddr none 1 (.t 50) (.t 52), [], none⟩,
 ⟨(some 56), .load none (.t 55), [1], none⟩,
 ⟨(some 12), .mov (.t 54), [0, 0, 1, 2], none⟩,
 ⟨(some 13), .mov (.t 56), [2, 3, 0, 1, 2, 3], none⟩] [] [53, 54, 55, 56])
 (.region [⟨(some 57), .mov (.t 13), [], none⟩,
 ⟨(some 58), .mov (.t 9), [], none⟩,
 ⟨(some 59), .mov (.t 12), [], none⟩,
 ⟨(some 60), .iaddr none 1 (.t 58) (.t 59), [1, 2], none⟩,
 ⟨(some 61), .load none (.t 60), [3], none⟩,
 ⟨(some 62), .faddr 1 (.t 11), [], none⟩,
 ⟨(some 63), .iaddr (some 10) 1 (.t 62) (.t 57), [5, 0, 0, 1, 2, 3, 4], none⟩,
 ⟨none, .store 1 (.t 63) (.t 61), [6, 4, 0, 1, 2, 3, 4], none⟩] [] [12, 13, 57, 58, 59, 60, 61, 62, 63])))
 (.region [⟨(some 64), .bin .add (.t 52) (.c (.int .i64 1)), [], none⟩,
 ⟨(some 52), .mov (.t 64), [0], none⟩] [] [64])))))))
 (.seq (.region [⟨(some 65), .load none (.t 1), [], none⟩,
 ⟨(some 66), .mov (.t 5), [], none⟩,
 ⟨none, .mupd false [.i] (.t 65) (.t 66) (.c (.bool true)), [0, 1, 0, 1], none⟩] [] [1, 5, 9, 50, 51, 52, 65, 66])
 (.region [⟨(some 67), .load none (.t 3), [], none⟩,
 ⟨(some 68), .load (some 11) (.t 11), [], none⟩,
 ⟨(some 69), .bslice false .dyn 11 1 [(.int .u16 0), (.int .i64 0), (.int .i64 0), (.int .i64 0), (.int .i64 0), (.int .i64 0), (.int .i64 0), (.int .i64 0), (.int .i64 0), (.int .i64 0), (.int .i64 0)] [(0, 11, (.t 68))], [1], none⟩,
 ⟨(some 70), .append .dyn 11 88 (.t 67) (.t 69), [0, 2], none⟩,
 ⟨none, .store 1 (.t 3) (.t 70), [3, 3, 0, 1, 2, 3], none⟩] [] [3, 11, 67, 68, 69, 70])))))))))⟩
theorem ok14 : okFn Try.prog 14 s14 = true := by kernel_rfl
theorem ok15 : okFn Try.prog 15 s15 = true := by kernel_rfl
theorem ok40 : okFn Try.prog 40 s40 = true := by kernel_rfl
theorem ok41 : okFn Try.prog 41 s41 = true := by kernel_rfl
theorem ok59 : okFn Try.prog 59 s59 = true := by kernel_rfl
theorem ok60 : okFn Try.prog 60 s60 = true := by kernel_rfl
end Go.AM.SM
set_option linter.unusedSimpArgs false
set_option linter.unusedVariables false
namespace Go.AM
variable {P : Program}
def noLoop : SCode → Bool
  | .loop _ | .mloop .. => false
  | .seq a b => noLoop a && noLoop b
  | .cond _ a b => noLoop a && noLoop b
  | .block _ b => noLoop b
  | _ => true
theorem wpC.toW1 {N : NM} : ∀ {c : SCode} {n : Nat} {T : Tmps} {h : Heap} {Q : QC}, noLoop c = true → wpC P N c n T h Q → W P N.n c (fun e B => ∃ n, Q e B.T B.h n) ⟨T, h⟩
  | .skip, n, T, h, Q, _, hk => W.skip ⟨n, hk⟩
  | .ret, n, T, h, Q, _, hk => W.ret ⟨n, hk⟩
  | .exit i, n, T, h, Q, _, hk => W.exit ⟨n, hk⟩
  | .bad, _, _, _, _, _, hk => hk.elim
  | .mloop .., n, T, h, Q, hn, hk => by simp [noLoop] at hn
  | .loop _, n, T, h, Q, hn, hk => by simp [noLoop] at hn
  | .region ops [] dead, n, T, h, Q, _, hk => by
    have := wpR.toWR (i := 0) hk
    exact W.regionR n (this |> fun h => by simpa using (show _ from (wpC.toW.wr_mono h)))
  | .region ops (p :: ps) dead, n, T, h, Q, _, hk => by
    obtain ⟨fs, T', h', h1, h2, h3⟩ := wpRF.toF (i := 0) hk
    exact W.regionF n fs h1 h2 ⟨_, h3⟩
  | .seq a b, n, T, h, Q, hn, hk => by
    simp only [wpC] at hk
    simp only [noLoop, Bool.and_eq_true] at hn
    refine W.seq ((wpC.toW1 (c := a) hn.1 hk).mono ?_)
    rintro e B ⟨n', hq⟩
    cases e with
    | normal => exact wpC.toW1 hn.2 hq
    | exit i => exact ⟨n', hq⟩
    | ret => exact ⟨n', hq⟩
  | .cond x a b, n, T, h, Q, hn, ⟨t, hx, hk⟩ => by
    simp only [noLoop, Bool.and_eq_true] at hn
    refine W.cond hx ?_ ?_
    · intro e; rw [if_pos e] at hk; exact wpC.toW1 hn.1 hk
    · intro e; rw [if_neg (by simp [e])] at hk; exact wpC.toW1 hn.2 hk
  | .block i b, n, T, h, Q, hn, hk => by
    simp only [wpC] at hk
    refine W.block ((wpC.toW1 (c := b) hn hk).mono ?_)
    rintro e B ⟨n', hq⟩
    cases e with
    | normal => exact ⟨n', hq⟩
    | ret => exact ⟨n', hq⟩
    | exit j =>
      simp only at hq ⊢
      split
      · rename_i e; rw [if_pos e] at hq; exact ⟨n', hq⟩
      · rename_i e; rw [if_neg e] at hq; exact ⟨n', hq⟩
theorem W.weak1 {N : Nat} {c : SCode} {Q : SX → St → Prop} {T L : Tmps} {h : Heap} (hT : Sub L T) (hw : W P N c Q ⟨L, h⟩) : W P N c Q ⟨T, h⟩ := by
  intro code hok ctx a w S Q' hQ
  refine hw code hok ctx a w ⟨S.heap, fun i => ?_, S.size, S.defers⟩ Q' hQ
  rcases hT i with e | e
  · show VRel ctx w (lk L i) _
    rw [e]; simp [VRel]
  · show VRel ctx w (lk L i) _
    rw [e]; exact S.tmps i
def msQ (P : Program) (N : NM) (L : Tmps) (h : Heap) (b2 : Nat) (G : Prop) (fs : List Fr) (Q : QC) : QC := fun e T h' n =>
  match e with
  | .normal => G ∧ Sub L T ∧ h' = h
  | .exit j => if j = b2 then G ∧ Sub L T ∧ h' = h else False
  | .ret => wX P N .ret fs n T h' Q
section
variable {N : NM} {n : Nat} {T L : Tmps} {h : Heap} {Q : QC} {fs : List Fr} {b2 : Nat} {G : Prop}
theorem msQ_normal {h' : Heap} : msQ P N L h b2 G fs Q .normal T h' n = (G ∧ Sub L T ∧ h' = h) := rfl
theorem msQ_exit {j : Nat} {h' : Heap} : msQ P N L h b2 G fs Q (.exit j) T h' n = if j = b2 then G ∧ Sub L T ∧ h' = h else False := rfl
theorem msQ_ret {h' : Heap} : msQ P N L h b2 G fs Q .ret T h' n = wX P N .ret fs n T h' Q := rfl
theorem Rec.sub {m : Nat} {T1 T Lx : Tmps} {L : HL} {h : Heap} (hr : Rec m T1 L Lx h) (hS : Sub Lx T) : Rec m T1 L T h := by
  obtain ⟨ps, h1, h2, h3, h4⟩ := hr
  refine ⟨ps, h1, h2, h3, fun i => ?_⟩
  rcases hS i with e | e
  · intro c w v H M _
    exact h4 i c w v H M (by rw [e]; simp [VRel])
  · rw [← e]; exact h4 i
theorem wS_msearch {kk m : Nat} {p d it nx ok en b1 a e8 : Nat} {l1 l2 : List Nat} {body : SCode} {b g off mb mg : Nat} {cs : List AV} {es : List (AV × AV)} (n0 n1 k0 : Nat) (L T1 : Tmps) (L1 : HL) (G : AV → AV → Prop)
    (htp : lk T p = .ptr b g off) (hb : h.get b = some (.cells g cs)) (hc : cs[off]? = some (.map mb mg)) (hm : h.get mb = some (.map mg es)) (hn : h.get k0 = none) (hk : k0 < 1099511627775) (hmk : mb ≠ k0)
    (hL : Sub ((it, .ptr k0 0 0) :: L) (up (up T d (.map mb mg)) it (.ptr k0 0 0)))
    (hfree : (((it, AV.any) :: L).all fun q => !Nat.beq q.1 nx && !Nat.beq q.1 ok && !Nat.beq q.1 en && !Nat.beq q.1 a && !Nat.beq q.1 e8) = true) (hae : a ≠ en) (hno : noLoop body = true)
    (round : ∀ (i : Nat) (k v : AV), es[i]? = some (k, v) → wS P ⟨kk, m⟩ body [] n0 ((e8, k) :: (it, .ptr k0 0 0) :: L) (h.set k0 (.dead 0)) (msQ P ⟨kk, m⟩ ((it, .ptr k0 0 0) :: L) (h.set k0 (.dead 0)) b2 (G k v) fs Q))
    (hrec : Rec m T1 L1 ((it, .ptr k0 0 0) :: L) (h.set k0 (.dead 0))) (cont : (∀ (i : Nat) (k v : AV), es[i]? = some (k, v) → G k v) → wX P ⟨kk, m⟩ .normal fs n1 T1 (hp L1) Q) :
    wS P ⟨kk, m⟩ (.mloop [⟨some d, .load none (.t p), [], none⟩] (.t d) it nx ok en b1 b2 [⟨some a, .extract 0 (.t en), l1, none⟩, ⟨some e8, .mov (.t a), l2, none⟩] body) fs n T h Q := by
  show W2 P ⟨kk, m⟩ (.mloop [⟨some d, .load none (.t p), [], none⟩] (.t d) it nx ok en b1 b2 _ body) (fun e B => ∃ n, ct P ⟨kk, m⟩ fs Q e B.T B.h n) ⟨T, h⟩
  have hkl : k0 < lim := by unfold lim; omega
  have hrun : ∃ f, RunF P n 0 [⟨some d, .load none (.t p), [], none⟩] [f] ⟨T, h⟩ ⟨up T d (.map mb mg), h⟩ := by
    refine ⟨_, _, [], .map mb mg, h, rfl, ⟨.val (.map mb mg), h, ?_, rfl, rfl, rfl⟩, rfl, rfl⟩
    show (hval (aLoad none (lk T p))).run h = _
    rw [htp]
    have : (aLoad none (.ptr b g off)).run h = some (.map mb mg, h) := by
      simp only [aLoad, HM.cells, HM.run, hb]
      have : Nat.beq g g = true := by simp
      rw [this]; simp only [cond_true, hc, HM.opt, HM.run]
    exact run_hval' _ _ this
  obtain ⟨f0, hrun⟩ := hrun
  have hf : ∀ j, (j = nx ∨ j = ok ∨ j = en ∨ j = a ∨ j = e8) → ∀ (X : Tmps) (v : AV), Sub ((it, .ptr k0 0 0) :: L) X → Sub ((it, .ptr k0 0 0) :: L) (up X j v) := by
    intro j hj X v hS i
    rw [lk_up]
    split
    · rename_i e; subst e
      left
      have hq : ∀ q ∈ ((it, AV.any) :: L), q.1 ≠ i := by
        intro q hq e
        have := List.all_eq_true.1 hfree q hq
        simp only [Bool.and_eq_true, Bool.not_eq_true', Bool.not_eq_true] at this
        have hne : Nat.beq q.1 i = false → False := fun h => by rw [show q.1 = i from e] at h; simp at h
        rcases hj with rfl | rfl | rfl | rfl | rfl
        · exact hne this.1.1.1.1
        · exact hne this.1.1.1.2
        · exact hne this.1.1.2
        · exact hne this.1.2
        · exact hne this.2
      have hmem : ∀ (M : Tmps), (∀ q ∈ M, q.1 ≠ i) → lk M i = .any := by
        intro M
        induction M with
        | nil => intro _; rfl
        | cons q M ih =>
          intro hM
          obtain ⟨j, u⟩ := q
          rw [lk_cons, if_neg (hM (j, u) (by simp)), ih fun q hq => hM q (by simp [hq])]
      refine hmem _ fun q hq' => ?_
      rcases List.mem_cons.1 hq' with rfl | h2
      · exact hq (it, AV.any) (by simp)
      · exact hq q (by simp [h2])
    · exact hS i
  refine W2.post (W2.of_W (W.mloop (A := ⟨T, h⟩) (B0 := ⟨up T d (.map mb mg), h⟩) (mb := mb) (mg := mg) (es := es) n _ hrun ?_ hm hn hkl
    (fun vis B => B.h = h.set k0 (.dead 0) ∧ Sub ((it, .ptr k0 0 0) :: L) B.T ∧ (lk B.T it = .ptr k0 0 0) ∧ ∀ i, i ∈ vis → ∀ (k v : AV), es[i]? = some (k, v) → G k v) ?_ ?_ ?_ ?_))
  · show lk (up T d (.map mb mg)) d = _
    rw [lk_up, if_pos rfl]
  · rintro vis B ⟨h1, h2, h3, _⟩
    exact ⟨h3, es, by rw [h1, get_ne hk hmk, hm], rfl⟩
  · exact ⟨rfl, hL, by rw [lk_up, if_pos rfl], fun i hi => by cases hi⟩
  · rintro vis B i k v es' ⟨h1, h2, h3, h4⟩ hi hme hes
    have hes' : es' = es := by
      rw [h1, get_ne hk hmk, hm] at hme; cases hme; rfl
    subst hes'
    generalize hX : up (up B.T nx .any) ok (.bool true) = X
    have hXS : Sub ((it, .ptr k0 0 0) :: L) X := by rw [← hX]; exact hf ok (.inr (.inl rfl)) _ _ (hf nx (.inl rfl) _ _ h2)
    refine ⟨n, _, ⟨up (up (up X en (.tup [k, v])) a k) e8 k, B.h⟩, ⟨_, _, k, B.h, rfl, ⟨.val k, B.h, ?_, rfl, rfl, rfl⟩, ⟨_, [], k, B.h, rfl, ⟨.val k, B.h, ?_, rfl, rfl, rfl⟩, rfl, rfl⟩⟩, ?_⟩
    · show (lift (aExtract 0 (lk (up X en (.tup [k, v])) en))).run B.h = _
      rw [lk_up, if_pos rfl]; rfl
    · show (HM.ret (AOut.val (lk (up (up X en (.tup [k, v])) a k) a))).run B.h = _
      rw [lk_up, if_pos rfl]; rfl
    · have hS2 := hf e8 (.inr (.inr (.inr (.inr rfl)))) _ k (hf a (.inr (.inr (.inr (.inl rfl)))) _ k (hf en (.inr (.inr (.inl rfl))) X (.tup [k, v]) hXS))
      rw [h1]
      refine W.weak1 (L := (e8, k) :: (it, .ptr k0 0 0) :: L) (Sub.cons (by rw [lk_up, if_pos rfl]) hS2) ((wpC.toW1 hno (round i k v hes)).mono ?_)
      have again : ∀ D : St, G k v ∧ Sub ((it, .ptr k0 0 0) :: L) D.T ∧ D.h = h.set k0 (.dead 0) → D.h = h.set k0 (.dead 0) ∧ Sub ((it, .ptr k0 0 0) :: L) D.T ∧ lk D.T it = .ptr k0 0 0 ∧ ∀ i', i' ∈ i :: vis → ∀ (k v : AV), es'[i']? = some (k, v) → G k v := by
        rintro D ⟨g1, g2, g3⟩
        refine ⟨g3, g2, ?_, fun i' hi' k' v' he => ?_⟩
        · rcases g2 it with e | e
          · rw [lk_cons, if_pos rfl] at e; cases e
          · rw [lk_cons, if_pos rfl] at e; exact e.symm
        · rcases List.mem_cons.1 hi' with rfl | hi'
          · rw [hes] at he; cases he; exact g1
          · exact h4 i' hi' k' v' he
      rintro e D ⟨n', hq⟩
      cases e with
      | normal => exact again D hq
      | exit j =>
        have hq : (if j = b2 then G k v ∧ Sub ((it, .ptr k0 0 0) :: L) D.T ∧ D.h = h.set k0 (.dead 0) else False) := hq
        split at hq
        · rename_i e; show (if j = b2 then _ else _); rw [if_pos e]; exact again D hq
        · exact hq.elim
      | ret => exact .inl ⟨n', hq⟩
  · rintro vis B ⟨h1, h2, h3, h4⟩ hall
    have hG := cont fun i k v hi => h4 i (hall i (List.getElem?_eq_some_iff.1 hi).1) k v hi
    right
    refine ⟨T1, L1, ?_, n1, hG⟩
    show Rec m T1 L1 (up (up B.T nx .any) ok (.bool false)) B.h
    rw [h1]
    exact hrec.sub (hf ok (.inr (.inl rfl)) _ _ (hf nx (.inl rfl) _ _ h2))
end
end Go.AM
