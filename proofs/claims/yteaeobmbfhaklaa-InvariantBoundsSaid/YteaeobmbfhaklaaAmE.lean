/- The abstract machine, part E: the operations that only reckon, and addresses. -/
import Derived.Test.YteaeobmbfhaklaaAmD
import Derived.Laws.Strings
import Derived.Laws.StructEq
set_option linter.unusedSimpArgs false
set_option linter.unusedVariables false
namespace Go.AM
variable {P : Program} {c : Ctx} {w : World} {h : Heap}

/-- What a reckoning comes to: the world stays. -/
def Pure (P : Program) (c : Ctx) (w : World) (s : Sem Value) (v : AV) : Prop := ∃ cv, s.run P w = .ok cv w ∧ VRel c w v cv

theorem Pure.sound {s : Sem Value} {v : AV} (H : HRel c h w) (p : Pure P c w s v) : Sound P c w s v h :=
  let ⟨_, h1, h2⟩ := p; .here H h1 h2

theorem beq_dec {α : Type} [BEq α] [LawfulBEq α] [DecidableEq α] (a b : α) : (a == b) = decide (a = b) := by
  rw [Bool.eq_iff_iff]; simp
theorem bne_dec {α : Type} [BEq α] [LawfulBEq α] [DecidableEq α] (a b : α) : (a != b) = !decide (a = b) := by
  simp [bne, beq_dec]

theorem bin_sound {op : BinOp} {t : TypeId} {x y v : AV} {cx cy : Value} (hx : VRel c w x cx) (hy : VRel c w y cy) (hm : aBin op x y = some v) :
    Pure P c w (binOp op t cx cy) v := by
  unfold aBin at hm
  split at hm
  · rename_i k a k' b
    simp only [VRel] at hx hy
    subst hx; subst hy
    split at hm
    · split at hm
      · cases hm
      · rename_i hb
        cases hm
        exact ⟨_, by simp [binOp, Op.shift, hb]; rfl, by simp [VRel, wr_eq]⟩
    · split at hm
      · cases hm
      · rename_i hb
        cases hm
        exact ⟨_, by simp [binOp, Op.shift, hb]; rfl, by simp [VRel]⟩
    · split at hm
      · rename_i hk
        subst hk
        split at hm <;> first
          | (by_cases hb : b = 0
             · rw [if_pos hb] at hm; cases hm
             · rw [if_neg hb] at hm; cases hm
               refine ⟨?_, ?_, ?_⟩; rotate_left
               · simp [binOp, Op.intDiv, hb]; rfl
               · simp [VRel, wr_eq]; done)
          | (cases hm; refine ⟨.bool (a == b), ?_, ?_⟩
             · simp [binOp, Op.intCmp]; done
             · rw [beq_dec]; simp only [VRel])
          | (cases hm; refine ⟨.bool (a != b), ?_, ?_⟩
             · simp [binOp, Op.intCmp]; done
             · rw [bne_dec]; simp only [VRel])
          | (cases hm; refine ⟨?_, ?_, ?_⟩; rotate_left
             · simp [binOp, Op.intCmp]; rfl
             · simp [VRel]; done)
          | (cases hm; refine ⟨?_, ?_, ?_⟩; rotate_left
             · simp [binOp, Op.intArith]; rfl
             · simp [VRel, wr_eq]; done)
          | (cases hm; refine ⟨?_, ?_, ?_⟩; rotate_left
             · simp [binOp, Op.intBits]; rfl
             · simp [VRel, wr_eq]; done)
          | cases hm
      · cases hm
  · rename_i a b
    simp only [VRel] at hx hy
    subst hx; subst hy
    split at hm
    · split at hm
      · rename_i hl
        cases hm
        have h2 : ¬ (9223372036854775807 < (a.length : Int) + (b.length : Int)) := by omega
        exact ⟨.string ⟨(a ++ b).toArray⟩, by simp [binOp, Op.stringOp, ByteArray.size, h2]; rfl, by simp [VRel]⟩
      · cases hm
    all_goals first
      | (cases hm; exact ⟨_, by simp [binOp, Op.stringOp]; rfl, by simp [VRel, beq_dec, bne_dec]⟩)
      | cases hm
  · cases hm

theorem un_sound {op : UnOp} {x v : AV} {cx : Value} (hx : VRel c w x cx) (hm : aUn op x = some v) : Pure P c w (Op.unary op cx) v := by
  unfold aUn at hm
  split at hm
  · simp only [VRel] at hx; subst hx; cases hm
    exact ⟨_, by simp [Op.unary, Op.intArith]; rfl, by simp [VRel, wr_eq]⟩
  · simp only [VRel] at hx; subst hx; cases hm
    rename_i k n
    refine ⟨_, by simp [Op.unary, Op.intBits]; rfl, ?_⟩
    simp only [VRel, wr_eq]
    cases k <;> rfl
  · simp only [VRel] at hx; subst hx; cases hm
    exact ⟨_, by simp [Op.unary]; rfl, by simp [VRel]⟩
  · cases hm

/-! ### comparison cell by cell -/
def flatF (P : Program) (rec : TypeId → Option (List LK)) : List Field → Nat → Option (List LK)
  | [], _ => some []
  | f :: fs, off =>
    if f.name = "_" ∨ f.offset ≠ off then none else
    match rec f.type with
    | some ks => if P.cellsOf f.type = ks.length then (match flatF P rec fs (off + ks.length) with | some r => some (ks ++ r) | none => none) else none
    | none => none

def flatK (P : Program) : Nat → TypeId → Option (List LK)
  | 0, _ => none
  | d + 1, t =>
    match P.underlying t with
    | some .bool => some [.b]
    | some (.int _) => some [.i]
    | some .string => some [.s]
    | some (.struct fs) => if P.stoodInHeld t then none else flatF P (flatK P d) fs.toList 0
    | some (.array n e) => match flatK P d e with
      | some ks => if P.cellsOf e = ks.length then some (List.replicate n ks).flatten else none
      | none => none
    | _ => none

def rowB (P : Program) (t : TypeId) : Bool :=
  match P.underlying t with
  | some (.struct _) | some (.array _ _) => true
  | _ => false

/-- The value of a row of cells. -/
def asVal (row : Bool) (vs : List Value) : Value := if row then .agg vs.toArray else vs.headD undef

theorem eqCells_length : ∀ {ks : List LK} {xs ys : List AV} {b : Bool}, eqCells ks xs ys = some b → xs.length = ks.length ∧ ys.length = ks.length
  | [], [], [], _, _ => by simp
  | [], x :: xs, ys, _, hh => by simp [eqCells] at hh
  | [], [], y :: ys, _, hh => by simp [eqCells] at hh
  | k :: ks, [], ys, _, hh => by simp [eqCells] at hh
  | k :: ks, x :: xs, [], _, hh => by simp [eqCells] at hh
  | k :: ks, x :: xs, y :: ys, b, hh => by
    simp only [eqCells] at hh
    split at hh
    · rename_i a b' h1 h2
      have := eqCells_length h2
      simp [this]
    · cases hh

theorem eqCells_split : ∀ {ks ks' : List LK} {xs ys : List AV} {b : Bool}, eqCells (ks ++ ks') xs ys = some b →
    ∃ b1 b2, eqCells ks (xs.take ks.length) (ys.take ks.length) = some b1 ∧ eqCells ks' (xs.drop ks.length) (ys.drop ks.length) = some b2 ∧ b = (b1 && b2)
  | [], ks', xs, ys, b, hh => ⟨true, b, by simp [eqCells], by simpa using hh, by simp⟩
  | k :: ks, ks', [], ys, b, hh => by simp [eqCells] at hh
  | k :: ks, ks', x :: xs, [], b, hh => by simp [eqCells] at hh
  | k :: ks, ks', x :: xs, y :: ys, b, hh => by
    simp only [List.cons_append, eqCells] at hh
    split at hh
    · rename_i a b' h1 h2
      obtain ⟨b1, b2, k1, k2, k3⟩ := eqCells_split h2
      cases hh
      refine ⟨a && b1, b2, ?_, by simpa using k2, by rw [k3, Bool.and_assoc]⟩
      simp [eqCells, h1, k1]
    · cases hh

theorem run_part {t : TypeId} {cs : Array Value} {off n : Nat} {i : TypeInfo} (w : World) {d : TypeDesc} (hu : P.underlying t = some d) (hi : P.info? t = some i) (hn : i.size = n) (hone : rowB P t = false → n = 1) (hl : off + n ≤ cs.size) :
    (part t cs off).run P w = .ok (asVal (rowB P t) ((cs.toList.drop off).take n)) w := by
  subst hn
  unfold part isAgg
  have key : rowB P t = false → cs[off]? = some (((cs.toList.drop off).take i.size).headD undef) := by
    intro hr
    rw [hone hr, List.take_one]
    have : off < cs.size := by have := hone hr; omega
    simp [List.head?_drop, this]
  have agg : .agg (cs.extract off (off + i.size)) = (Value.agg ((cs.toList.drop off).take i.size).toArray) := by
    congr 1
    apply Array.ext'
    simp [List.extract_eq_take_drop]
    
  cases d <;> first
    | (have hr : rowB P t = true := by simp [rowB, hu]
       simp only [Sem.run_bind, run_underlying hu, Result.andThen_ok, Sem.run_pure, if_true, run_sizeOf hi, hr, asVal]
       rw [agg])
    | (have hr : rowB P t = false := by simp [rowB, hu]
       simp only [Sem.run_bind, run_underlying hu, Result.andThen_ok, Sem.run_pure, Bool.false_eq_true, if_false, key hr, hr, asVal])

theorem cellsOf_info {t : TypeId} {n : Nat} (hh : P.cellsOf t = n) (hn : 0 < n) : ∃ i, P.info? t = some i ∧ i.size = n := by
  unfold Program.cellsOf at hh
  cases hi : P.info? t with
  | none => simp [hi] at hh; omega
  | some i => exact ⟨i, rfl, by simpa [hi] using hh⟩

theorem info_of_underlying {t : TypeId} {d : TypeDesc} (hh : P.underlying t = some d) : ∃ i, P.info? t = some i := by
  unfold Program.underlying at hh
  cases hi : P.info? t with
  | none => simp [hi] at hh
  | some i => exact ⟨i, rfl⟩

theorem flatK_one {d : Nat} {t : TypeId} {ks : List LK} (hh : flatK P d t = some ks) (hr : rowB P t = false) : ks.length = 1 := by
  cases d with
  | zero => simp [flatK] at hh
  | succ d =>
    unfold flatK at hh
    unfold rowB at hr
    split at hh <;> first
      | (simp_all; done)
      | (cases hh; rfl)
      | (rename_i hu; simp [hu] at hr)

theorem flatK_under {d : Nat} {t : TypeId} {ks : List LK} (hh : flatK P d t = some ks) : ∃ u, P.underlying t = some u := by
  cases d with
  | zero => simp [flatK] at hh
  | succ d =>
    unfold flatK at hh
    cases hu : P.underlying t with
    | none => simp [hu] at hh
    | some u => exact ⟨u, rfl⟩

/-- Two rows of cells, compared type by type. -/
def EqRun (P : Program) (c : Ctx) (w : World) (d : Nat) : Prop :=
  ∀ (t : TypeId) (ks : List LK), flatK P d t = some ks → ∀ (xs ys : List AV) (us vs : List Value) (b : Bool), VRels c w xs us → VRels c w ys vs → eqCells ks xs ys = some b →
    ∀ D, d ≤ D → (Op.equalIn D t (asVal (rowB P t) us) (asVal (rowB P t) vs)).run P w = .ok b w

theorem eqFields_run {d : Nat} (ih : EqRun P c w d) : ∀ (fs : List Field) (off : Nat) (ks : List LK), flatF P (flatK P d) fs off = some ks →
    ∀ (xs ys : List AV) (us vs : Array Value) (b : Bool), VRels c w xs (us.toList.drop off) → VRels c w ys (vs.toList.drop off) → eqCells ks xs ys = some b → off + ks.length ≤ us.size → off + ks.length ≤ vs.size →
    ∀ D, d ≤ D → (Op.eqFields D us vs fs).run P w = .ok b w
  | [], off, ks, hk, xs, ys, us, vs, b, hx, hy, hb, _, _, D, hD => by
    simp only [flatF, Option.some.injEq] at hk
    subst hk
    cases xs <;> cases ys <;> simp [eqCells] at hb
    subst hb
    simp [Op.eqFields]
  | f :: fs, off, ks, hk, xs, ys, us, vs, b, hx, hy, hb, hu, hv, D, hD => by
    simp only [flatF] at hk
    split at hk
    · cases hk
    · rename_i hn
      have hn1 : f.name ≠ "_" := fun e => hn (.inl e)
      have hn2 : f.offset = off := by false_or_by_contra; rename_i e; exact hn (.inr e)
      split at hk
      · rename_i k1 hk1
        split at hk
        · rename_i hc
          split at hk
          · rename_i r hr
            cases hk
            simp only [List.length_append] at hu hv
            obtain ⟨b1, b2, e1, e2, rfl⟩ := eqCells_split hb
            obtain ⟨u, hun⟩ := flatK_under hk1
            obtain ⟨i, hi⟩ := info_of_underlying hun
            have hsz : i.size = k1.length := by unfold Program.cellsOf at hc; simpa [hi] using hc
            have hlx := VRels_length hx
            have hly := VRels_length hy
            simp at hlx hly
            have hp1 := run_part (P := P) (cs := us) (off := off) w hun hi hsz (flatK_one hk1) (by omega)
            have hp2 := run_part (P := P) (cs := vs) (off := off) w hun hi hsz (flatK_one hk1) (by omega)
            have hx1 := VRels_take_drop (VRels_pre hx) 0 k1.length (by omega)
            have hy1 := VRels_take_drop (VRels_pre hy) 0 k1.length (by omega)
            simp only [List.drop_zero] at hx1 hy1
            have h1 := ih f.type k1 hk1 _ _ _ _ b1 hx1 hy1 e1 D hD
            have hx2 : VRels c w (xs.drop k1.length) (us.toList.drop (off + k1.length)) := by
              have := VRels_take_drop (VRels_pre hx) k1.length (xs.length - k1.length) (by omega)
              rw [List.take_of_length_le (by simp), List.take_of_length_le (by simp; omega), List.drop_drop] at this
              exact this
            have hy2 : VRels c w (ys.drop k1.length) (vs.toList.drop (off + k1.length)) := by
              have := VRels_take_drop (VRels_pre hy) k1.length (ys.length - k1.length) (by omega)
              rw [List.take_of_length_le (by simp), List.take_of_length_le (by simp; omega), List.drop_drop] at this
              exact this
            have h2 := eqFields_run ih fs (off + k1.length) r hr _ _ us vs b2 hx2 hy2 e2 (by omega) (by omega) D hD
            simp only [Op.eqFields, ne_eq, hn1, not_false_eq_true, if_true, Sem.run_bind, hn2, hp1, hp2, Result.andThen_ok, h1]
            cases b1 <;> simp [h2]
          · cases hk
        · cases hk
      · cases hk

/-- The elements of two arrays, one after another. -/
def eqElems (D : Nat) (e : TypeId) (n : Nat) (xs ys : Array Value) : List Nat → Sem Bool
  | [] => pure true
  | i :: is => do
    let a ← part e xs (i * n)
    let b ← part e ys (i * n)
    let r ← Op.equalIn D e a b
    if (!r) = true then pure false else eqElems D e n xs ys is

theorem run_equalIn_array (D : Nat) (t e : TypeId) (len n : Nat) (xs ys : Array Value) (w : World) (ht : P.underlying t = some (.array len e)) (hn : ∀ w, (sizeOf e).run P w = .ok n w) :
    (Op.equalIn (D + 1) t (.agg xs) (.agg ys)).run P w = (eqElems D e n xs ys (List.range' 0 len)).run P w := by
  simp only [Op.equalIn, Sem.run_bind, run_underlying ht, Result.andThen_ok, hn, Std.Legacy.Range.forIn_eq_forIn_range', Std.Legacy.Range.size, Nat.sub_zero, Nat.add_sub_cancel, Nat.div_one]
  generalize List.range' 0 len = l
  induction l generalizing w with
  | nil => simp [eqElems]
  | cons i l ih =>
    simp only [List.forIn_cons, eqElems, Sem.run_bind, Sem.run_ite]
    generalize (part e xs (i * n)).run P w = r1
    cases r1 with
    | ok a w1 =>
      simp only [Result.andThen_ok]
      generalize (part e ys (i * n)).run P w1 = r2
      cases r2 with
      | ok b w2 =>
        simp only [Result.andThen_ok]
        generalize (Op.equalIn D e a b).run P w2 = r3
        cases r3 with
        | ok r w3 =>
          cases r
          · simp only [Result.andThen_ok, Bool.not_false, if_true, Sem.run_pure]
          · simp only [Result.andThen_ok, Bool.not_true, Bool.false_eq_true, if_false, Sem.run_pure]
            exact ih w3
        | halt x w3 => simp [Result.andThen]
      | halt x w2 => simp [Result.andThen]
    | halt x w1 => simp [Result.andThen]

theorem eqElems_run {d : Nat} (ih : EqRun P c w d) {e : TypeId} {ks : List LK} (hk : flatK P d e = some ks) (hc : P.cellsOf e = ks.length) : ∀ (m s : Nat) (xs ys : List AV) (us vs : Array Value) (b : Bool),
    VRels c w xs (us.toList.drop (s * ks.length)) → VRels c w ys (vs.toList.drop (s * ks.length)) → eqCells (List.replicate m ks).flatten xs ys = some b → (s + m) * ks.length ≤ us.size → (s + m) * ks.length ≤ vs.size →
    ∀ D, d ≤ D → (eqElems D e ks.length us vs (List.range' s m)).run P w = .ok b w
  | 0, s, xs, ys, us, vs, b, hx, hy, hb, _, _, D, hD => by
    cases xs <;> cases ys <;> simp [eqCells] at hb
    subst hb
    simp [eqElems]
  | m + 1, s, xs, ys, us, vs, b, hx, hy, hb, hu, hv, D, hD => by
    rw [List.replicate_succ, List.flatten_cons] at hb
    obtain ⟨b1, b2, e1, e2, rfl⟩ := eqCells_split hb
    obtain ⟨u, hun⟩ := flatK_under hk
    obtain ⟨i, hi⟩ := info_of_underlying hun
    have hsz : i.size = ks.length := by unfold Program.cellsOf at hc; simpa [hi] using hc
    have hlx := VRels_length hx
    have hly := VRels_length hy
    simp at hlx hly
    have a1 : (s + (m + 1)) * ks.length = s * ks.length + ks.length + m * ks.length := by
      rw [Nat.add_mul, Nat.succ_mul]; omega
    have a2 : (s + 1) * ks.length = s * ks.length + ks.length := Nat.succ_mul _ _
    have hp1 := run_part (P := P) (cs := us) (off := s * ks.length) w hun hi hsz (flatK_one hk) (by omega)
    have hp2 := run_part (P := P) (cs := vs) (off := s * ks.length) w hun hi hsz (flatK_one hk) (by omega)
    have hx1 := VRels_take_drop (VRels_pre hx) 0 ks.length (by omega)
    have hy1 := VRels_take_drop (VRels_pre hy) 0 ks.length (by omega)
    simp only [List.drop_zero] at hx1 hy1
    have h1 := ih e ks hk _ _ _ _ b1 hx1 hy1 e1 D hD
    have hx2 : VRels c w (xs.drop ks.length) (us.toList.drop ((s + 1) * ks.length)) := by
      have := VRels_take_drop (VRels_pre hx) ks.length (xs.length - ks.length) (by omega)
      rw [List.take_of_length_le (by simp), List.take_of_length_le (by simp; omega), List.drop_drop] at this
      rw [a2]; exact this
    have hy2 : VRels c w (ys.drop ks.length) (vs.toList.drop ((s + 1) * ks.length)) := by
      have := VRels_take_drop (VRels_pre hy) ks.length (ys.length - ks.length) (by omega)
      rw [List.take_of_length_le (by simp), List.take_of_length_le (by simp; omega), List.drop_drop] at this
      rw [a2]; exact this
    have h2 := eqElems_run ih hk hc m (s + 1) _ _ us vs b2 hx2 hy2 e2 (by rw [show s + 1 + m = s + (m + 1) by omega]; exact hu) (by rw [show s + 1 + m = s + (m + 1) by omega]; exact hv) D hD
    simp only [List.range'_succ, eqElems, Sem.run_bind, hp1, hp2, Result.andThen_ok, h1]
    cases b1 <;> simp [h2]

theorem eqRun : ∀ d, EqRun P c w d
  | 0 => fun t ks hk => by simp [flatK] at hk
  | d + 1 => by
    intro t ks hk xs ys us vs b hx hy hb D hD
    obtain ⟨D', rfl⟩ : ∃ D', D = D' + 1 := ⟨D - 1, by omega⟩
    have hlx := VRels_length hx
    have hly := VRels_length hy
    obtain ⟨hl1, hl2⟩ := eqCells_length hb
    unfold flatK at hk
    split at hk
    · rename_i hu
      cases hk
      have hr : rowB P t = false := by simp [rowB, hu]
      match xs, ys, hb with
      | [x], [y], hb =>
        simp only [eqCells] at hb
        split at hb <;> cases hb
        rename_i a b' h1 h2
        cases h2
        cases x <;> cases y <;> simp only [eqCell, reduceCtorEq] at h1
        cases h1
        simp only [VRels, VRel] at hx hy
        obtain ⟨_, _, rfl, rfl, rfl⟩ := hx
        obtain ⟨_, _, rfl, rfl, rfl⟩ := hy
        simp [hr, asVal, Op.equalIn, run_underlying hu, beq_dec]
    · rename_i k hu
      cases hk
      have hr : rowB P t = false := by simp [rowB, hu]
      match xs, ys, hb with
      | [x], [y], hb =>
        simp only [eqCells] at hb
        split at hb <;> cases hb
        rename_i a b' h1 h2
        cases h2
        cases x <;> cases y <;> simp only [eqCell, reduceCtorEq] at h1
        split at h1
        · rename_i hkk
          cases h1
          subst hkk
          simp only [VRels, VRel] at hx hy
          obtain ⟨_, _, rfl, rfl, rfl⟩ := hx
          obtain ⟨_, _, rfl, rfl, rfl⟩ := hy
          simp [hr, asVal, Op.equalIn, run_underlying hu]
          rw [beq_dec]
        · cases h1
    · rename_i hu
      cases hk
      have hr : rowB P t = false := by simp [rowB, hu]
      match xs, ys, hb with
      | [x], [y], hb =>
        simp only [eqCells] at hb
        split at hb <;> cases hb
        rename_i a b' h1 h2
        cases h2
        cases x <;> cases y <;> simp only [eqCell, reduceCtorEq] at h1
        cases h1
        simp only [VRels, VRel] at hx hy
        obtain ⟨_, _, rfl, rfl, rfl⟩ := hx
        obtain ⟨_, _, rfl, rfl, rfl⟩ := hy
        simp [hr, asVal, Op.equalIn, run_underlying hu, beq_toListBytes, beq_dec]
    · rename_i fs hu
      split at hk
      · cases hk
      · rename_i hst
        have hr : rowB P t = true := by simp [rowB, hu]
        have hf : P.fieldsOf t = fs := by simp [Program.fieldsOf, hu]
        simp only [hr, asVal, if_true]
        rw [run_equalIn_struct w D' t _ _ (by rw [hf]; exact hu) (by simpa using hst), hf]
        exact eqFields_run (eqRun d) fs.toList 0 ks hk xs ys us.toArray vs.toArray b (by simpa using hx) (by simpa using hy) hb (by simp; omega) (by simp; omega) D' (by omega)
    · rename_i n e hu
      split at hk
      · rename_i ks' hk'
        split at hk
        · rename_i hc
          cases hk
          have hr : rowB P t = true := by simp [rowB, hu]
          obtain ⟨u, hun⟩ := flatK_under hk'
          obtain ⟨i, hi⟩ := info_of_underlying hun
          have hsz : i.size = ks'.length := by unfold Program.cellsOf at hc; simpa [hi] using hc
          simp only [hr, asVal, if_true]
          rw [run_equalIn_array D' t e n ks'.length _ _ w hu (fun w => by rw [← hsz]; exact run_sizeOf hi w)]
          have hfl : (List.replicate n ks').flatten.length = n * ks'.length := by simp
          exact eqElems_run (eqRun d) hk' hc n 0 xs ys us.toArray vs.toArray b (by simpa using hx) (by simpa using hy) hb (by simp; omega) (by simp; omega) D' (by omega)
        · cases hk
      · cases hk
    · cases hk

/-- The kind of a type that has a nil. -/
def kindT (P : Program) (t : TypeId) : Nat :=
  match P.underlying t with
  | some (.pointer _) => 1
  | some (.slice _) => 2
  | some (.map _ _) => 3
  | some (.func _ _ _) => 4
  | some (.interface _) => 5
  | _ => 0

def eqT (P : Program) (t : TypeId) : EqK → Bool
  | .flat row ks => match row with
    | true => rowB P t && !P.eqGuardType P.depth t && (match flatK P 40 t with | some ks' => ks.length == ks'.length && (ks.zip ks').all (fun p => match p with | (.b, .b) | (.i, .i) | (.s, .s) => true | _ => false) | none => false)
    | false => match P.underlying t with | some .bool => true | _ => false
  | .nil kind => kindT P t == kind

theorem lk_eq : ∀ {ks ks' : List LK}, (ks.length == ks'.length && (ks.zip ks').all (fun p => match p with | (.b, .b) | (.i, .i) | (.s, .s) => true | _ => false)) = true → ks = ks'
  | [], [], _ => rfl
  | [], _ :: _, hh => by simp at hh
  | _ :: _, [], hh => by simp at hh
  | k :: ks, k' :: ks', hh => by
    simp only [List.length_cons, List.zip_cons_cons, List.all_cons, Bool.and_eq_true, beq_iff_eq] at hh
    have ih := lk_eq (ks := ks) (ks' := ks') (by simp only [Bool.and_eq_true, beq_iff_eq]; exact ⟨by omega, hh.2.2⟩)
    subst ih
    cases k <;> cases k' <;> simp_all

theorem bne_ff (b : Bool) : (b != false) = b := by cases b <;> rfl
theorem bne_tt (b : Bool) : (b != true) = !b := by cases b <;> rfl

theorem eql_of {neg : Bool} {op : BinOp} {t : TypeId} {x y : Value} {b : Bool} (hop : op = if neg then .neq else .eql)
    (h1 : binOp .eql t x y = (do pure (.bool (← Op.equal t x y)))) (h2 : binOp .neq t x y = (do pure (.bool (!(← Op.equal t x y)))))
    (hb : ∀ d, (Op.equalIn (d + 1) t x y).run P w = .ok b w) : (binOp op t x y).run P w = .ok (.bool (b != neg)) w := by
  have hb' : (Op.equal t x y).run P w = .ok b w := hb 9999
  subst hop
  cases neg
  · simp only [Bool.false_eq_true, if_false, h1, Sem.run_bind, hb', Result.andThen_ok, Sem.run_pure, bne_ff]
  · simp only [if_true, h2, Sem.run_bind, hb', Result.andThen_ok, Sem.run_pure, bne_tt]

theorem nil_eq {t : TypeId} {x y : AV} {cx cy : Value} {b : Bool} {kd : Nat} (h1 : isNil x = some (b, kd)) (h2 : isNil y = some (true, kd)) (hx : VRel c w x cx) (hy : VRel c w y cy) (ht : kindT P t = kd) :
    (∀ d, (Op.equalIn (d + 1) t cx cy).run P w = .ok b w) ∧ binOp .eql t cx cy = (do pure (.bool (← Op.equal t cx cy))) ∧ binOp .neq t cx cy = (do pure (.bool (!(← Op.equal t cx cy)))) ∧
      ∀ {op : BinOp} {ox : Operand} {cv : Value}, (eqGuard op t ox (.const cv) cx cy).run P w = .ok () w := by
  unfold kindT at ht
  have hyn : (cy = .pointer none ∧ kd = 1) ∨ (cy = .slice none 0 0 ∧ kd = 2) ∨ (cy = .map none ∧ kd = 3) ∨ (cy = .nilFunc ∧ kd = 4) ∨ (cy = .nilIface ∧ kd = 5) := by
    unfold isNil at h2
    split at h2 <;> try simp only [Option.some.injEq, Prod.mk.injEq, reduceCtorEq, Bool.false_eq_true, false_and, true_and] at h2
    all_goals first
      | (subst h2; simp only [VRel] at hy; subst hy; simp; done)
      | (split at h2 <;> simp at h2; done)
      | (exfalso; simp at h2; done)
  have hxn : (b = true ∧ cx = .pointer none ∧ kd = 1) ∨ (b = false ∧ kd = 1 ∧ ∃ a, cx = .pointer (some a)) ∨ (b = true ∧ cx = .slice none 0 0 ∧ kd = 2) ∨ (b = false ∧ kd = 2 ∧ ∃ a n m, cx = .slice (some a) n m) ∨
      (b = true ∧ cx = .map none ∧ kd = 3) ∨ (b = false ∧ kd = 3 ∧ ∃ a, cx = .map (some a)) ∨ (b = true ∧ cx = .nilFunc ∧ kd = 4) ∨ (b = false ∧ kd = 4 ∧ ∃ f u v, cx = .func f u v) ∨
      (b = true ∧ cx = .nilIface ∧ kd = 5) ∨ (b = false ∧ kd = 5 ∧ ∃ u v, cx = .iface u v) := by
    unfold isNil at h1
    split at h1 <;> try simp only [Option.some.injEq, Prod.mk.injEq, reduceCtorEq] at h1
    all_goals try (split at h1)
    all_goals try (simp only [Option.some.injEq, Prod.mk.injEq, reduceCtorEq] at h1)
    all_goals try (cases h1; done)
    all_goals
      obtain ⟨rfl, rfl⟩ := h1
      simp only [VRel] at hx
    · subst hx; simp
    · obtain ⟨_, _, _, rfl⟩ := hx; simp
    · obtain ⟨_, _, _, _, _, rfl, _⟩ := hx; simp
    · subst hx; simp
    · rcases hx with ⟨_, h, _⟩ | ⟨_, _, _, _, _, _, rfl, _⟩
      · cases h
      · simp
    · rcases hx with ⟨_, h, _⟩ | ⟨_, _, _, _, _, _, _, _, rfl, _⟩
      · cases h
      · simp
    · subst hx; simp
    · obtain ⟨_, _, rfl⟩ := hx; simp
    · subst hx; simp
    · obtain ⟨_, _, rfl, _⟩ := hx; simp
    · subst hx; simp
    · obtain ⟨_, rfl, _⟩ := hx; simp
  rcases hyn with ⟨rfl, rfl⟩ | ⟨rfl, rfl⟩ | ⟨rfl, rfl⟩ | ⟨rfl, rfl⟩ | ⟨rfl, rfl⟩ <;> simp only [Nat.reduceEqDiff, and_false, false_and, or_false, false_or, and_true, true_and, reduceCtorEq] at hxn <;>
    (split at ht <;> first | (simp at ht; done) | skip) <;> rename_i hu <;>
    rcases hxn with ⟨rfl, rfl⟩ | ⟨rfl, hh⟩
  · exact ⟨fun d => by simp [Op.equalIn, run_underlying hu], rfl, rfl, fun {op ox cv} => by cases op <;> rfl⟩
  · obtain ⟨_, rfl⟩ := hh
    exact ⟨fun d => by simp [Op.equalIn, run_underlying hu], rfl, rfl, fun {op ox cv} => by cases op <;> rfl⟩
  · exact ⟨fun d => by simp [Op.equalIn, run_underlying hu], rfl, rfl, fun {op ox cv} => by cases op <;> rfl⟩
  · obtain ⟨_, _, _, rfl⟩ := hh
    exact ⟨fun d => by simp [Op.equalIn, run_underlying hu], rfl, rfl, fun {op ox cv} => by cases op <;> rfl⟩
  · exact ⟨fun d => by simp [Op.equalIn, run_underlying hu], rfl, rfl, fun {op ox cv} => by cases op <;> rfl⟩
  · obtain ⟨_, rfl⟩ := hh
    exact ⟨fun d => by simp [Op.equalIn, run_underlying hu], rfl, rfl, fun {op ox cv} => by cases op <;> rfl⟩
  · exact ⟨fun d => by simp [Op.equalIn, run_underlying hu], rfl, rfl, fun {op ox cv} => by cases op <;> rfl⟩
  · obtain ⟨_, _, _, rfl⟩ := hh
    exact ⟨fun d => by simp [Op.equalIn, run_underlying hu], rfl, rfl, fun {op ox cv} => by cases op <;> rfl⟩
  · exact ⟨fun d => by simp [Op.equalIn, run_underlying hu], rfl, rfl, fun {op ox cv} => by cases op <;> cases ox <;> rfl⟩
  · obtain ⟨_, _, rfl⟩ := hh
    exact ⟨fun d => by simp [Op.equalIn, run_underlying hu], rfl, rfl, fun {op ox cv} => by cases op <;> rfl⟩

theorem eq_sound {k : EqK} {op : BinOp} {neg : Bool} {t : TypeId} {ox oy : Operand} {x y v : AV} {cx cy : Value} (hop : op = if neg then .neq else .eql) (hx : VRel c w x cx) (hy : VRel c w y cy)
    (ht : eqT P t k = true) (hc : (∀ kind, k = .nil kind → ∃ v, oy = .const v)) (hm : aEq k neg x y = some v) :
    Pure P c w (do eqGuard op t ox oy cx cy; binOp op t cx cy) v := by
  unfold aEq at hm
  cases k with
  | flat row ks =>
    cases row with
    | true =>
      cases x <;> try (simp at hm; done)
      cases y <;> try (simp at hm; done)
      rename_i xs ys
      simp only at hm
      split at hm
      · rename_i b hb
        cases hm
        simp only [VRel] at hx hy
        obtain ⟨us, rfl, hx⟩ := hx
        obtain ⟨vs, rfl, hy⟩ := hy
        simp only [eqT, Bool.and_eq_true, Bool.not_eq_true'] at ht
        obtain ⟨⟨hr, hg⟩, hk⟩ := ht
        split at hk
        · rename_i ks' hks
          have := lk_eq hk
          subst this
          have h1 := eqRun (P := P) (c := c) (w := w) 40 t ks hks xs ys us.toList vs.toList b hx hy hb 10000 (by omega)
          simp only [hr, asVal, if_true, Array.toArray_toList] at h1
          subst hop
          cases neg
          · exact ⟨_, by simp [run_eqGuard_agg, hg, run_eql_struct, h1]; rfl, by simp [VRel, bne_ff]⟩
          · exact ⟨_, by simp [run_eqGuard_agg, hg, run_neq_struct, h1]; rfl, by simp [VRel, bne_tt]⟩
        · simp at hk
      · cases hm
    | false =>
      cases x <;> try (simp at hm; done)
      cases y <;> try (simp at hm; done)
      rename_i a b
      simp only [Option.some.injEq] at hm
      subst hm
      simp only [VRel] at hx hy
      subst hx; subst hy
      simp only [eqT] at ht
      split at ht
      · rename_i hu
        have := eql_of (P := P) (w := w) (t := t) (x := .bool a) (y := .bool b) (b := (a == b)) hop rfl rfl (fun d => run_equalIn_bool' w d t a b hu)
        refine ⟨.bool ((a == b) != neg), ?_, ?_⟩
        · rw [Sem.run_bind]
          have hg : (eqGuard op t ox oy (.bool a) (.bool b)).run P w = .ok () w := by cases op <;> rfl
          rw [hg]
          exact this
        · simp [VRel, beq_dec]
      · cases ht
  | nil kind =>
    obtain ⟨cv, rfl⟩ := hc kind rfl
    simp only at hm
    split at hm
    · rename_i b k1 k2 h1 h2
      split at hm
      · rename_i hk
        cases hm
        simp only [eqT, beq_iff_eq] at ht
        obtain ⟨e0, e1, e2, e3⟩ := nil_eq (P := P) (w := w) (t := t) (by rw [hk.1] at h1; exact h1) (by rw [hk.2] at h2; exact h2) hx hy ht
        refine ⟨.bool (b != neg), ?_, by simp [VRel]⟩
        rw [Sem.run_bind, e3]
        exact eql_of hop e1 e2 e0
      · cases hm
    · cases hm

end Go.AM
