/- The abstract machine, part G: maps. -/
import Derived.Test.YteaeobmbfhaklaaAmF
set_option linter.unusedSimpArgs false
set_option linter.unusedVariables false
namespace Go.AM
variable {P : Program} {c : Ctx} {w : World} {h : Heap}

/-! ### the operations -/
/-- Are two keys equal? (row: they are rows of cells.) -/
def keyEq (row : Bool) (ks : List LK) (k k' : AV) : Option Bool :=
  match row with
  | true => match k, k' with
    | .agg xs, .agg ys => eqCells ks xs ys
    | _, _ => none
  | false => eqCells ks [k] [k']

def aFind (row : Bool) (ks : List LK) (k : AV) : List (AV × AV) → Nat → Option (Option (Nat × AV))
  | [], _ => some none
  | (k', v) :: r, i =>
    match keyEq row ks k k' with
    | some true => some (some (i, v))
    | some false => aFind row ks k r (i + 1)
    | none => none

/-- The entries of a map. -/
def HM.entries {α : Type} (b g : Nat) (k : List (AV × AV) → HM α) : HM α :=
  .look b fun x => match x with
    | some (.map g' es) => bif Nat.beq g' g then k es else .fail
    | _ => .fail

/-- The key is one of the type's. -/
def keyOK (row : Bool) (ks : List LK) (k : AV) : Bool :=
  match keyEq row ks k k with | some _ => true | none => false

def aLookup (row : Bool) (ks : List LK) (zero : AV) (ok : Bool) (x k : AV) : HM AV :=
  if keyOK row ks k then
    match x with
    | .nilmap => .ret (if ok then .tup [zero, .bool false] else zero)
    | .map b g => .entries b g fun es =>
      match aFind row ks k es 0 with
      | some (some (_, v)) => .ret (if ok then .tup [v, .bool true] else v)
      | some none => .ret (if ok then .tup [zero, .bool false] else zero)
      | none => .fail
    | _ => .fail
  else .fail

def aMapUpd (row : Bool) (ks : List LK) (x k v : AV) : HM AV :=
  if keyOK row ks k then
    match x with
    | .map b g => .entries b g fun es =>
      match aFind row ks k es 0 with
      | some (some (i, _)) => .put b (.map g (es.set i (k, v))) (.ret .any)
      | some none => .put b (.map g (es ++ [(k, v)])) (.ret .any)
      | none => .fail
    | _ => .fail
  else .fail

def aMakeMap (s : Site) (i : Nat) : HM AV := .new s i (fun g => .map g []) fun b g => .ret (.map b g)

/-! ### keys -/
/-- Two keys as rows of cells. -/
theorem keyEq_rel {row : Bool} {ks : List LK} {k k' : AV} {ck ck' : Value} {b : Bool} (hk : keyEq row ks k k' = some b) (hr : VRel c w k ck) (hr' : VRel c w k' ck') :
    ∃ xs ys us vs, ck = asVal row us ∧ ck' = asVal row vs ∧ VRels c w xs us ∧ VRels c w ys vs ∧ eqCells ks xs ys = some b := by
  cases row with
  | true =>
    cases k <;> cases k' <;> simp only [keyEq, reduceCtorEq] at hk
    simp only [VRel] at hr hr'
    obtain ⟨us, rfl, h1⟩ := hr
    obtain ⟨vs, rfl, h2⟩ := hr'
    exact ⟨_, _, us.toList, vs.toList, by simp [asVal], by simp [asVal], h1, h2, hk⟩
  | false =>
    exact ⟨[k], [k'], [ck], [ck'], by simp [asVal], by simp [asVal], by simp [VRels, hr], by simp [VRels, hr'], hk⟩

theorem eqCells_left {ks : List LK} {xs ys : List AV} {b : Bool} (hh : eqCells ks xs ys = some b) : (∃ b', eqCells ks xs xs = some b') ∧ ∃ b', eqCells ks ys ys = some b' := by
  induction ks generalizing xs ys b with
  | nil => cases xs <;> cases ys <;> simp [eqCells] at hh ⊢
  | cons k ks ih =>
    cases xs <;> cases ys <;> simp only [eqCells, reduceCtorEq] at hh ⊢
    rename_i x xs y ys
    split at hh
    · rename_i a b' h1 h2
      obtain ⟨⟨b1, e1⟩, ⟨b2, e2⟩⟩ := ih h2
      rw [e1, e2]
      have : (∃ a', eqCell k x x = some a') ∧ ∃ a', eqCell k y y = some a' := by
        cases k <;> cases x <;> cases y <;> simp [eqCell] at h1 ⊢
      obtain ⟨⟨a1, f1⟩, ⟨a2, f2⟩⟩ := this
      rw [f1, f2]
      exact ⟨⟨_, rfl⟩, ⟨_, rfl⟩⟩
    · cases hh

/-- Cells that are equal stand for one and the same. -/
theorem eqCells_same : ∀ {ks : List LK} {xs ys : List AV} {us vs : List Value}, eqCells ks xs ys = some true → VRels c w xs us → VRels c w ys vs → us = vs ∧ ∀ u ∈ us, (∃ k n, u = .int k n) ∨ (∃ b, u = .bool b) ∨ ∃ s, u = .string s
  | [], xs, ys, us, vs, hh, hx, hy => by
    cases xs <;> cases ys <;> simp [eqCells] at hh
    simp only [VRels] at hx hy
    subst hx; subst hy
    exact ⟨rfl, by simp⟩
  | k :: ks, xs, ys, us, vs, hh, hx, hy => by
    cases xs <;> cases ys <;> simp only [eqCells, reduceCtorEq] at hh
    rename_i x xs y ys
    split at hh
    · rename_i a b h1 h2
      have hab : a = true ∧ b = true := by cases a <;> cases b <;> simp_all
      obtain ⟨rfl, rfl⟩ := hab
      simp only [VRels] at hx hy
      obtain ⟨u, us', rfl, hu, hus⟩ := hx
      obtain ⟨v, vs', rfl, hv, hvs⟩ := hy
      obtain ⟨rfl, hall⟩ := eqCells_same h2 hus hvs
      have : u = v ∧ ((∃ k n, u = .int k n) ∨ (∃ b, u = .bool b) ∨ ∃ s, u = .string s) := by
        cases k <;> cases x <;> cases y <;> simp only [eqCell, reduceCtorEq, Option.some.injEq] at h1 <;> simp only [VRel] at hu hv <;> subst hu <;> subst hv
        · exact ⟨by simp at h1; rw [h1], by simp⟩
        · split at h1
          · rename_i e; subst e; simp at h1
            exact ⟨by rw [h1], by simp⟩
          · cases h1
        · exact ⟨by simp at h1; rw [h1], by simp⟩
      obtain ⟨rfl, hh3⟩ := this
      refine ⟨rfl, fun u' hu' => ?_⟩
      rcases List.mem_cons.1 hu' with e | e
      · subst e; exact hh3
      · exact hall u' e
    · cases hh

/-- A key of a flat type may be a key. -/
def CkRun (P : Program) (c : Ctx) (w : World) (d : Nat) : Prop :=
  ∀ (t : TypeId) (ks : List LK), flatK P d t = some ks → ∀ (xs : List AV) (us : List Value) (b : Bool), VRels c w xs us → eqCells ks xs xs = some b →
    ∀ e D, d ≤ D → (Instr.checkKey e D t (asVal (rowB P t) us)).run P w = .ok () w

def ckFields (D : Nat) (e : Bool) (us : Array Value) : List Field → Sem Unit
  | [] => pure ()
  | f :: fs => if f.name ≠ "_" then do
      let a ← part f.type us f.offset
      Instr.checkKey e D f.type a
      ckFields D e us fs
    else ckFields D e us fs

def ckElems (D : Nat) (e : Bool) (t : TypeId) (n : Nat) (us : Array Value) : List Nat → Sem Unit
  | [] => pure ()
  | i :: is => do
    let a ← part t us (i * n)
    Instr.checkKey e D t a
    ckElems D e t n us is

theorem run_ck_struct (D : Nat) (e : Bool) (t : TypeId) (us : Array Value) (fs : Array Field) (w : World) (ht : P.underlying t = some (.struct fs)) :
    (Instr.checkKey e (D + 1) t (.agg us)).run P w = (ckFields D e us fs.toList).run P w := by
  simp only [Instr.checkKey, Sem.run_bind, run_underlying ht, Result.andThen_ok]
  rw [← Array.forIn_toList]
  generalize fs.toList = l
  clear ht
  induction l generalizing w with
  | nil => simp [ckFields]
  | cons f l ih =>
    simp only [List.forIn_cons, ckFields, Sem.run_bind, Sem.run_ite]
    split
    · generalize (part f.type us f.offset).run P w = r1
      cases r1 with
      | ok a w1 =>
        simp only [Result.andThen_ok]
        generalize (Instr.checkKey e D f.type a).run P w1 = r2
        cases r2 with
        | ok b w2 => simp only [Result.andThen_ok, Sem.run_pure]; exact ih w2
        | halt x w2 => simp [Result.andThen]
      | halt x w1 => simp [Result.andThen]
    · simp only [Sem.run_pure, Result.andThen_ok]
      exact ih w

theorem run_ck_array (D : Nat) (e : Bool) (t el : TypeId) (len n : Nat) (us : Array Value) (w : World) (ht : P.underlying t = some (.array len el)) (hn : ∀ w, (sizeOf el).run P w = .ok n w) :
    (Instr.checkKey e (D + 1) t (.agg us)).run P w = (ckElems D e el n us (List.range' 0 len)).run P w := by
  simp only [Instr.checkKey, Sem.run_bind, run_underlying ht, Result.andThen_ok, hn, Std.Legacy.Range.forIn_eq_forIn_range', Std.Legacy.Range.size, Nat.sub_zero, Nat.add_sub_cancel, Nat.div_one]
  generalize List.range' 0 len = l
  induction l generalizing w with
  | nil => simp [ckElems]
  | cons i l ih =>
    simp only [List.forIn_cons, ckElems, Sem.run_bind, hn, Result.andThen_ok]
    generalize (part el us (i * n)).run P w = r1
    cases r1 with
    | ok a w1 =>
      simp only [Result.andThen_ok]
      generalize (Instr.checkKey e D el a).run P w1 = r2
      cases r2 with
      | ok b w2 => simp only [Result.andThen_ok, Sem.run_pure]; exact ih w2
      | halt x w2 => simp [Result.andThen]
    | halt x w1 => simp [Result.andThen]

theorem ckFields_run {d : Nat} (ih : CkRun P c w d) : ∀ (fs : List Field) (off : Nat) (ks : List LK), flatF P (flatK P d) fs off = some ks →
    ∀ (xs : List AV) (us : Array Value) (b : Bool), VRels c w xs (us.toList.drop off) → eqCells ks xs xs = some b → off + ks.length ≤ us.size →
    ∀ e D, d ≤ D → (ckFields D e us fs).run P w = .ok () w
  | [], off, ks, hk, xs, us, b, hx, hb, _, e, D, hD => by simp [ckFields]
  | f :: fs, off, ks, hk, xs, us, b, hx, hb, hu, e, D, hD => by
    simp only [flatF] at hk
    split at hk
    · cases hk
    · rename_i hn
      have hn1 : f.name ≠ "_" := fun e => hn (.inl e)
      have hn2 : f.offset = off := by false_or_by_contra; rename_i e; exact hn (.inr e)
      split at hk
      · rename_i k1 hk1
        split at hk
        · rename_i hc
          split at hk
          · rename_i r hr
            cases hk
            simp only [List.length_append] at hu
            obtain ⟨b1, b2, e1, e2, rfl⟩ := eqCells_split hb
            obtain ⟨u, hun⟩ := flatK_under hk1
            obtain ⟨i, hi⟩ := info_of_underlying hun
            have hsz : i.size = k1.length := by unfold Program.cellsOf at hc; simpa [hi] using hc
            have hlx := VRels_length hx
            simp at hlx
            have hp1 := run_part (P := P) (cs := us) (off := off) w hun hi hsz (flatK_one hk1) (by omega)
            have hx1 := VRels_take_drop (VRels_pre hx) 0 k1.length (by omega)
            simp only [List.drop_zero] at hx1
            have h1 := ih f.type k1 hk1 _ _ b1 hx1 e1 e D hD
            have hx2 : VRels c w (xs.drop k1.length) (us.toList.drop (off + k1.length)) := by
              have := VRels_take_drop (VRels_pre hx) k1.length (xs.length - k1.length) (by omega)
              rw [List.take_of_length_le (by simp), List.take_of_length_le (by simp; omega), List.drop_drop] at this
              exact this
            have h2 := ckFields_run ih fs (off + k1.length) r hr _ us b2 hx2 e2 (by omega) e D hD
            simp only [ckFields, ne_eq, hn1, not_false_eq_true, if_true, Sem.run_bind, hn2, hp1, Result.andThen_ok, h1, h2]
          · cases hk
        · cases hk
      · cases hk

theorem ckElems_run {d : Nat} (ih : CkRun P c w d) {el : TypeId} {ks : List LK} (hk : flatK P d el = some ks) (hc : P.cellsOf el = ks.length) : ∀ (m s : Nat) (xs : List AV) (us : Array Value) (b : Bool),
    VRels c w xs (us.toList.drop (s * ks.length)) → eqCells (List.replicate m ks).flatten xs xs = some b → (s + m) * ks.length ≤ us.size →
    ∀ e D, d ≤ D → (ckElems D e el ks.length us (List.range' s m)).run P w = .ok () w
  | 0, s, xs, us, b, hx, hb, _, e, D, hD => by simp [ckElems]
  | m + 1, s, xs, us, b, hx, hb, hu, e, D, hD => by
    rw [List.replicate_succ, List.flatten_cons] at hb
    obtain ⟨b1, b2, e1, e2, rfl⟩ := eqCells_split hb
    obtain ⟨u, hun⟩ := flatK_under hk
    obtain ⟨i, hi⟩ := info_of_underlying hun
    have hsz : i.size = ks.length := by unfold Program.cellsOf at hc; simpa [hi] using hc
    have hlx := VRels_length hx
    simp at hlx
    have a1 : (s + (m + 1)) * ks.length = s * ks.length + ks.length + m * ks.length := by
      rw [Nat.add_mul, Nat.succ_mul]; omega
    have a2 : (s + 1) * ks.length = s * ks.length + ks.length := Nat.succ_mul _ _
    have hp1 := run_part (P := P) (cs := us) (off := s * ks.length) w hun hi hsz (flatK_one hk) (by omega)
    have hx1 := VRels_take_drop (VRels_pre hx) 0 ks.length (by omega)
    simp only [List.drop_zero] at hx1
    have h1 := ih el ks hk _ _ b1 hx1 e1 e D hD
    have hx2 : VRels c w (xs.drop ks.length) (us.toList.drop ((s + 1) * ks.length)) := by
      have := VRels_take_drop (VRels_pre hx) ks.length (xs.length - ks.length) (by omega)
      rw [List.take_of_length_le (by simp), List.take_of_length_le (by simp; omega), List.drop_drop] at this
      rw [a2]; exact this
    have h2 := ckElems_run ih hk hc m (s + 1) _ us b2 hx2 e2 (by rw [show s + 1 + m = s + (m + 1) by omega]; exact hu) e D hD
    simp only [List.range'_succ, ckElems, Sem.run_bind, hp1, Result.andThen_ok, h1, h2]

theorem ckRun : ∀ d, CkRun P c w d
  | 0 => fun t ks hk => by simp [flatK] at hk
  | d + 1 => by
    intro t ks hk xs us b hx hb e D hD
    obtain ⟨D', rfl⟩ : ∃ D', D = D' + 1 := ⟨D - 1, by omega⟩
    have hlx := VRels_length hx
    obtain ⟨hl1, _⟩ := eqCells_length hb
    unfold flatK at hk
    split at hk
    · rename_i hu
      cases hk
      have hr : rowB P t = false := by simp [rowB, hu]
      simp [Instr.checkKey, run_underlying hu]
    · rename_i k hu
      cases hk
      simp [Instr.checkKey, run_underlying hu]
    · rename_i hu
      cases hk
      simp [Instr.checkKey, run_underlying hu]
    · rename_i fs hu
      split at hk
      · cases hk
      · have hr : rowB P t = true := by simp [rowB, hu]
        simp only [hr, asVal, if_true]
        rw [run_ck_struct D' e t _ fs w hu]
        exact ckFields_run (ckRun d) fs.toList 0 ks hk xs us.toArray b (by simpa using hx) hb (by simp; omega) e D' (by omega)
    · rename_i n el hu
      split at hk
      · rename_i ks' hk'
        split at hk
        · rename_i hc
          cases hk
          have hr : rowB P t = true := by simp [rowB, hu]
          obtain ⟨u, hun⟩ := flatK_under hk'
          obtain ⟨i, hi⟩ := info_of_underlying hun
          have hsz : i.size = ks'.length := by unfold Program.cellsOf at hc; simpa [hi] using hc
          simp only [hr, asVal, if_true]
          rw [run_ck_array D' e t el n ks'.length _ w hu (fun w => by rw [← hsz]; exact run_sizeOf hi w)]
          have hfl : (List.replicate n ks').flatten.length = n * ks'.length := by simp
          exact ckElems_run (ckRun d) hk' hc n 0 xs us.toArray b (by simpa using hx) hb (by simp; omega) e D' (by omega)
        · cases hk
      · cases hk
    · cases hk

/-! ### finding a key -/
def FoundRel (c : Ctx) (w : World) : Option (Nat × AV) → Option (Nat × Value) → Prop
  | none, none => True
  | some (a, x), some (a', x') => a = a' ∧ VRel c w x x'
  | _, _ => False

theorem keyEq_run {kt : TypeId} {row : Bool} {ks : List LK} (hk : flatK P 40 kt = some ks) (hr : rowB P kt = row) {k k' : AV} {ck ck' : Value} {b : Bool} (he : keyEq row ks k k' = some b) (h1 : VRel c w k ck) (h2 : VRel c w k' ck') :
    (Op.equal kt ck ck').run P w = .ok b w := by
  obtain ⟨xs, ys, us, vs, rfl, rfl, g1, g2, g3⟩ := keyEq_rel he h1 h2
  have := eqRun (P := P) (c := c) (w := w) 40 kt ks hk _ _ _ _ b g1 g2 g3 10000 (by omega)
  rw [hr] at this
  exact this

theorem findAsking_run {kt : TypeId} {row : Bool} {ks : List LK} (hk : flatK P 40 kt = some ks) (hr : rowB P kt = row) {k : AV} {ck : Value} (hkey : VRel c w k ck) :
    ∀ (es : List (AV × AV)) (ms : List MapEntry) (clock i : Nat) (r : Option (Nat × AV)), MRel c w es ms clock → aFind row ks k es i = some r →
    ∃ r', (Instr.findAsking kt ck ms i).run P w = .ok r' w ∧ FoundRel c w r r'
  | [], ms, clock, i, r, hm, hf => by
    simp only [MRel] at hm
    subst hm
    simp only [aFind, Option.some.injEq] at hf
    subst hf
    exact ⟨none, by simp [Instr.findAsking], trivial⟩
  | (k', x) :: es, ms, clock, i, r, hm, hf => by
    simp only [MRel] at hm
    obtain ⟨e, ms', rfl, h1, h2, h3, h4, h5⟩ := hm
    simp only [aFind] at hf
    split at hf
    · rename_i hb
      cases hf
      exact ⟨some (i, e.val), by simp [Instr.findAsking, keyEq_run hk hr hb hkey h1], rfl, h2⟩
    · rename_i hb
      obtain ⟨r', hr', hrel⟩ := findAsking_run hk hr hkey es ms' clock (i + 1) r h5 hf
      exact ⟨r', by simp [Instr.findAsking, keyEq_run hk hr hb hkey h1, hr'], hrel⟩
    · cases hf

theorem sameNow_of {d : TypeDesc} {x y : AV} {u v : Value} {k : LK} {b : Bool} (hd : (match k with | .b => d = .bool | .i => ∃ kk, d = .int kk | .s => d = .string)) (he : eqCell k x y = some b) (hu : VRel c w x u) (hv : VRel c w y v) :
    Instr.sameNow d u v = some b := by
  cases k <;> cases x <;> cases y <;> simp only [eqCell, reduceCtorEq, Option.some.injEq] at he <;> simp only [VRel] at hu hv <;> subst hu <;> subst hv <;> simp only at hd
  · subst hd; subst he; simp [Instr.sameNow, beq_dec]
  · obtain ⟨kk, rfl⟩ := hd
    split at he
    · rename_i e; subst e; simp only [Option.some.injEq] at he; subst he
      simp only [Instr.sameNow, if_true]
      rw [beq_dec]
    · cases he
  · subst hd; subst he; simp [Instr.sameNow, beq_toListBytes, beq_dec]

theorem findNow_run {d : TypeDesc} {lk : LK} (hd : (match lk with | .b => d = .bool | .i => ∃ kk, d = .int kk | .s => d = .string)) {k : AV} {ck : Value} (hkey : VRel c w k ck) :
    ∀ (es : List (AV × AV)) (ms : List MapEntry) (clock i : Nat) (r : Option (Nat × AV)), MRel c w es ms clock → aFind false [lk] k es i = some r →
    ∃ r', Instr.findNow d ck ms i = some r' ∧ FoundRel c w r r'
  | [], ms, clock, i, r, hm, hf => by
    simp only [MRel] at hm
    subst hm
    simp only [aFind, Option.some.injEq] at hf
    subst hf
    exact ⟨none, by simp [Instr.findNow], trivial⟩
  | (k', x) :: es, ms, clock, i, r, hm, hf => by
    simp only [MRel] at hm
    obtain ⟨e, ms', rfl, h1, h2, h3, h4, h5⟩ := hm
    simp only [aFind, keyEq] at hf
    have one : ∀ b, eqCells [lk] [k] [k'] = some b → eqCell lk k k' = some b := by
      intro b hb
      simp only [eqCells] at hb
      split at hb
      · rename_i a b' e1 e2; cases e2; cases hb; simpa using e1
      · cases hb
    split at hf
    · rename_i hb
      cases hf
      exact ⟨some (i, e.val), by simp [Instr.findNow, sameNow_of hd (one _ hb) hkey h1], rfl, h2⟩
    · rename_i hb
      obtain ⟨r', hr', hrel⟩ := findNow_run hd hkey es ms' clock (i + 1) r h5 hf
      exact ⟨r', by simp [Instr.findNow, sameNow_of hd (one _ hb) hkey h1, hr'], hrel⟩
    · cases hf

/-- The types of a map: its key's kinds of cells. -/
structure MapT (P : Program) (t : TypeId) (row : Bool) (ks : List LK) (kt et : TypeId) : Prop where
  hu : P.underlying t = some (.map kt et)
  hk : flatK P 40 kt = some ks
  hr : rowB P kt = row

theorem findKey_run {t kt et : TypeId} {row : Bool} {ks : List LK} (T : MapT P t row ks kt et) {k : AV} {ck : Value} (hkey : VRel c w k ck) {es : List (AV × AV)} {ms : List MapEntry} {clock : Nat} {r : Option (Nat × AV)} (hm : MRel c w es ms clock)
    (hf : aFind row ks k es 0 = some r) : ∃ r', (Instr.findKey kt ck ms).run P w = .ok r' w ∧ FoundRel c w r r' := by
  obtain ⟨u, hu⟩ := flatK_under T.hk
  have hdef : (Instr.findKey kt ck ms).run P w = (match Instr.findNow u ck ms 0 with | some r => .ok r w | none => (Instr.findAsking kt ck ms).run P w) := by
    simp only [Instr.findKey, Sem.run_bind, run_underlying hu, Result.andThen_ok]
    cases Instr.findNow u ck ms 0 <;> rfl
  rw [hdef]
  cases row with
  | true =>
    have hn : Instr.findNow u ck ms 0 = none ∨ (ms = [] ∧ Instr.findNow u ck ms 0 = some none) := by
      cases ms with
      | nil => exact .inr ⟨rfl, rfl⟩
      | cons e ms =>
        left
        have hr := T.hr
        unfold rowB at hr
        rw [hu] at hr
        cases u <;> simp at hr <;> simp [Instr.findNow, Instr.sameNow]
    rcases hn with hn | ⟨rfl, hn⟩
    · rw [hn]; exact findAsking_run T.hk T.hr hkey es ms clock 0 r hm hf
    · rw [hn]
      have : es = [] := by
        cases es with
        | nil => rfl
        | cons a es => obtain ⟨a1, a2⟩ := a; simp [MRel] at hm
      subst this
      simp only [aFind, Option.some.injEq] at hf
      subst hf
      exact ⟨none, rfl, trivial⟩
  | false =>
    have hlk : ∃ lk, ks = [lk] ∧ (match lk with | .b => u = .bool | .i => ∃ kk, u = .int kk | .s => u = .string) := by
      have hk := T.hk
      have hr := T.hr
      unfold rowB at hr
      rw [hu] at hr
      unfold flatK at hk
      rw [hu] at hk
      cases u <;> simp at hr hk
      · exact ⟨.b, hk.symm, rfl⟩
      · exact ⟨.i, hk.symm, _, rfl⟩
      · exact ⟨.s, hk.symm, rfl⟩
    obtain ⟨lk, rfl, hd⟩ := hlk
    obtain ⟨r', h1, h2⟩ := findNow_run hd hkey es ms clock 0 r hm hf
    rw [h1]
    exact ⟨r', rfl, h2⟩

theorem checkKey_run {t kt et : TypeId} {row : Bool} {ks : List LK} (T : MapT P t row ks kt et) {k : AV} {ck : Value} (hkey : VRel c w k ck) (hok : keyOK row ks k = true) (e : Bool) : (Instr.checkKey e 10000 kt ck).run P w = .ok () w := by
  unfold keyOK at hok
  split at hok
  · rename_i b hb
    obtain ⟨xs, ys, us, vs, h1, h2, g1, g2, g3⟩ := keyEq_rel hb hkey hkey
    obtain ⟨⟨b', hb'⟩, _⟩ := eqCells_left g3
    have := ckRun (P := P) (c := c) (w := w) 40 kt ks T.hk xs us b' g1 hb' e 10000 (by omega)
    rw [T.hr, ← h1] at this
    exact this
  · cases hok

theorem run_entries {α : Type} {b g : Nat} {k : List (AV × AV) → HM α} {r : α × Heap} (hm : (HM.entries b g k).run h = some r) :
    ∃ es, h.get b = some (.map g es) ∧ (k es).run h = some r := by
  simp only [HM.entries, HM.run] at hm
  split at hm
  · rename_i g' es hb
    cases e : Nat.beq g' g with
    | false => rw [e] at hm; simp [HM.run] at hm
    | true =>
      rw [e] at hm
      have : g' = g := by simpa using e
      subst this
      exact ⟨es, hb, hm⟩
  · simp [HM.run] at hm

theorem HRel.atMap (H : HRel c h w) {b g : Nat} {es : List (AV × AV)} (hb : h.get b = some (.map g es)) {cb base : Nat} (hp : c.ρ b g = some (.loc cb base)) :
    ∃ ms clock, c.O cb ∧ w.heap[cb]? = some (.map ms clock) ∧ MRel c w es ms.toList clock ∧ clock = es.length := by
  obtain ⟨cb', es', clock, h1, h2, h3, h4⟩ := H.blk b _ hb
  rw [hp] at h1; cases h1
  exact ⟨es', clock, h2, h3, h4⟩

theorem run_getMap {cb : Nat} {ms : Array MapEntry} {clock : Nat} (hh : w.heap[cb]? = some (.map ms clock)) : (getObj cb).run P w = .ok (.map ms clock) w := by
  simp [getObj, Sem.run, hh]

theorem lookup_sound {t kt et : TypeId} {row : Bool} {ks : List LK} {zero x k v : AV} {ok : Bool} {cx ck zv : Value} {ti : TypeInfo} {h' : Heap} (H : HRel c h w) (T : MapT P t row ks kt et) (hx : VRel c w x cx) (hkey : VRel c w k ck)
    (hi : P.info? et = some ti) (hz : ti.zero = some zv) (hc : cOK zero zv = true) (hm : (aLookup row ks zero ok x k).run h = some (v, h')) : Sound P c w (Instr.lookup t cx ck ok) v h' := by
  unfold aLookup at hm
  split at hm
  · rename_i hok
    have hck := fun e => checkKey_run (P := P) T hkey hok e
    have hzr : VRel c w zero zv := cOK_rel _ _ hc
    cases x <;> simp only at hm <;> try (cases hm; done)
    case nilmap =>
      simp only [HM.run, Option.some.injEq, Prod.mk.injEq] at hm
      obtain ⟨rfl, rfl⟩ := hm
      simp only [VRel] at hx
      subst hx
      obtain ⟨r', h1, h2⟩ := findKey_run (P := P) (w := w) T hkey (es := []) (ms := []) (clock := 0) (r := none) (by simp [MRel]) rfl
      have : r' = none := by cases r' <;> simp [FoundRel] at h2 ⊢
      subst this
      refine .here H (cv := if ok then .tuple #[zv, .bool false] else zv) ?_ ?_
      · simp [Instr.lookup, run_underlying T.hu, hck, h1, zeroValue, typeInfo, hi, hz]
      · cases ok
        · simpa using hzr
        · simp [VRel, VRels, hzr]
    case map b g =>
      obtain ⟨es, hb, hm⟩ := run_entries hm
      simp only [VRel] at hx
      obtain ⟨cb, hp, rfl⟩ := hx
      obtain ⟨ms, clock, hO, hC, hR, hcl⟩ := H.atMap hb hp
      split at hm
      · rename_i i x hf
        simp only [HM.run, Option.some.injEq, Prod.mk.injEq] at hm
        obtain ⟨rfl, rfl⟩ := hm
        obtain ⟨r', h1, h2⟩ := findKey_run (P := P) (w := w) T hkey hR hf
        cases r' with
        | none => simp [FoundRel] at h2
        | some r' =>
          obtain ⟨i', xv⟩ := r'
          simp only [FoundRel] at h2
          refine .here H (cv := if ok then .tuple #[xv, .bool true] else xv) ?_ ?_
          · simp [Instr.lookup, run_underlying T.hu, run_getMap hC, hck, h1]
          · cases ok
            · simpa using h2.2
            · simp [VRel, VRels, h2.2]
      · rename_i hf
        simp only [HM.run, Option.some.injEq, Prod.mk.injEq] at hm
        obtain ⟨rfl, rfl⟩ := hm
        obtain ⟨r', h1, h2⟩ := findKey_run (P := P) (w := w) T hkey hR hf
        have : r' = none := by cases r' <;> simp [FoundRel] at h2 ⊢
        subst this
        refine .here H (cv := if ok then .tuple #[zv, .bool false] else zv) ?_ ?_
        · simp [Instr.lookup, run_underlying T.hu, run_getMap hC, hck, h1, zeroValue, typeInfo, hi, hz]
        · cases ok
          · simpa using hzr
          · simp [VRel, VRels, hzr]
      · simp [HM.run] at hm
  · simp [HM.run] at hm

theorem MRel_get : ∀ {es : List (AV × AV)} {ms : List MapEntry} {clock : Nat} (i : Nat) {p : AV × AV}, MRel c w es ms clock → es[i]? = some p → ∃ e, ms[i]? = some e ∧ VRel c w p.1 e.key ∧ VRel c w p.2 e.val
  | [], ms, clock, i, p, _, hi => by simp at hi
  | (k, x) :: es, ms, clock, i, p, hm, hi => by
    simp only [MRel] at hm
    obtain ⟨e, ms', rfl, h1, h2, h3, h4, h5⟩ := hm
    cases i with
    | zero => simp at hi; subst hi; exact ⟨e, by simp, h1, h2⟩
    | succ i => simp at hi; simpa using MRel_get i h5 hi

theorem aFind_at {row : Bool} {ks : List LK} {k : AV} : ∀ {es : List (AV × AV)} {i j : Nat} {v : AV}, aFind row ks k es i = some (some (j, v)) → i ≤ j ∧ ∃ k', es[j - i]? = some (k', v) ∧ keyEq row ks k k' = some true
  | [], i, j, v, hf => by simp [aFind] at hf
  | (k', x) :: es, i, j, v, hf => by
    simp only [aFind] at hf
    split at hf
    · rename_i hb; cases hf; exact ⟨Nat.le_refl _, k', by simp, hb⟩
    · obtain ⟨h1, k2, h2, h3⟩ := aFind_at hf
      refine ⟨by omega, k2, ?_, h3⟩
      rw [show j - i = (j - (i + 1)) + 1 by omega]
      simpa using h2
    · cases hf

/-- Equal keys stand for one value, which has the same bits as itself. -/
theorem keyEq_same {row : Bool} {ks : List LK} {k k' : AV} {ck ck' : Value} (hk : keyEq row ks k k' = some true) (h1 : VRel c w k ck) (h2 : VRel c w k' ck') (hrow : row = true ∨ ∃ lk, ks = [lk]) :
    ck = ck' ∧ Instr.sameBits 10000 ck ck = true := by
  obtain ⟨xs, ys, us, vs, rfl, rfl, g1, g2, g3⟩ := keyEq_rel hk h1 h2
  obtain ⟨rfl, hall⟩ := eqCells_same g3 g1 g2
  refine ⟨rfl, ?_⟩
  have hs : ∀ n u, ((∃ k n, u = .int k n) ∨ (∃ b, u = .bool b) ∨ ∃ s, u = .string s) → Instr.sameBits n u u = true := by
    intro n u hu
    rcases hu with ⟨k, m, rfl⟩ | ⟨b, rfl⟩ | ⟨s, rfl⟩
    · simp [Instr.sameBits]
    · simp [Instr.sameBits]
    · simp only [Instr.sameBits]; rw [beq_toListBytes]; simp
  cases row with
  | true =>
    simp only [asVal, if_true]
    show Instr.sameBits (9999 + 1) _ _ = true
    simp only [Instr.sameBits, Bool.and_eq_true, beq_self_eq_true, true_and, List.all_eq_true]
    intro p hp
    obtain ⟨i, hi, rfl⟩ := List.mem_iff_getElem.1 hp
    simp at hi
    simp only [List.getElem_zip]
    exact hs _ _ (hall _ (by simp))
  | false =>
    rcases hrow with h | ⟨lk, rfl⟩
    · cases h
    · have hl := (eqCells_length g3).1
      have hu := VRels_length g1
      match us, hall, hu with
      | [u], hall, _ => simp only [asVal, Bool.false_eq_true, if_false, List.headD_cons]; exact hs _ _ (hall u (by simp))
      | [], _, hu => simp only [List.length_cons, List.length_nil] at hu hl; omega
      | _ :: _ :: _, _, hu => simp only [List.length_cons, List.length_nil] at hu hl; omega

theorem MRel_set {k v : AV} {ck cv : Value} (hk : VRel c w k ck) (hv : VRel c w v cv) : ∀ {es : List (AV × AV)} {ms : List MapEntry} {clock : Nat} (i : Nat), MRel c w es ms clock →
    MRel c w (es.set i (k, v)) (ms.modify i fun e => { e with key := ck, val := cv }) clock
  | [], ms, clock, i, hm => by
    simp only [MRel] at hm
    subst hm
    cases i <;> simp [MRel]
  | (k', x) :: es, ms, clock, i, hm => by
    simp only [MRel] at hm
    obtain ⟨e, ms', rfl, h1, h2, h3, h4, h5⟩ := hm
    cases i with
    | zero =>
      simp only [List.set_cons_zero, List.modify_zero_cons, MRel]
      exact ⟨_, _, rfl, hk, hv, h3, h4, h5⟩
    | succ i =>
      simp only [List.set_cons_succ, List.modify_succ_cons, MRel]
      exact ⟨_, _, rfl, h1, h2, h3, by simpa using h4, MRel_set hk hv i h5⟩

theorem MRel_snoc {k v : AV} {ck cv : Value} (hk : VRel c w k ck) (hv : VRel c w v cv) : ∀ {es : List (AV × AV)} {ms : List MapEntry} {clock : Nat}, MRel c w es ms clock →
    MRel c w (es ++ [(k, v)]) (ms ++ [{ key := ck, val := cv, born := clock }]) (clock + 1)
  | [], ms, clock, hm => by
    simp only [MRel] at hm
    subst hm
    simp only [List.nil_append, MRel]
    exact ⟨_, _, rfl, hk, hv, by simp, by simp, rfl⟩
  | (k', x) :: es, ms, clock, hm => by
    simp only [MRel] at hm
    obtain ⟨e, ms', rfl, h1, h2, h3, h4, h5⟩ := hm
    simp only [List.cons_append, MRel]
    exact ⟨_, _, rfl, h1, h2, by omega, by simp; omega, MRel_snoc hk hv h5⟩

/-- A live map gets other entries. -/
theorem HRel.setMap (H : HRel c h w) {b g : Nat} {es es' : List (AV × AV)} (hlim : b < lim) (hb : h.get b = some (.map g es)) {cb : Nat} (hp : c.ρ b g = some (.loc cb 0)) {ms' : Array MapEntry} {clock' : Nat}
    (hm : ∀ c' w', Evo c w c' w' → MRelT c' w' es' ms'.toList clock') :
    ∃ c', Evo c w c' (upd w cb (.map ms' clock')) ∧ HRel c' (h.set b (.map g es')) (upd w cb (.map ms' clock')) := by
  obtain ⟨ms, clock, hO, hC, hR, hcl⟩ := H.atMap hb hp
  have hlt := lt_of_heap hC
  have := H.put (b := b) (cb := cb) (base := 0) (x := .map g es') (w' := upd w cb (.map ms' clock')) hlim
    (fun y hy => H.later b _ hb y hy) (.inr hp) (.inr ⟨g, 0, ⟨_, hb, rfl, fun k => by simp⟩, hp⟩) rfl rfl rfl (by simp [upd]) (by simpa [upd] using hlt)
    (fun k _ hne => upd_other hne)
    (fun C2 e2 fr2 h2 => by rw [hC] at h2; cases h2)
    (fun E => ⟨cb, ms', clock', ctx_with_same, .inr rfl, upd_get hlt, hm _ _ E⟩)
  exact ⟨_, this.1, this.2⟩

theorem run_setMap {cb : Nat} {ms ms' : Array MapEntry} {clock clock' : Nat} (hh : w.heap[cb]? = some (.map ms clock)) : (setObj cb (.map ms' clock')).run P w = .ok () (upd w cb (.map ms' clock')) := by
  simp [setObj, Sem.run, hh, upd]

theorem mapUpd_sound {t kt et : TypeId} {row : Bool} {ks : List LK} {x k v r : AV} {cx ck cv : Value} {h' : Heap} (H : HRel c h w) (T : MapT P t row ks kt et) (hx : VRel c w x cx) (hkey : VRel c w k ck) (hv : VRel c w v cv)
    (hm : (aMapUpd row ks x k v).run h = some (r, h')) : SoundU P c w (Instr.mapUpdate t cx ck cv) h' := by
  unfold aMapUpd at hm
  split at hm
  · rename_i hok
    have hck := fun e => checkKey_run (P := P) T hkey hok e
    cases x <;> simp only at hm <;> try (cases hm; done)
    case map b g =>
      obtain ⟨es, hb, hm⟩ := run_entries hm
      simp only [VRel] at hx
      obtain ⟨cb, hp, rfl⟩ := hx
      obtain ⟨ms, clock, hO, hC, hR, hcl⟩ := H.atMap hb hp
      split at hm
      · rename_i i xo hf
        obtain ⟨hlim, hm⟩ := run_put hm
        simp only [HM.run, Option.some.injEq, Prod.mk.injEq] at hm
        obtain ⟨_, rfl⟩ := hm
        obtain ⟨r', h1, h2⟩ := findKey_run (P := P) (w := w) T hkey hR hf
        cases r' with
        | none => simp [FoundRel] at h2
        | some r' =>
          obtain ⟨i', xv⟩ := r'
          simp only [FoundRel] at h2
          obtain ⟨rfl, _⟩ := h2
          obtain ⟨_, k', hk1, hk2⟩ := aFind_at hf
          simp only [Nat.sub_zero] at hk1
          obtain ⟨e, he, hke, _⟩ := MRel_get i hR hk1
          have hrow : row = true ∨ ∃ lk, ks = [lk] := by
            cases hrw : row with
            | true => exact .inl rfl
            | false =>
              have hkk := T.hk
              have hr := T.hr
              rw [hrw] at hr
              have hl := flatK_one hkk hr
              match ks, hl with
              | [lk], _ => exact .inr ⟨lk, rfl⟩
          obtain ⟨hsame, hbits⟩ := keyEq_same hk2 hkey hke hrow
          have hkeep : (Instr.keyThatStays e.key ck).run P w = .ok ck w := by
            rw [← hsame]
            simp [Instr.keyThatStays, hbits]
          rw [Array.getElem?_toList] at he
          obtain ⟨c', E, H'⟩ := H.setMap hlim hb hp (es' := es.set i (k, v)) (ms' := ms.modify i fun e => { e with key := ck, val := cv }) (clock' := clock)
            (fun c' w' E => by
              have := MRel_set (VRel.mono (E.ext H.disj) _ _ hkey) (VRel.mono (E.ext H.disj) _ _ hv) i (MRel.mono (E.ext H.disj) _ _ _ hR)
              exact ⟨by simpa using this, by simpa using hcl⟩)
          refine ⟨c', _, ?_, E, H'⟩
          simp [Instr.mapUpdate, run_underlying T.hu, run_getMap hC, hck, h1, he, hkeep, run_setMap hC]
      · rename_i hf
        obtain ⟨hlim, hm⟩ := run_put hm
        simp only [HM.run, Option.some.injEq, Prod.mk.injEq] at hm
        obtain ⟨_, rfl⟩ := hm
        obtain ⟨r', h1, h2⟩ := findKey_run (P := P) (w := w) T hkey hR hf
        have : r' = none := by cases r' <;> simp [FoundRel] at h2 ⊢
        subst this
        obtain ⟨c', E, H'⟩ := H.setMap hlim hb hp (es' := es ++ [(k, v)]) (ms' := ms.push { key := ck, val := cv, born := clock }) (clock' := clock + 1)
          (fun c' w' E => by
            have := MRel_snoc (VRel.mono (E.ext H.disj) _ _ hkey) (VRel.mono (E.ext H.disj) _ _ hv) (MRel.mono (E.ext H.disj) _ _ _ hR)
            exact ⟨by simpa using this, by simpa using hcl⟩)
        refine ⟨c', _, ?_, E, H'⟩
        simp [Instr.mapUpdate, run_underlying T.hu, run_getMap hC, hck, h1, run_setMap hC]
      · simp [HM.run] at hm
  · simp [HM.run] at hm

theorem makeMap_sound {t : TypeId} {s : Site} {i : Nat} {v : AV} {h' : Heap} {reserve : Option Value} (hres : ∀ r, reserve = some r → (∃ k n, r = .int k n) ∧ ∃ kt et, P.underlying t = some (.map kt et)) (H : HRel c h w) (hm : (aMakeMap s i).run h = some (v, h')) :
    Sound P c w (Instr.makeMap t reserve) v h' := by
  unfold aMakeMap at hm
  obtain ⟨b, g, hlim, hg, hm⟩ := run_new hm
  simp only [HM.run, Option.some.injEq, Prod.mk.injEq] at hm
  obtain ⟨rfl, rfl⟩ := hm
  have hnone : ∀ y, g ≤ y → c.ρ b y = none := by
    intro y hy
    rcases hg with ⟨h1, h2⟩ | ⟨z, h1, h2⟩
    · exact H.fresh b h1 y
    · exact H.later b z h1 y (by omega)
  have hat : (w.alloc (.map #[] 0)).heap[w.heap.size]? = some (.map #[] 0) := by show (w.heap.push _)[w.heap.size]? = _; simp
  have := H.put (b := b) (cb := w.heap.size) (base := 0) (x := .map g []) (w' := w.alloc (.map #[] 0)) hlim
    (fun y hy => hnone y (Nat.le_of_lt hy)) (.inl (hnone g (Nat.le_refl _))) (.inl rfl) rfl rfl rfl (by simp) (by simp)
    (fun k hk _ => Go.RowKit.Below.heap_alloc w _ k hk)
    (fun C2 e2 fr2 h2 => by have := lt_of_heap h2; omega)
    (fun E => ⟨w.heap.size, #[], 0, ctx_with_same, .inr rfl, hat, by simp [MRel], rfl⟩)
  refine ⟨.map (some w.heap.size), _, _, ?_, this.1, this.2, ?_⟩
  · cases reserve with
    | none => simp [Instr.makeMap]
    | some r =>
      obtain ⟨⟨k, n, rfl⟩, kt, et, hu⟩ := hres r rfl
      simp [Instr.makeMap, run_underlying hu, asInt, asIntOf]
  · simp only [VRel]
    exact ⟨_, ctx_with_same, rfl⟩

end Go.AM
