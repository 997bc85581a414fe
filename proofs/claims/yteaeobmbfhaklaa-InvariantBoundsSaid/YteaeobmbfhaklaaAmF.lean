/- The abstract machine, part F: slices of slices, fields, elements, lengths, conversions. -/
import Derived.Test.YteaeobmbfhaklaaAmE
set_option linter.unusedSimpArgs false
set_option linter.unusedVariables false
namespace Go.AM
variable {P : Program} {c : Ctx} {w : World} {h : Heap}

/-- An optional operand. -/
def ORel (c : Ctx) (w : World) : Option AV → Option Value → Prop
  | none, none => True
  | some x, some v => VRel c w x v
  | _, _ => False

theorem run_bound {k : IntKind} {i : Int} {y : Nat} {code : BoundsCode} (h0 : 0 ≤ i) (h1 : i ≤ y) : (Instr.sliceBound (.int k i) y code).run P w = .ok i.toNat w := by
  simp [Instr.sliceBound, asIntOf, h0, h1]

theorem bound_cases {l : Option AV} {cl : Option Value} {lw : Int} (hl : ORel c w l cl) (d : Int) (el : bnd d l = some lw) :
    cl = none ∧ lw = d ∨ ∃ k, cl = some (.int k lw) := by
  cases l with
  | none =>
    cases cl with
    | none => cases el; exact .inl ⟨rfl, rfl⟩
    | some v => simp [ORel] at hl
  | some x =>
    cases x <;> simp only [bnd, reduceCtorEq, Option.some.injEq] at el
    cases cl with
    | none => simp [ORel] at hl
    | some v => simp only [ORel, VRel] at hl; subst el; exact .inr ⟨_, by rw [hl]⟩

theorem run_bounds {isSlice : Bool} {len cap : Nat} {l h : Option AV} {cl ch : Option Value} {lw hh : Int} (hl : ORel c w l cl) (hh' : ORel c w h ch)
    (el : bnd 0 l = some lw) (eh : bnd len h = some hh)
    (h0 : 0 ≤ lw) (h1 : lw ≤ hh) (h2 : hh ≤ cap) : (Instr.sliceBounds isSlice len cap cl ch none).run P w = .ok (lw.toNat, hh.toNat, cap) w := by
  have hcl := bound_cases hl 0 el
  have hch := bound_cases hh' len eh
  rcases hcl with ⟨rfl, rfl⟩ | ⟨k1, rfl⟩ <;> rcases hch with ⟨rfl, rfl⟩ | ⟨k2, rfl⟩
  · simp [Instr.sliceBounds]
  · simp [Instr.sliceBounds, run_bound (P := P) (w := w) (by omega : 0 ≤ hh) h2]
  · have := run_bound (P := P) (w := w) (k := k1) (code := .sliceB) h0 (by omega : lw ≤ ((len : Nat) : Int))
    simp [Instr.sliceBounds, this]
  · have e1 : ((hh.toNat : Nat) : Int) = hh := by omega
    have := run_bound (P := P) (w := w) (k := k1) (y := hh.toNat) (code := .sliceB) h0 (by omega)
    simp [Instr.sliceBounds, run_bound (P := P) (w := w) (by omega : 0 ≤ hh) h2, this]

/-- The type of what is sliced: a slice with elements of so many cells, or a string. -/
def sliceT (P : Program) (t : TypeId) (sz : Option Nat) : Bool :=
  match P.underlying t, sz with
  | some (.slice e), some n => (match P.info? e with | some i => i.size == n | none => false)
  | some .string, none => true
  | _, _ => false

theorem VPre_same {xs : List AV} {vs us : List Value} (hh : VPre c w xs vs) (e : vs = us) : VPre c w xs us := e ▸ hh

theorem slice_sound {t : TypeId} {sz : Option Nat} {x v : AV} {l hi mx : Option AV} {cx : Value} {cl ch cm : Option Value} (hx : VRel c w x cx) (hl : ORel c w l cl) (hh : ORel c w hi ch) (hmx : ORel c w mx cm)
    (ht : sliceT P t sz = true) (hsz : ∀ b g off len s, x = .sl b g off len s → sz = some s) (hsz2 : ∀ cs len s, x = .fsl cs len s → sz = some s) (hst : (∃ s, x = .str s) → sz = none) (hns : (∃ s, x = .str s) ∨ sz ≠ none)
    (hm : aSlice x l hi mx = some v) : Pure P c w (Instr.sliceAt t cx cl ch cm) v := by
  unfold aSlice at hm
  simp only at hm
  split at hm
  · cases hm
  · rename_i lw el
    -- the type
    have hslice : sz ≠ none → ∃ e i n, P.underlying t = some (.slice e) ∧ P.info? e = some i ∧ sz = some n ∧ i.size = n := by
      intro hne
      unfold sliceT at ht
      split at ht
      · rename_i e n hu
        split at ht
        · rename_i i hi
          exact ⟨e, i, n, hu, hi, rfl, by simpa using ht⟩
        · cases ht
      · exact absurd rfl hne
      · cases ht
    cases mx with
    | some m =>
      cases m <;> simp only [reduceCtorEq] at hm
      rename_i km mm
      cases cm with
      | none => simp [ORel] at hmx
      | some cmv =>
        simp only [ORel, VRel] at hmx
        subst hmx
        cases hi with
        | none => simp at hm
        | some hv =>
          cases hv <;> simp only [reduceCtorEq] at hm
          rename_i kh hhv
          cases ch with
          | none => simp [ORel] at hh
          | some chv =>
            simp only [ORel, VRel] at hh
            subst hh
            split at hm
            · rename_i hcond
              obtain ⟨rfl, rfl, rfl⟩ := hcond
              have hbs : ∀ len cap, (Instr.sliceBounds true len cap cl (some (.int kh 0)) (some (.int km 0))).run P w = .ok (0, 0, 0) w := by
                intro len cap
                have b1 := run_bound (P := P) (w := w) (k := km) (i := 0) (y := cap) (code := .slice3Acap) (by omega) (by omega)
                have b2 := run_bound (P := P) (w := w) (k := kh) (i := 0) (y := 0) (code := .slice3B) (by omega) (by omega)
                rcases bound_cases hl 0 el with ⟨rfl, _⟩ | ⟨k1, rfl⟩
                · simp [Instr.sliceBounds, b1, b2]
                · have b3 := run_bound (P := P) (w := w) (k := k1) (i := 0) (y := 0) (code := .slice3C) (by omega) (by omega)
                  simp [Instr.sliceBounds, b1, b2, b3]
              cases x <;> simp only [reduceCtorEq, Option.some.injEq] at hm
              all_goals
                subst hm
                obtain ⟨e, i, n, hu, hi', hn, hin⟩ := hslice (hns.resolve_left (by simp))
                simp only [VRel] at hx
              · subst hx
                exact ⟨.slice none 0 0, by simp [Instr.sliceAt, Instr.slice, run_underlying hu, hbs, run_sizeOf hi'], by simp [VRel]⟩
              · rcases hx with ⟨hp, rfl, rfl, rfl⟩ | ⟨cb, base, o, cap, C, e', fr, hp, rfl, hlc, hC, hcap⟩
                · exact ⟨.slice none 0 0, by simp [Instr.sliceAt, Instr.slice, run_underlying hu, hbs, run_sizeOf hi'], by simp [VRel]⟩
                · exact ⟨.slice (some ⟨cb, o, none⟩) 0 0, by simp [Instr.sliceAt, Instr.slice, run_underlying hu, hbs, run_sizeOf hi'], by simp [VRel]⟩
              · rcases hx with ⟨⟨a0, rfl⟩, rfl, rfl⟩ | ⟨cb, off, cap, C, e', fr, rfl, hlc, hlen, hF, hC, hpre⟩
                · exact ⟨.slice a0 0 0, by simp [Instr.sliceAt, Instr.slice, run_underlying hu, hbs, run_sizeOf hi'], by simp [VRel]⟩
                · exact ⟨.slice (some ⟨cb, off, none⟩) 0 0, by simp [Instr.sliceAt, Instr.slice, run_underlying hu, hbs, run_sizeOf hi'], by simp [VRel]⟩
              · obtain ⟨a, rfl⟩ := hx
                exact ⟨.slice a 0 0, by simp [Instr.sliceAt, Instr.slice, run_underlying hu, hbs, run_sizeOf hi'], by simp [VRel]⟩
            · cases hm
    | none =>
      have hcm : cm = none := by cases cm; rfl; simp [ORel] at hmx
      subst hcm
      simp only at hm
      cases x <;> simp only at hm <;> try (cases hm; done)
      case sl b g off len s =>
        obtain ⟨e, i, n, hu, hi', hn, hin⟩ := hslice (by rw [hsz _ _ _ _ _ rfl]; simp)
        have := hsz _ _ _ _ _ rfl
        rw [hn] at this; cases this
        subst hin
        split at hm
        · cases hm
        · rename_i hhv eh
          split at hm
          · rename_i hcond
            obtain ⟨h0, h1, h2, _⟩ := hcond
            cases hm
            simp only [VRel] at hx
            rcases hx with ⟨hp, rfl, rfl, rfl⟩ | ⟨cb, base, o, cap, C, e', fr, hp, rfl, hlc, hC, hcap⟩
            · have hb := run_bounds (P := P) (w := w) (isSlice := true) (cap := 0) hl hh el eh h0 h1 (by omega)
              have e1 : lw = 0 := by omega
              have e2 : hhv = 0 := by omega
              subst e1; subst e2
              refine ⟨.slice none 0 0, ?_, by simp only [VRel]; exact .inl ⟨hp, by simp⟩⟩
              simp [Instr.sliceAt, Instr.slice, run_underlying hu, hb, run_sizeOf hi']
            · have hb := run_bounds (P := P) (w := w) (isSlice := true) (cap := cap) hl hh el eh h0 h1 (by omega)
              refine ⟨.slice (if cap = lw.toNat then some ⟨cb, o, none⟩ else some (Addr.add ⟨cb, o, none⟩ (lw.toNat * i.size))) (hhv.toNat - lw.toNat) (cap - lw.toNat), ?_, ?_⟩
              · simp [Instr.sliceAt, Instr.slice, run_underlying hu, hb, run_sizeOf hi']
              · simp only [VRel]
                refine .inr ?_
                by_cases hc : cap = lw.toNat
                · rw [if_pos hc]
                  exact ⟨cb, base, o, cap - lw.toNat, C, e', fr, hp, rfl, by omega, hC, .inl (by omega)⟩
                · rw [if_neg hc, add_at]
                  have hc0 : cap ≠ 0 := by omega
                  obtain ⟨rfl, hbd⟩ := hcap.resolve_left hc0
                  refine ⟨cb, base, _, cap - lw.toNat, C, e', fr, hp, rfl, by omega, hC, .inr ⟨by omega, ?_⟩⟩
                  have : cap * i.size = lw.toNat * i.size + (cap - lw.toNat) * i.size := by
                    rw [← Nat.add_mul]; congr 1; omega
                  omega
          · cases hm
      case fsl cs len s =>
        obtain ⟨e, i, n, hu, hi', hn, hin⟩ := hslice (by rw [hsz2 _ _ _ rfl]; simp)
        have := hsz2 _ _ _ rfl
        rw [hn] at this; cases this
        subst hin
        split at hm
        · cases hm
        · rename_i hhv eh
          split at hm
          · rename_i hcond
            obtain ⟨h0, h1, h2⟩ := hcond
            cases hm
            simp only [VRel] at hx
            rcases hx with ⟨⟨a0, rfl⟩, rfl, rfl⟩ | ⟨cb, off, cap, C, e', fr, rfl, hlc, hlen, hF, hC, hpre⟩
            · have hb := run_bounds (P := P) (w := w) (isSlice := true) (cap := 0) hl hh el eh h0 h1 (by omega)
              have e1 : lw = 0 := by omega
              have e2 : hhv = 0 := by omega
              subst e1; subst e2
              refine ⟨.slice a0 0 0, ?_, by simp only [VRel]; exact .inl (by simp)⟩
              simp [Instr.sliceAt, Instr.slice, run_underlying hu, hb, run_sizeOf hi']
            · have hb := run_bounds (P := P) (w := w) (isSlice := true) (cap := cap) hl hh el eh h0 h1 (by omega)
              have a1 : lw.toNat * i.size + (hhv.toNat - lw.toNat) * i.size = hhv.toNat * i.size := by rw [← Nat.add_mul]; congr 1; omega
              have a2 : hhv.toNat * i.size ≤ len * i.size := Nat.mul_le_mul_right _ (by omega)
              refine ⟨.slice (if cap = lw.toNat then some ⟨cb, off, none⟩ else some (Addr.add ⟨cb, off, none⟩ (lw.toNat * i.size))) (hhv.toNat - lw.toNat) (cap - lw.toNat), ?_, ?_⟩
              · simp [Instr.sliceAt, Instr.slice, run_underlying hu, hb, run_sizeOf hi']
              · simp only [VRel]
                refine .inr ?_
                by_cases hc : cap = lw.toNat
                · rw [if_pos hc]
                  have e3 : hhv.toNat - lw.toNat = 0 := by omega
                  exact ⟨cb, off, cap - lw.toNat, C, e', fr, rfl, by omega, by simp [e3], hF, hC, by simp [e3, VPre]⟩
                · rw [if_neg hc, add_at]
                  refine ⟨cb, _, cap - lw.toNat, C, e', fr, rfl, by omega, by simp; omega, hF, hC, ?_⟩
                  have := VPre_take ((hhv.toNat - lw.toNat) * i.size) (VPre_drop (lw.toNat * i.size) hpre)
                  rwa [List.drop_drop] at this
          · cases hm
      case nilsl =>
        simp only [VRel] at hx
        subst hx
        obtain ⟨e, i, n, hu, hi', hn, hin⟩ := hslice (hns.resolve_left (by simp))
        split at hm
        · cases hm
        · rename_i hhv eh
          split at hm
          · rename_i hcond
            obtain ⟨rfl, rfl⟩ := hcond
            cases hm
            have hb := run_bounds (P := P) (w := w) (isSlice := true) (len := 0) (cap := 0) hl hh el eh (by omega) (by omega) (by omega)
            refine ⟨.slice none 0 0, ?_, by simp [VRel]⟩
            simp [Instr.sliceAt, Instr.slice, run_underlying hu, hb, run_sizeOf hi']
          · cases hm
      case esl =>
        simp only [VRel] at hx
        obtain ⟨a, rfl⟩ := hx
        obtain ⟨e, i, n, hu, hi', hn, hin⟩ := hslice (hns.resolve_left (by simp))
        split at hm
        · cases hm
        · rename_i hhv eh
          split at hm
          · rename_i hcond
            obtain ⟨rfl, rfl⟩ := hcond
            cases hm
            have hb := run_bounds (P := P) (w := w) (isSlice := true) (len := 0) (cap := 0) hl hh el eh (by omega) (by omega) (by omega)
            refine ⟨.slice a 0 0, ?_, by simp [VRel]⟩
            simp [Instr.sliceAt, Instr.slice, run_underlying hu, hb, run_sizeOf hi']
          · cases hm
      case str s =>
        simp only [VRel] at hx
        subst hx
        have hu : P.underlying t = some .string := by
          unfold sliceT at ht
          rw [hst ⟨s, rfl⟩] at ht
          split at ht
          · rename_i h1 h2; cases h2
          · rename_i hu _; exact hu
          · cases ht
        split at hm
        · cases hm
        · rename_i hhv eh
          split at hm
          · rename_i hcond
            obtain ⟨h0, h1, h2⟩ := hcond
            cases hm
            have hsize : (ByteArray.mk s.toArray).size = s.length := by simp [ByteArray.size]
            have hb := run_bounds (P := P) (w := w) (isSlice := false) (len := s.length) (cap := s.length) hl hh el eh h0 h1 h2
            refine ⟨.string ((ByteArray.mk s.toArray).extract lw.toNat hhv.toNat), ?_, ?_⟩
            · simp [Instr.sliceAt, Instr.slice, run_underlying hu, hsize, hb]
            · simp only [VRel]
              congr 1
              apply ByteArray.ext
              simp [ByteArray.extract, ByteArray.copySlice]
          · cases hm

/-! ### fields and elements -/
def fieldT (P : Program) (s : TypeId) (field off : Nat) (n : Option Nat) : Bool :=
  match P.underlying s with
  | some (.struct fs) => (match fs[field]? with
    | some f => f.offset == off && rowT P f.type n
    | none => false)
  | _ => false

theorem run_isAgg_none {t : TypeId} (ht : rowT P t none = true) (w : World) : (isAgg t).run P w = .ok false w := rowT_none ht w

theorem field_sound {s : TypeId} {field off : Nat} {n : Option Nat} {x v : AV} {cx : Value} (hx : VRel c w x cx) (ht : fieldT P s field off n = true) (hm : aField n off x = some v) :
    Pure P c w (Instr.field s cx field) v := by
  unfold aField at hm
  cases x <;> simp only [reduceCtorEq] at hm
  rename_i cs
  simp only [VRel] at hx
  obtain ⟨vs, rfl, hx⟩ := hx
  unfold fieldT at ht
  split at ht
  · rename_i fs hu
    split at ht
    · rename_i f hf
      simp only [Bool.and_eq_true, beq_iff_eq] at ht
      obtain ⟨rfl, hr⟩ := ht
      have hlen := VRels_length hx
      simp at hlen
      cases n with
      | none =>
        simp only at hm
        obtain ⟨cv, h1, h2⟩ := VRels_get f.offset hx hm
        rw [Array.getElem?_toList] at h1
        exact ⟨cv, by simp [Instr.field, run_underlying hu, hf, part, rowT_none hr, asAgg, h1], h2⟩
      | some n =>
        simp only at hm
        split at hm
        · rename_i hl
          cases hm
          obtain ⟨t1, t2⟩ := rowT_some hr w
          refine ⟨.agg (vs.extract f.offset (f.offset + n)), by simp [Instr.field, run_underlying hu, hf, part, t1, t2, asAgg], ?_⟩
          simp only [VRel]
          refine ⟨_, rfl, ?_⟩
          have := VRels_take_drop (VRels_pre hx) f.offset n hl
          simpa [List.extract_eq_take_drop] using this
        · cases hm
    · cases ht
  · cases ht

/-- A field's place: its offset; it takes room. -/
def faddrT (P : Program) (s : TypeId) (field off : Nat) : Bool :=
  match P.underlying s with
  | some (.struct fs) => (match fs[field]? with
    | some f => f.offset == off && (match P.info? f.type with | some i => i.size != 0 | none => false)
    | none => false)
  | _ => false

theorem faddr_sound {s : TypeId} {field off : Nat} {x v : AV} {cx : Value} (hx : VRel c w x cx) (ht : faddrT P s field off = true) (hm : aFAddr off x = some v) :
    Pure P c w (Instr.fieldAt s cx field) v := by
  unfold faddrT at ht
  split at ht
  · rename_i fs hu
    split at ht
    · rename_i f hf
      simp only [Bool.and_eq_true, beq_iff_eq] at ht
      obtain ⟨rfl, hr⟩ := ht
      split at hr
      · rename_i i hi
        have hsz : ∀ w, (sizeOf f.type).run P w = .ok i.size w := run_sizeOf hi
        have hne : i.size ≠ 0 := by simpa using hr
        cases x <;> simp only [aFAddr, reduceCtorEq, Option.some.injEq] at hm <;> subst hm <;> simp only [VRel] at hx
        · obtain ⟨cb, base, hp, rfl⟩ := hx
          exact ⟨_, by simp [Instr.fieldAt, run_underlying hu, hf, Instr.sureAddr, fieldPlace, hsz, hne]; rfl, by simp only [VRel, add_at]; exact ⟨cb, base, hp, by rw [Nat.add_assoc]⟩⟩
        · obtain ⟨cb, o, C, e, fr, rfl, hF, hC, hpre⟩ := hx
          refine ⟨_, by simp [Instr.fieldAt, run_underlying hu, hf, Instr.sureAddr, fieldPlace, hsz, hne]; rfl, ?_⟩
          simp only [VRel, add_at]
          refine ⟨cb, _, C, e, fr, rfl, hF, hC, ?_⟩
          have := VPre_drop f.offset hpre
          rwa [List.drop_drop] at this
      · cases hr
    · cases ht
  · cases ht

/-- What is indexed: an array with so many elements (some n), or a slice (none); each element one of sz cells. -/
def iaddrT (P : Program) (t : TypeId) (arr : Option Nat) (sz : Nat) : Bool :=
  match P.underlying t, arr with
  | some (.array n e), some m => n == m && (match P.info? e with | some i => i.size == sz | none => false)
  | some (.slice e), none => (match P.info? e with | some i => i.size == sz | none => false)
  | _, _ => false

theorem iaddr_sound {t : TypeId} {arr : Option Nat} {sz : Nat} {x i v : AV} {cx ci : Value} (hx : VRel c w x cx) (hi : VRel c w i ci) (ht : iaddrT P t arr sz = true) (hm : aIAddr arr sz x i = some v) :
    Pure P c w (Instr.indexAt t cx ci) v := by
  unfold aIAddr at hm
  cases i <;> simp only [reduceCtorEq] at hm
  rename_i k i
  simp only [VRel] at hi
  subst hi
  unfold iaddrT at ht
  split at ht
  · rename_i n e m hu
    simp only [Bool.and_eq_true, beq_iff_eq] at ht
    obtain ⟨rfl, ht⟩ := ht
    split at ht
    · rename_i ti hti
      have hsz := run_sizeOf hti w
      have e1 : ti.size = sz := by simpa using ht
      subst e1
      cases x <;> simp only [reduceCtorEq] at hm
      · split at hm
        · rename_i hc
          cases hm
          simp only [VRel] at hx
          obtain ⟨cb, base, hp, rfl⟩ := hx
          refine ⟨_, by simp [Instr.indexAt, asIntOf, run_underlying hu, Instr.sureAddr, hc, hsz]; rfl, ?_⟩
          simp only [VRel, add_at]
          exact ⟨cb, base, hp, by rw [Nat.add_assoc]⟩
        · cases hm
      · split at hm
        · rename_i hc
          cases hm
          simp only [VRel] at hx
          obtain ⟨cb, o, C, e', fr, rfl, hF, hC, hpre⟩ := hx
          refine ⟨_, by simp [Instr.indexAt, asIntOf, run_underlying hu, Instr.sureAddr, hc, hsz]; rfl, ?_⟩
          simp only [VRel, add_at]
          refine ⟨cb, _, C, e', fr, rfl, hF, hC, ?_⟩
          have := VPre_drop (i.toNat * ti.size) hpre
          rwa [List.drop_drop] at this
        · cases hm
    · cases ht
  · rename_i e hu
    split at ht
    · rename_i ti hti
      have hsz := run_sizeOf hti w
      have e1 : ti.size = sz := by simpa using ht
      subst e1
      cases x <;> simp only [reduceCtorEq] at hm
      · split at hm
        · rename_i b g off len s hc
          obtain ⟨h0, h1, rfl⟩ := hc
          cases hm
          simp only [VRel] at hx
          rcases hx with ⟨hp, rfl, _⟩ | ⟨cb, base, o, cap, C, e', fr, hp, rfl, hlc, hC, hcap⟩
          · omega
          · obtain ⟨rfl, _⟩ := hcap.resolve_left (by omega)
            refine ⟨_, by simp [Instr.indexAt, asIntOf, run_underlying hu, h0, h1, hsz]; rfl, ?_⟩
            simp only [VRel, add_at]
            exact ⟨cb, base, hp, by rw [Nat.add_assoc]⟩
        · cases hm
      · split at hm
        · rename_i cs len s hc
          obtain ⟨h0, h1, rfl⟩ := hc
          cases hm
          simp only [VRel] at hx
          rcases hx with ⟨⟨a0, rfl⟩, rfl, rfl⟩ | ⟨cb, off, cap, C, e', fr, rfl, hlc, hlen, hF, hC, hpre⟩
          · omega
          · refine ⟨_, by simp [Instr.indexAt, asIntOf, run_underlying hu, h0, h1, hsz]; rfl, ?_⟩
            simp only [VRel, add_at]
            refine ⟨cb, _, C, e', fr, rfl, hF, hC, ?_⟩
            have := VPre_drop (i.toNat * ti.size) hpre
            rwa [List.drop_drop] at this
        · cases hm
    · cases ht
  · cases ht

def indexT (P : Program) (t : TypeId) (arr : Option (Nat × Nat × Bool)) : Bool :=
  match P.underlying t, arr with
  | some (.array n e), some (m, sz, row) => n == m && rowT P e (if row then some sz else none) && (match P.info? e with | some i => i.size == sz | none => false)
  | some .string, none => true
  | _, _ => false

theorem index_sound {t : TypeId} {arr : Option (Nat × Nat × Bool)} {x i v : AV} {cx ci : Value} (hx : VRel c w x cx) (hi : VRel c w i ci) (ht : indexT P t arr = true) (hm : aIndex arr x i = some v) :
    Pure P c w (Instr.index t cx ci) v := by
  unfold aIndex at hm
  cases i <;> simp only [reduceCtorEq] at hm
  rename_i k i
  simp only [VRel] at hi
  subst hi
  unfold indexT at ht
  split at ht
  · rename_i n e m sz row hu
    simp only [Bool.and_eq_true, beq_iff_eq] at ht
    obtain ⟨⟨rfl, hr⟩, ht⟩ := ht
    split at ht
    · rename_i ti hti
      have hsz := run_sizeOf hti w
      have e1 : ti.size = sz := by simpa using ht
      subst e1
      cases x <;> simp only [reduceCtorEq] at hm
      rename_i cs
      simp only [VRel] at hx
      obtain ⟨vs, rfl, hx⟩ := hx
      split at hm
      · rename_i hc
        cases row with
        | true =>
          simp only [if_true] at hm hr
          split at hm
          · rename_i hl
            cases hm
            obtain ⟨t1, t2⟩ := rowT_some hr w
            refine ⟨.agg (vs.extract (i.toNat * ti.size) (i.toNat * ti.size + ti.size)), by simp [Instr.index, asIntOf, run_underlying hu, hc, hsz, part, t1, t2], ?_⟩
            simp only [VRel]
            refine ⟨_, rfl, ?_⟩
            have := VRels_take_drop (VRels_pre hx) (i.toNat * ti.size) ti.size hl
            simpa [List.extract_eq_take_drop] using this
          · cases hm
        | false =>
          simp only [Bool.false_eq_true, if_false] at hm hr
          obtain ⟨cv, h1, h2⟩ := VRels_get _ hx hm
          rw [Array.getElem?_toList] at h1
          exact ⟨cv, by simp [Instr.index, asIntOf, run_underlying hu, hc, hsz, part, rowT_none hr, h1], h2⟩
      · cases hm
    · cases ht
  · rename_i hu
    cases x <;> simp only [reduceCtorEq] at hm
    rename_i s
    simp only [VRel] at hx
    subst hx
    split at hm
    · rename_i h0
      split at hm
      · rename_i b hb
        cases hm
        refine ⟨.int .u8 b.toNat, ?_, by simp [VRel]⟩
        have : (ByteArray.mk s.toArray)[i.toNat]? = some b := by
          have hlt : i.toNat < s.length := by
            rcases Nat.lt_or_ge i.toNat s.length with h | h
            · exact h
            · rw [List.getElem?_eq_none h] at hb; cases hb
          rw [getElem?_pos (ByteArray.mk s.toArray) i.toNat (by simpa [ByteArray.size] using hlt)]
          rw [List.getElem?_eq_getElem hlt] at hb
          cases hb
          rfl
        simp [Instr.index, asIntOf, run_underlying hu, h0, this]
      · cases hm
    · cases hm
  · cases ht

/-! ### lengths -/
def lenT (P : Program) (t : TypeId) (k : Nat) : Bool :=
  match P.underlying t with
  | some .string => k == 0
  | some (.slice _) => k == 1
  | some (.map _ _) => k == 2
  | _ => false

/-- 0 a string, 1 a slice, 2 a map. -/
def lenKind : AV → Nat
  | .str _ => 0
  | .sl .. | .fsl .. | .nilsl | .esl => 1
  | .nilmap | .map .. => 2
  | _ => 3

theorem MRel_length : ∀ {xs : List (AV × AV)} {es : List MapEntry} {clock : Nat}, MRel c w xs es clock → xs.length = es.length
  | [], es, _, hh => by simp only [MRel] at hh; simp [hh]
  | (k, x) :: r, es, clock, hh => by
    simp only [MRel] at hh
    obtain ⟨e, es', rfl, _, _, _, _, h6⟩ := hh
    simp [MRel_length h6]

theorem len_sound {t ty : TypeId} {x v : AV} {cx : Value} {h' : Heap} (H : HRel c h w) (hx : VRel c w x cx) (ht : lenT P t (lenKind x) = true) (hm : (aLen x).run h = some (v, h')) :
    Sound P c w (Builtin.len_ #[t] ty #[cx]) v h' := by
  have t0 : lenT P t 0 = true → P.underlying t = some .string := by
    unfold lenT; split <;> simp_all
  have t1 : lenT P t 1 = true → ∃ e, P.underlying t = some (.slice e) := by
    unfold lenT; split <;> simp_all
  have t2 : lenT P t 2 = true → ∃ k e, P.underlying t = some (.map k e) := by
    unfold lenT; split <;> simp_all
  cases x <;> simp only [aLen] at hm <;> try (cases hm; done)
  case str s =>
    simp only [HM.run, Option.some.injEq, Prod.mk.injEq] at hm
    obtain ⟨rfl, rfl⟩ := hm
    simp only [VRel] at hx; subst hx
    have hu := t0 ht
    have hs : (ByteArray.mk s.toArray).size = s.length := by simp [ByteArray.size]
    exact .here H (cv := goInt s.length) (by simp [Builtin.len_, run_underlying hu, hs]) (by simp [VRel, goInt])
  case sl b g off len sz =>
    simp only [HM.run, Option.some.injEq, Prod.mk.injEq] at hm
    obtain ⟨rfl, rfl⟩ := hm
    obtain ⟨e, hu⟩ := t1 ht
    simp only [VRel] at hx
    rcases hx with ⟨hp, rfl, rfl, rfl⟩ | ⟨cb, base, o, cap, C, e', fr, hp, rfl, hlc, hC, hcap⟩
    · exact .here H (cv := goInt 0) (by simp [Builtin.len_, run_underlying hu]) (by simp [VRel, goInt])
    · exact .here H (cv := goInt len) (by simp [Builtin.len_, run_underlying hu]) (by simp [VRel, goInt])
  case fsl cs len sz =>
    simp only [HM.run, Option.some.injEq, Prod.mk.injEq] at hm
    obtain ⟨rfl, rfl⟩ := hm
    obtain ⟨e, hu⟩ := t1 ht
    simp only [VRel] at hx
    rcases hx with ⟨⟨a0, rfl⟩, rfl, rfl⟩ | ⟨cb, off, cap, C, e', fr, rfl, hlc, hlen, hF, hC, hpre⟩
    · exact .here H (cv := goInt 0) (by simp [Builtin.len_, run_underlying hu]) (by simp [VRel, goInt])
    · exact .here H (cv := goInt len) (by simp [Builtin.len_, run_underlying hu]) (by simp [VRel, goInt])
  case nilsl =>
    simp only [HM.run, Option.some.injEq, Prod.mk.injEq] at hm
    obtain ⟨rfl, rfl⟩ := hm
    obtain ⟨e, hu⟩ := t1 ht
    simp only [VRel] at hx; subst hx
    exact .here H (cv := goInt 0) (by simp [Builtin.len_, run_underlying hu]) (by simp [VRel, goInt])
  case esl =>
    simp only [HM.run, Option.some.injEq, Prod.mk.injEq] at hm
    obtain ⟨rfl, rfl⟩ := hm
    obtain ⟨e, hu⟩ := t1 ht
    simp only [VRel] at hx; obtain ⟨a, rfl⟩ := hx
    exact .here H (cv := goInt 0) (by simp [Builtin.len_, run_underlying hu]) (by simp [VRel, goInt])
  case nilmap =>
    simp only [HM.run, Option.some.injEq, Prod.mk.injEq] at hm
    obtain ⟨rfl, rfl⟩ := hm
    obtain ⟨k, e, hu⟩ := t2 ht
    simp only [VRel] at hx; subst hx
    exact .here H (cv := goInt 0) (by simp [Builtin.len_, run_underlying hu]) (by simp [VRel, goInt])
  case map b g =>
    simp only [HM.run] at hm
    split at hm
    · rename_i g' es hb
      cases e : Nat.beq g' g with
      | false => rw [e] at hm; simp [HM.run] at hm
      | true =>
        rw [e] at hm
        have : g' = g := by simpa using e
        subst this
        simp only [cond_true, HM.run, Option.some.injEq, Prod.mk.injEq] at hm
        obtain ⟨rfl, rfl⟩ := hm
        obtain ⟨k, e', hu⟩ := t2 ht
        simp only [VRel] at hx
        obtain ⟨cb, hp, rfl⟩ := hx
        obtain ⟨cb', es', clock, h1, hO, hC, hR, _⟩ := H.blk b _ hb
        rw [hp] at h1; cases h1
        have hl := MRel_length hR
        have hg : (getObj cb).run P w = .ok (.map es' clock) w := by simp [getObj, Sem.run, hC]
        exact .here H (cv := goInt es'.size) (by simp [Builtin.len_, run_underlying hu, hg]) (by simp [VRel, goInt]; simp at hl; omega)
    · simp [HM.run] at hm

/-! ### small ones -/
theorem extract_sound {i : Nat} {x v : AV} {cx : Value} (hx : VRel c w x cx) (hm : aExtract i x = some v) : Pure P c w (Instr.extract cx i) v := by
  unfold aExtract at hm
  cases x <;> simp only [reduceCtorEq] at hm
  simp only [VRel] at hx
  obtain ⟨vs, rfl, hx⟩ := hx
  obtain ⟨cv, h1, h2⟩ := VRels_get i hx hm
  rw [Array.getElem?_toList] at h1
  exact ⟨cv, by simp [Instr.extract, h1], h2⟩

def aConv (k : IntKind) (x : AV) : Option AV :=
  match x with
  | .int _ n => some (.int k (wr k n))
  | _ => none

def convT (P : Program) (src dst : TypeId) (k : IntKind) : Bool :=
  match P.underlying src, P.underlying dst with
  | some _, some (.int k') => k == k'
  | _, _ => false

theorem conv_sound {src dst : TypeId} {k : IntKind} {x v : AV} {cx : Value} (hx : VRel c w x cx) (ht : convT P src dst k = true) (hm : aConv k x = some v) : Pure P c w (convert src dst cx) v := by
  unfold aConv at hm
  cases x <;> simp only [reduceCtorEq, Option.some.injEq] at hm
  subst hm
  simp only [VRel] at hx
  subst hx
  unfold convT at ht
  split at ht
  · rename_i d k' hs hd
    have : k = k' := by simpa using ht
    subst this
    exact ⟨_, by simp [convert, run_underlying hs, run_underlying hd, Conv.intToInt]; rfl, by simp [VRel, wr_eq]⟩
  · cases ht

/-- A string as a string of another type. -/
def aConvS (x : AV) : Option AV :=
  match x with
  | .str s => some (.str s)
  | _ => none

def convST (P : Program) (src dst : TypeId) : Bool :=
  match P.underlying src, P.underlying dst with
  | some _, some .string => true
  | _, _ => false

theorem convS_sound {src dst : TypeId} {x v : AV} {cx : Value} (hx : VRel c w x cx) (ht : convST P src dst = true) (hm : aConvS x = some v) : Pure P c w (convert src dst cx) v := by
  unfold aConvS at hm
  cases x <;> simp only [reduceCtorEq, Option.some.injEq] at hm
  subst hm
  simp only [VRel] at hx
  subst hx
  unfold convST at ht
  split at ht
  · rename_i d hs hd
    exact ⟨_, by simp [convert, run_underlying hs, run_underlying hd]; rfl, by simp [VRel]⟩
  · cases ht

/-- max and min of whole numbers. -/
def aMax (mn : Bool) (xs : List AV) : Option AV :=
  match xs with
  | [.int k a, .int _ b] => some (.int k (if mn then (if b < a then b else a) else (if a < b then b else a)))
  | _ => none

theorem max_sound {mn : Bool} {ats : Array TypeId} {ty : TypeId} {xs : List AV} {v : AV} {cxs : Array Value} (hx : VRels c w xs cxs.toList) (hm : aMax mn xs = some v) :
    Pure P c w (if mn then Builtin.min_ ats ty cxs else Builtin.max_ ats ty cxs) v := by
  unfold aMax at hm
  split at hm
  · rename_i k a k' b
    cases hm
    simp only [VRels, VRel] at hx
    obtain ⟨_, _, e1, rfl, _, _, rfl, rfl, rfl⟩ := hx
    refine ⟨_, ?_, by simp only [VRel]; exact rfl⟩
    cases mn
    · simp [Builtin.max_, e1, Builtin.max2]
    · simp [Builtin.min_, e1, Builtin.min2]
  · cases hm

/-! ### copy -/
def aCopy (sz : Nat) (x y : AV) : HM AV :=
  match x with
  | .sl b g off len s =>
    if s = sz then
      aSrc sz y fun ys n =>
        .cells b g fun cs =>
          if off + min n len * sz ≤ cs.length ∧ ys.all AV.one = true ∧ sz ≠ 0 then
            .put b (.cells g (putR cs off (ys.take (min n len * sz)))) (.ret (.int .i64 ((min n len : Nat) : Int)))
          else .fail
    else .fail
  | .nilsl => aSrc sz y fun _ _ => .ret (.int .i64 0)
  | .esl => aSrc sz y fun _ _ => .ret (.int .i64 0)
  | _ => .fail

theorem ones_of {ys : List AV} {us : List Value} (hr : VRels c w ys us) (hone : ys.all AV.one = true) : ∀ u ∈ us, u.oneCell' = true := by
  intro u hu
  obtain ⟨j, hj, rfl⟩ := List.mem_iff_getElem.1 hu
  have hul := VRels_length hr
  obtain ⟨v', hv', hr'⟩ := VRels_get j hr (List.getElem?_eq_getElem (by omega : j < ys.length))
  rw [List.getElem?_eq_getElem hj] at hv'; cases hv'
  have h1 : (ys[j]).one = true := by
    rw [List.all_eq_true] at hone
    exact hone _ (List.getElem_mem _)
  have h2 := VRel_cells (x := ys[j]) hr' (by cases hh : ys[j] <;> simp_all [AV.one, AV.cells])
  have : (us[j]).cells = #[us[j]] ∨ ∃ a, us[j] = .agg a := by cases us[j] <;> simp [Value.cells]
  rcases this with h3 | ⟨a, h3⟩
  · exact h2.2 _ (by rw [h3]; simp)
  · rw [h3] at hr'
    exfalso
    cases hh : ys[j] <;> rw [hh] at hr' h1 <;> simp [AV.one] at h1 <;> simp [VRel] at hr'

theorem copy_sound {t t2 ty e : TypeId} {sz : Nat} {x y v : AV} {cx cy : Value} {ti : TypeInfo} {h' : Heap} (H : HRel c h w) (hx : VRel c w x cx) (hy : VRel c w y cy)
    (hu : P.underlying t = some (.slice e)) (hi : P.info? e = some ti) (hsz : ti.size = sz) (hm : (aCopy sz x y).run h = some (v, h')) : Sound P c w (Builtin.copy_ #[t, t2] ty #[cx, cy]) v h' := by
  subst hsz
  have hs := run_sizeOf (P := P) hi
  have nilcase : ∀ (a : Option Addr) (hm : (aSrc ti.size y fun _ _ => .ret (.int .i64 0)).run h = some (v, h')), Sound P c w (Builtin.copy_ #[t, t2] ty #[.slice a 0 0, cy]) v h' := by
    intro a hm
    replace hm := src_sound (P := P) H hy hm
    obtain ⟨ys, n, us, S, hm⟩ := hm
    simp only [HM.run, Option.some.injEq, Prod.mk.injEq] at hm
    obtain ⟨rfl, rfl⟩ := hm
    have hf := S.firstm w 0 (Nat.zero_le _) rfl
    simp at hf
    refine .here H (cv := goInt 0) ?_ (by simp [VRel, goInt])
    cases a <;> simp [Builtin.copy_, run_underlying hu, S.lenOf, hs, hf, storeCells]
  cases x <;> simp only [aCopy] at hm <;> try (cases hm; done)
  case nilsl => simp only [VRel] at hx; subst hx; exact nilcase none hm
  case esl => simp only [VRel] at hx; obtain ⟨a, rfl⟩ := hx; exact nilcase a hm
  case sl b g off len s =>
    split at hm
    · rename_i e1; subst e1
      replace hm := src_sound (P := P) H hy hm
      obtain ⟨ys, n, us, S, hm⟩ := hm
      obtain ⟨cs, hb, hm⟩ := run_cells hm
      split at hm
      · rename_i hcond
        obtain ⟨hl, hone, hne⟩ := hcond
        obtain ⟨hlim, hm⟩ := run_put hm
        simp only [HM.run, Option.some.injEq, Prod.mk.injEq] at hm
        obtain ⟨rfl, rfl⟩ := hm
        have hul := VRels_length S.rels
        have hyl := S.len
        have hmin : min n len * ti.size ≤ n * ti.size := Nat.mul_le_mul_right _ (Nat.min_le_left _ _)
        have hf := S.firstm w (min n len) (Nat.min_le_left _ _) rfl
        have hvr : VRels c w (ys.take (min n len * ti.size)) (us.take (min n len * ti.size)) := by
          have := VRels_take_drop (VRels_pre S.rels) 0 (min n len * ti.size) (by omega)
          simpa using this
        simp only [VRel] at hx
        rcases hx with ⟨hp, rfl, rfl, rfl⟩ | ⟨cb, base, o, cap, C, e', fr, hp, rfl, hlc, hC, hcap⟩
        · -- nothing is written
          have hcs : cs = [] := by
            rcases H.blk b _ hb with ⟨_, h2⟩ | ⟨_, _, _, _, _, h1, _⟩
            · exact h2
            · rw [hp] at h1; cases h1
          subst hcs
          obtain ⟨E, H'⟩ := H.putNil (b := b) (g := g) hlim (fun y hy => H.later b _ hb y hy) (.inr hp)
          have e0 : putR [] 0 (List.take (min n 0 * ti.size) ys) = [] := by simp [putR]
          rw [e0]
          refine ⟨goInt 0, _, w, ?_, E, H', by simp [VRel, goInt]⟩
          simp at hf
          simp [Builtin.copy_, run_underlying hu, S.lenOf, hs, hf]
        · by_cases h0 : min n len = 0
          · -- nothing is written
            have e0 : putR cs off (List.take (min n len * ti.size) ys) = cs := by simp [putR, h0]
            rw [e0]
            have hst := store_at (P := P) H hb hlim hp (vs := []) (us := []) (off := 0) (by simp) (by simp [VRels]) (by simp)
            obtain ⟨c', w', hr, E, H'⟩ := hst
            have e1 : putR cs 0 [] = cs := by simp [putR]
            rw [e1] at H'
            simp only [storeCells, Sem.run_pure] at hr
            cases hr
            refine ⟨goInt 0, c', w, ?_, E, H', by simp [VRel, goInt, h0]⟩
            simp only [h0, Nat.zero_mul, List.take_zero] at hf
            simp [Builtin.copy_, run_underlying hu, S.lenOf, hs]
            rw [show n.min len = 0 from h0, hf]
            simp [storeCells]
          · obtain ⟨rfl, hbd⟩ := hcap.resolve_left (by omega)
            obtain ⟨c', w', hr, E, H'⟩ := store_at (P := P) H hb hlim hp (vs := ys.take (min n len * ti.size)) (us := us.take (min n len * ti.size)) (off := off) (by simp; omega) hvr
              (fun u hu => ones_of S.rels hone u (List.mem_of_mem_take hu))
            refine ⟨goInt (min n len : Nat), c', w', ?_, E, H', by simp [VRel, goInt]⟩
            simp [Builtin.copy_, run_underlying hu, S.lenOf, hs]
            rw [show n.min len = min n len from rfl, hf]
            simp [hr]
      · simp [HM.run] at hm
    · simp [HM.run] at hm

end Go.AM
