/- A part of the proof of InvariantVerifies: lemmas on the way (AmTd, AmPe). Conditions: none of ours. -/
import Derived.Test.YteaeobmbfhaklaaAmZ9
set_option linter.unusedSimpArgs false
set_option linter.unusedVariables false
namespace Go.AM
variable {P : Program}
/-- All that is looked at or put is among B. -/
def HM.tch {α : Type} (B : Nat → Prop) : HM α → Prop
  | .ret _ => True
  | .fail => True
  | .look b k => B b ∧ ∀ x, (k x).tch B
  | .put b _ k => B b ∧ k.tch B
theorem HM.tch_fp {α : Type} {B : Nat → Prop} (m : HM α) : m.tch B → ∀ h b, b ∈ (m.fp h).1 ∨ b ∈ (m.fp h).2 → B b := by
  induction m with
  | ret a => intro _ h b hb; simp [HM.fp] at hb
  | fail => intro _ h b hb; simp [HM.fp] at hb
  | look b k ih =>
    rintro ⟨h1, h2⟩ h b' hb
    simp only [HM.fp, List.mem_cons] at hb
    rcases hb with (rfl | hb) | hb
    · exact h1
    · exact ih _ (h2 _) h b' (.inl hb)
    · exact ih _ (h2 _) h b' (.inr hb)
  | put b x k ih =>
    rintro ⟨h1, h2⟩ h b' hb
    simp only [HM.fp, List.mem_cons] at hb
    rcases hb with hb | rfl | hb
    · exact ih h2 _ b' (.inl hb)
    · exact h1
    · exact ih h2 _ b' (.inr hb)
theorem HM.tch_bind {α β : Type} {B : Nat → Prop} {m : HM α} {f : α → HM β} (h1 : m.tch B) (h2 : ∀ a, (f a).tch B) : (m.bind f).tch B := by
  induction m with
  | ret a => exact h2 a
  | fail => trivial
  | look b k ih => exact ⟨h1.1, fun x => ih x (h1.2 x)⟩
  | put b x k ih => exact ⟨h1.1, ih h1.2⟩
theorem tch_opt {α : Type} {B : Nat → Prop} (o : Option α) : (HM.opt o).tch B := by cases o <;> trivial
theorem tch_cells {α : Type} {B : Nat → Prop} {b g : Nat} {k : List AV → HM α} (hb : B b) (hk : ∀ cs, (k cs).tch B) : (HM.cells b g k).tch B := by
  refine ⟨hb, fun x => ?_⟩
  match x with
  | some (.cells g' cs) =>
    simp only
    cases Nat.beq g' g <;> first | exact trivial | exact hk cs
  | some (.map _ _) => trivial
  | some (.dead _) => trivial
  | none => trivial
theorem tch_new {α : Type} {B : Nat → Prop} {i : Nat} {x : Nat → Blk} {k : Nat → Nat → HM α} (hb : B i) (hk : ∀ b g, (k b g).tch B) : (HM.new .dyn i x k).tch B := by
  refine ⟨hb, fun y => ?_⟩
  match y with
  | none => exact ⟨hb, hk _ _⟩
  | some z => trivial
def blks : AV → Option (List Nat)
  | .ptr b _ _ => some [b]
  | .sl b _ _ _ _ => some [b]
  | .map b _ => some [b]
  | .any => none
  | .agg _ => none
  | .tup [] => some []
  | .tup _ => none
  | .fn _ _ _ => none
  | .ifc _ _ => none
  | _ => some []
/-- The value points to these at most. -/
def Pts (v : AV) (bs : List Nat) : Prop := ∃ cs, blks v = some cs ∧ ∀ b ∈ cs, b ∈ bs
theorem Pts.mono {v : AV} {bs cs : List Nat} (h : Pts v bs) (hs : ∀ b ∈ bs, b ∈ cs) : Pts v cs := by
  obtain ⟨ds, h1, h2⟩ := h
  exact ⟨ds, h1, fun b hb => hs b (h2 b hb)⟩
abbrev Abs := List (Nat × Option (List Nat))
def absT (T : Tmps) : Abs → Nat → Option (List Nat)
  | [], i => blks (lk T i)
  | (j, a) :: r, i => bif Nat.beq j i then a else absT T r i
def absO (T : Tmps) (A : Abs) : Opd → Option (List Nat)
  | .t i => absT T A i
  | .c v => blks v
  | _ => none
def SOp.absV (i : Nat) (ax : Opd → Option (List Nat)) : SOp → Option (List Nat)
  | .mov x => ax x
  | .slice _ x _ _ _ => ax x
  | .iaddr _ _ x _ => ax x
  | .faddr _ x => ax x
  | .alloc .dyn _ => some [i]
  | .box .dyn _ => some [i]
  | .bslice false .dyn _ _ _ _ => some [i]
  | .mkslice .dyn _ _ _ _ _ => some [i]
  | .mkmap .dyn => some [i]
  | .append .dyn _ _ x _ => (ax x).map fun bs => i :: bs
  | _ => none
def SOp.touch (i : Nat) (ax : Opd → Option (List Nat)) : SOp → Option (List Nat)
  | .load _ x => ax x
  | .store _ x _ => ax x
  | .len _ x => ax x
  | .alloc .dyn _ => some [i]
  | .box .dyn _ => some [i]
  | .bslice _ .dyn _ _ _ _ => some [i]
  | .mkslice .dyn _ _ _ _ _ => some [i]
  | .mkmap .dyn => some [i]
  | .append .dyn _ _ x y => match ax x, ax y with
    | some a, some b => some (i :: (a ++ b))
    | _, _ => none
  | .copy _ x y => match ax x, ax y with
    | some a, some b => some (a ++ b)
    | _, _ => none
  | .lookup _ _ _ _ x _ => ax x
  | .mupd _ _ x _ _ => ax x
  | s => bif Nat.beq s.cls 0 then some [] else none
def touches (n : Nat) (T : Tmps) : List SOper → Abs → List (Option (List Nat))
  | [], _ => []
  | s :: r, A => s.op.touch n (absO T A) :: touches (n + 1) T r (match s.dst with | some d => (d, s.op.absV n (absO T A)) :: A | none => A)
def pairsOK (ts : List (Option (List Nat))) (ps : List (Nat × Nat)) : Bool :=
  ps.all fun p => match ts.getD p.1 none, ts.getD p.2 none with
    | some a, some b => a.all fun x => !b.elem x
    | _, _ => false
section
variable {i : Nat} {T : Tmps} {ax : Opd → Option (List Nat)} {B : Nat → Prop}
theorem tch_load {n : Option Nat} {v : AV} {bs : List Nat} (h : Pts v bs) : (aLoad n v).tch (· ∈ bs) := by
  obtain ⟨cs, h1, h2⟩ := h
  unfold aLoad
  split
  · simp only [blks, Option.some.injEq] at h1
    subst h1
    refine tch_cells (h2 _ (by simp)) fun cs => ?_
    split
    · exact tch_opt _
    · split <;> trivial
  · split
    · exact tch_opt _
    · split <;> trivial
  · trivial
theorem tch_store {n : Nat} {v u : AV} {bs : List Nat} (h : Pts v bs) : (aStore n v u).tch (· ∈ bs) := by
  obtain ⟨cs, h1, h2⟩ := h
  unfold aStore
  split
  · simp only [blks, Option.some.injEq] at h1
    subst h1
    have hb := h2 _ (List.mem_singleton.2 rfl)
    refine tch_cells hb fun cs => ?_
    split
    · exact ⟨hb, trivial⟩
    · trivial
  · trivial
theorem tch_len {k : Nat} {v : AV} {bs : List Nat} (h : Pts v bs) : (aLenC k v).tch (· ∈ bs) := by
  obtain ⟨cs, h1, h2⟩ := h
  unfold aLenC
  split
  · unfold aLen
    split <;> try trivial
    simp only [blks, Option.some.injEq] at h1
    subst h1
    refine ⟨h2 _ (by simp), fun y => ?_⟩
    match y with
    | some (.map g' es) =>
      simp only
      generalize Nat.beq g' _ = t
      cases t <;> trivial
    | some (.cells _ _) => trivial
    | some (.dead _) => trivial
    | none => trivial
  · trivial
theorem tch_src {sz : Nat} {v : AV} {bs : List Nat} {k : List AV → Nat → HM AV} (h : Pts v bs) (hs : ∀ b ∈ bs, B b) (hk : ∀ ys n, (k ys n).tch B) : (aSrc sz v k).tch B := by
  obtain ⟨cs, h1, h2⟩ := h
  unfold aSrc
  split
  · simp only [blks, Option.some.injEq] at h1
    subst h1
    split
    · refine tch_cells (hs _ (h2 _ (by simp))) fun cs => ?_
      split
      · exact hk _ _
      · trivial
    · trivial
  · split
    · exact hk _ _
    · trivial
  · exact hk _ _
  · exact hk _ _
  · split
    · exact hk _ _
    · trivial
  · trivial
theorem tch_append {sz bytes : Nat} {x y : AV} {a b : List Nat} (hx : Pts x a) (hy : Pts y b) : (aAppend .dyn i sz bytes x y).tch (· ∈ i :: (a ++ b)) := by
  unfold aAppend
  refine tch_src hy (fun c hc => by simp [hc]) fun ys n => ?_
  split
  · obtain ⟨cs, h1, h2⟩ := hx
    split
    · split
      · trivial
      · exact tch_new (by simp) fun _ _ => trivial
    · split
      · trivial
      · exact tch_new (by simp) fun _ _ => trivial
    · split <;> trivial
    · simp only [blks, Option.some.injEq] at h1
      subst h1
      have hb := h2 _ (List.mem_singleton.2 rfl)
      split
      · refine tch_cells (by simp [hb]) fun cs => ?_
        split
        · exact ⟨by simp [hb], trivial⟩
        · trivial
      · trivial
    · trivial
  · trivial
theorem tch_copy {sz : Nat} {x y : AV} {a b : List Nat} (hx : Pts x a) (hy : Pts y b) : (aCopy sz x y).tch (· ∈ a ++ b) := by
  obtain ⟨cs, h1, h2⟩ := hx
  unfold aCopy
  split
  · simp only [blks, Option.some.injEq] at h1
    subst h1
    have hb := h2 _ (List.mem_singleton.2 rfl)
    split
    · refine tch_src hy (fun c hc => by simp [hc]) fun ys n => ?_
      refine tch_cells (by simp [hb]) fun cs => ?_
      split
      · exact ⟨by simp [hb], trivial⟩
      · trivial
    · trivial
  · exact tch_src hy (fun c hc => by simp [hc]) fun ys n => trivial
  · exact tch_src hy (fun c hc => by simp [hc]) fun ys n => trivial
  · trivial
theorem tch_entries {α : Type} {b g : Nat} {k : List (AV × AV) → HM α} (hb : B b) (hk : ∀ es, (k es).tch B) : (HM.entries b g k).tch B := by
  refine ⟨hb, fun x => ?_⟩
  match x with
  | some (.map g' es) =>
    simp only
    cases Nat.beq g' g <;> first | exact trivial | exact hk es
  | some (.cells _ _) => trivial
  | some (.dead _) => trivial
  | none => trivial
theorem tch_lookup {row ok : Bool} {ks : List LK} {z x k : AV} {bs : List Nat} (h : Pts x bs) : (aLookup row ks z ok x k).tch (· ∈ bs) := by
  obtain ⟨cs, h1, h2⟩ := h
  unfold aLookup
  split
  · split
    · trivial
    · simp only [blks, Option.some.injEq] at h1
      subst h1
      refine tch_entries (h2 _ (by simp)) fun es => ?_
      split <;> trivial
    · trivial
  · trivial
theorem tch_mupd {row : Bool} {ks : List LK} {x k v : AV} {bs : List Nat} (h : Pts x bs) : (aMapUpd row ks x k v).tch (· ∈ bs) := by
  obtain ⟨cs, h1, h2⟩ := h
  unfold aMapUpd
  split
  · split
    · simp only [blks, Option.some.injEq] at h1
      subst h1
      have hb := h2 _ (List.mem_singleton.2 rfl)
      refine tch_entries hb fun es => ?_
      split
      · exact ⟨hb, trivial⟩
      · exact ⟨hb, trivial⟩
      · trivial
    · trivial
  · trivial
theorem tch_hval {m : HM AV} (h : m.tch B) : (hval m).tch B := HM.tch_bind h fun _ => trivial
theorem touch_op {s : SOp} {ts : List Nat} (hax : ∀ x bs, ax x = some bs → Pts (ev T x) bs) (h : s.touch i ax = some ts) : s.cls ≠ 0 → (aop i T s).tch (· ∈ ts) ∧ ∀ m x asx, s ≠ .call m x asx := by
  intro h0
  have new1 : ∀ {x : Nat → Blk} {r : Nat → Nat → AV}, (HM.new .dyn i x fun b g => .ret (r b g)).tch (· ∈ [i]) := fun {x r} => tch_new (by simp) fun _ _ => trivial
  cases s <;> try (exact absurd rfl h0)
  · rename_i s z
    cases s <;> simp only [SOp.touch, SOp.cls, show Nat.beq 2 0 = false from rfl, cond_false, reduceCtorEq, Option.some.injEq] at h
    subst h
    refine ⟨tch_hval ?_, fun _ _ _ => by simp⟩
    unfold aBox; split
    · exact new1
    · trivial
  · rename_i s z
    cases s <;> simp only [SOp.touch, SOp.cls, show Nat.beq 2 0 = false from rfl, cond_false, reduceCtorEq, Option.some.injEq] at h
    subst h
    refine ⟨tch_hval ?_, fun _ _ _ => by simp⟩
    unfold aBox; split
    · exact new1
    · trivial
  · rename_i fz s sz len z ps
    cases s <;> simp only [SOp.touch, SOp.cls, show Nat.beq 2 0 = false from rfl, cond_false, reduceCtorEq, Option.some.injEq] at h
    subst h
    refine ⟨tch_hval ?_, fun _ _ _ => by simp⟩
    unfold aBuildSlice
    split
    · split
      · split
        · split <;> trivial
        · exact new1
      · trivial
    · trivial
  · exact ⟨tch_hval (tch_load (hax _ _ h)), fun _ _ _ => by simp⟩
  · exact ⟨tch_hval (tch_store (hax _ _ h)), fun _ _ _ => by simp⟩
  · simp only [SOp.touch, SOp.cls, show Nat.beq 1 0 = false from rfl, cond_false, reduceCtorEq] at h
  · rename_i s
    cases s <;> simp only [SOp.touch, SOp.cls, show Nat.beq 2 0 = false from rfl, cond_false, reduceCtorEq, Option.some.injEq] at h
    subst h
    exact ⟨tch_hval new1, fun _ _ _ => by simp⟩
  · rename_i s sz b z l c
    cases s <;> simp only [SOp.touch, SOp.cls, show Nat.beq 2 0 = false from rfl, cond_false, reduceCtorEq, Option.some.injEq] at h
    subst h
    refine ⟨tch_hval ?_, fun _ _ _ => by simp⟩
    unfold aMakeSlice
    split
    · split
      · exact new1
      · trivial
    · trivial
  · exact ⟨tch_hval (tch_lookup (hax _ _ h)), fun _ _ _ => by simp⟩
  · exact ⟨tch_hval (tch_mupd (hax _ _ h)), fun _ _ _ => by simp⟩
  · exact ⟨tch_hval (tch_len (hax _ _ h)), fun _ _ _ => by simp⟩
  · rename_i s sz b x y
    cases s <;> simp only [SOp.touch, SOp.cls, show Nat.beq 2 0 = false from rfl, cond_false, reduceCtorEq] at h
    split at h
    · rename_i a b ha hb
      cases h
      exact ⟨tch_hval (tch_append (hax _ _ ha) (hax _ _ hb)), fun _ _ _ => by simp⟩
    · cases h
  · rename_i sz x y
    simp only [SOp.touch] at h
    split at h
    · rename_i a b ha hb
      cases h
      exact ⟨tch_hval (tch_copy (hax _ _ ha) (hax _ _ hb)), fun _ _ _ => by simp⟩
    · cases h
  · rename_i m x asx
    exfalso
    simp only [SOp.touch] at h
    have : Nat.beq (SOp.call m x asx).cls 0 = false := by cases m <;> rfl
    rw [this] at h; cases h
theorem touch_sound {s : SOper} {h h1 : Heap} {v : AV} {f : FP} {ts : List Nat} (hax : ∀ x bs, ax x = some bs → Pts (ev T x) bs) (ht : s.op.touch i ax = some ts) (hs : StepV P i s T h v h1 f) :
    f.all = false ∧ ∀ b, b ∈ f.R ∨ b ∈ f.W → b ∈ ts := by
  by_cases h0 : s.op.cls = 0
  · obtain ⟨k1, k2, k3⟩ := hs.cls (by omega)
    exact ⟨k1, fun b hb => by rw [k2, k3 h0] at hb; simp at hb⟩
  obtain ⟨t1, t2⟩ := touch_op hax ht h0
  have key : ∀ {s' : SOp}, s' = s.op → StepX P i s' T h v h1 f → f.all = false ∧ ∀ b, b ∈ f.R ∨ b ∈ f.W → b ∈ ts := by
    rintro s' rfl ⟨out, h2, hm, ho⟩
    have fin : f = fpOf ((aop i T s.op).fp h) → f.all = false ∧ ∀ b, b ∈ f.R ∨ b ∈ f.W → b ∈ ts := by
      rintro rfl; exact ⟨rfl, fun b hb => HM.tch_fp _ t1 h b hb⟩
    match out, ho with
    | .val u, ho => exact fin ho.2.2
    | .call .pure f' args, ho => exact fin ho.2.2
    | .call .borrow f' args, ho => exact fin ho.2.2.2
    | .call .heap f' args, ho =>
      exfalso
      cases hso : s.op with
      | call m x asx => exact t2 m x asx hso
      | _ =>
        rw [hso] at hm
        first
          | (obtain ⟨u, hu, he⟩ := run_lift hm; cases he)
          | (obtain ⟨u, h3, hu, he⟩ := run_hval hm; cases he)
          | (simp [aop, HM.run] at hm)
  unfold StepV at hs
  split at hs
  · exact key rfl hs
  · obtain ⟨t, _, hs⟩ := hs
    split at hs
    · exact key rfl hs
    · obtain ⟨_, _, rfl⟩ := hs; exact ⟨rfl, fun b hb => by simp at hb⟩
theorem Pts.slice {n : Option Nat} {x v : AV} {l h m : Option AV} {bs : List Nat} (hx : Pts x bs) (hv : aSliceC n x l h m = some v) : Pts v bs := by
  obtain ⟨cs, h1, h2⟩ := hx
  have key : aSlice x l h m = some v → Pts v bs := by
    intro hv
    unfold aSlice at hv
    have nil : ∀ {v : AV}, blks v = some [] → Pts v bs := fun h => ⟨[], h, fun b hb => by cases hb⟩
    split at hv
    · cases hv
    · split at hv
      · split at hv
        · split at hv
          · split at hv <;> first | (cases hv; exact nil rfl) | cases hv
          · cases hv
        · cases hv
      · cases hv
      · split at hv
        · split at hv
          · cases hv
          · split at hv
            · cases hv; exact ⟨cs, h1, h2⟩
            · cases hv
        · split at hv
          · cases hv
          · split at hv
            · cases hv; exact nil rfl
            · cases hv
        · split at hv
          · cases hv
          · split at hv
            · cases hv; exact nil rfl
            · cases hv
        · split at hv
          · cases hv
          · split at hv
            · cases hv; exact nil rfl
            · cases hv
        · split at hv
          · cases hv
          · split at hv
            · cases hv; exact nil rfl
            · cases hv
        · cases hv
  unfold aSliceC at hv
  split at hv <;> first | exact key hv | cases hv | (split at hv; exact key hv; cases hv)
theorem Pts.iaddr {a : Option Nat} {sz : Nat} {x j v : AV} {bs : List Nat} (hx : Pts x bs) (hv : aIAddr a sz x j = some v) : Pts v bs := by
  obtain ⟨cs, h1, h2⟩ := hx
  have nil : ∀ {v : AV}, blks v = some [] → Pts v bs := fun h => ⟨[], h, fun b hb => by cases hb⟩
  unfold aIAddr at hv
  split at hv
  · split at hv <;> first | (split at hv <;> first | (cases hv; first | exact ⟨cs, h1, h2⟩ | exact nil rfl) | cases hv) | cases hv
  · cases hv
theorem Pts.faddr {off : Nat} {x v : AV} {bs : List Nat} (hx : Pts x bs) (hv : aFAddr off x = some v) : Pts v bs := by
  obtain ⟨cs, h1, h2⟩ := hx
  have nil : ∀ {v : AV}, blks v = some [] → Pts v bs := fun h => ⟨[], h, fun b hb => by cases hb⟩
  unfold aFAddr at hv
  split at hv
  · cases hv; exact ⟨cs, h1, h2⟩
  · cases hv; exact nil rfl
  · cases hv
/-- What a run gives is so, if it is so whatever is looked at. -/
def HM.gives {α : Type} (R : α → Prop) : HM α → Prop
  | .ret a => R a
  | .fail => True
  | .look _ k => ∀ x, (k x).gives R
  | .put _ _ k => k.gives R
theorem HM.gives_run {α : Type} {R : α → Prop} (m : HM α) : m.gives R → ∀ h a h1, m.run h = some (a, h1) → R a := by
  induction m with
  | ret a => intro hr h b h1 hm; simp only [HM.run, Option.some.injEq, Prod.mk.injEq] at hm; rw [← hm.1]; exact hr
  | fail => intro _ h b h1 hm; simp [HM.run] at hm
  | look b k ih => intro hr h a h1 hm; exact ih _ (hr _) h a h1 hm
  | put b x k ih => intro hr h a h1 hm; exact ih hr _ a h1 (run_put hm).2
theorem gives_cells {α : Type} {R : α → Prop} {b g : Nat} {k : List AV → HM α} (hk : ∀ cs, (k cs).gives R) : (HM.cells b g k).gives R := by
  intro x
  match x with
  | some (.cells g' cs) =>
    simp only
    cases Nat.beq g' g <;> first | exact trivial | exact hk cs
  | some (.map _ _) => trivial
  | some (.dead _) => trivial
  | none => trivial
theorem gives_new {α : Type} {R : α → Prop} {i : Nat} {x : Nat → Blk} {k : Nat → Nat → HM α} (hk : (k i 0).gives R) : (HM.new .dyn i x k).gives R := by
  intro y
  match y with
  | none => exact hk
  | some z => trivial
theorem gives_src {R : AV → Prop} {sz : Nat} {v : AV} {k : List AV → Nat → HM AV} (hk : ∀ ys n, (k ys n).gives R) : (aSrc sz v k).gives R := by
  unfold aSrc
  split
  · split
    · refine gives_cells fun cs => ?_
      split
      · exact hk _ _
      · trivial
    · trivial
  · split
    · exact hk _ _
    · trivial
  · exact hk _ _
  · exact hk _ _
  · split
    · exact hk _ _
    · trivial
  · trivial
theorem gives_append {sz bytes : Nat} {x y : AV} {a : List Nat} (hx : Pts x a) : (aAppend .dyn i sz bytes x y).gives fun v => Pts v (i :: a) := by
  have nil : ∀ {v : AV}, blks v = some [] → Pts v (i :: a) := fun h => ⟨[], h, fun b hb => by cases hb⟩
  unfold aAppend
  refine gives_src fun ys n => ?_
  split
  · obtain ⟨cs, h1, h2⟩ := hx
    split
    · split
      · exact nil rfl
      · exact gives_new ⟨_, rfl, fun b hb => by simp at hb; simp [hb]⟩
    · split
      · exact nil rfl
      · exact gives_new ⟨_, rfl, fun b hb => by simp at hb; simp [hb]⟩
    · split
      · exact nil rfl
      · trivial
    · simp only [blks, Option.some.injEq] at h1
      subst h1
      split
      · refine gives_cells fun cs => ?_
        split
        · exact ⟨_, rfl, fun b hb => List.mem_cons_of_mem _ (h2 b hb)⟩
        · trivial
      · trivial
    · trivial
  · trivial
theorem absV_sound {s : SOper} {h h1 : Heap} {v : AV} {f : FP} {bs : List Nat} (hax : ∀ x bs, ax x = some bs → Pts (ev T x) bs) (ht : s.op.absV i ax = some bs) (hs : StepV P i s T h v h1 f) : Pts v bs := by
  have self : ∀ {v : AV}, blks v = some [i] → Pts v [i] := fun h => ⟨_, h, fun b hb => hb⟩
  have key : ∀ {s' : SOp}, s'.absV i ax = some bs → StepX P i s' T h v h1 f → Pts v bs := by
    rintro s' ht ⟨out, h2, hm, ho⟩
    have hv : ∀ {m : HM AV}, aop i T s' = hval m → (m.gives fun v => Pts v bs) → Pts v bs := by
      intro m e hg
      rw [e] at hm
      obtain ⟨u, h3, hu, he⟩ := run_hval hm
      cases he
      rw [ho.1]
      exact HM.gives_run _ hg _ _ _ hu
    have hl : ∀ {o : Option AV}, aop i T s' = lift o → (∀ u, o = some u → Pts u bs) → Pts v bs := by
      intro o e hg
      rw [e] at hm
      obtain ⟨u, hu, he⟩ := run_lift hm
      cases he
      rw [ho.1]
      exact hg _ hu
    cases s' <;> try (simp only [SOp.absV, reduceCtorEq] at ht; done)
    · simp only [aop, HM.run, Option.some.injEq, Prod.mk.injEq] at hm
      obtain ⟨rfl, rfl⟩ := hm
      rw [ho.1]; exact hax _ _ ht
    · rename_i s z
      cases s <;> simp only [SOp.absV, reduceCtorEq, Option.some.injEq] at ht
      subst ht
      refine hv rfl ?_
      unfold aBox; split
      · exact gives_new (self rfl)
      · trivial
    · rename_i s z
      cases s <;> simp only [SOp.absV, reduceCtorEq, Option.some.injEq] at ht
      subst ht
      refine hv rfl ?_
      unfold aBox; split
      · exact gives_new (self rfl)
      · trivial
    · rename_i fz s sz len z ps
      cases fz <;> cases s <;> simp only [SOp.absV, reduceCtorEq, Option.some.injEq] at ht
      subst ht
      refine hv rfl ?_
      unfold aBuildSlice
      split
      · split
        · rw [if_neg (by simp)]; exact gives_new (self rfl)
        · trivial
      · trivial
    · rename_i s
      cases s <;> simp only [SOp.absV, reduceCtorEq, Option.some.injEq] at ht
      subst ht
      exact hv rfl (gives_new (self rfl))
    · rename_i s sz b z l c
      cases s <;> simp only [SOp.absV, reduceCtorEq, Option.some.injEq] at ht
      subst ht
      refine hv rfl ?_
      unfold aMakeSlice
      split
      · split
        · exact gives_new (self rfl)
        · trivial
      · trivial
    · exact hl rfl fun u hu => (hax _ _ ht).slice hu
    · exact hl rfl fun u hu => (hax _ _ ht).faddr hu
    · exact hl rfl fun u hu => (hax _ _ ht).iaddr hu
    · rename_i s sz b x y
      cases s <;> simp only [SOp.absV, reduceCtorEq, Option.map_eq_some_iff] at ht
      obtain ⟨a, ha, rfl⟩ := ht
      exact hv rfl (gives_append (hax _ _ ha))
  unfold StepV at hs
  split at hs
  · exact key ht hs
  · obtain ⟨t, _, hs⟩ := hs
    split at hs
    · exact key ht hs
    · obtain ⟨rfl, _⟩ := hs; exact ⟨[], rfl, fun b hb => by cases hb⟩
end
/-- The slots T stand asx A says, seen from the slots T0. -/
def AbsOK (T0 : Tmps) (A : Abs) (T : Tmps) : Prop := ∀ j bs, absT T0 A j = some bs → Pts (lk T j) bs
theorem AbsOK.opd {T0 T : Tmps} {A : Abs} (h : AbsOK T0 A T) : ∀ x bs, absO T0 A x = some bs → Pts (ev T x) bs := by
  intro x bs hx
  cases x with
  | t i => exact h i bs hx
  | c v => exact ⟨bs, hx, fun b hb => hb⟩
  | f n => cases hx
  | g n => cases hx
theorem AbsOK.nil {T : Tmps} : AbsOK T [] T := fun j bs h => ⟨bs, h, fun b hb => hb⟩
theorem AbsOK.up {T0 T : Tmps} {A : Abs} {d : Nat} {v : AV} {a : Option (List Nat)} (h : AbsOK T0 A T) (hv : ∀ bs, a = some bs → Pts v bs) : AbsOK T0 ((d, a) :: A) (up T d v) := by
  intro j bs hj
  rw [lk_up]
  simp only [absT] at hj
  by_cases e : d = j
  · subst e
    have e1 : Nat.beq d d = true := by simp
    rw [e1] at hj
    rw [if_pos rfl]
    exact hv bs hj
  · have : Nat.beq d j = false := by rw [Bool.eq_false_iff]; simpa using e
    rw [this] at hj
    rw [if_neg (fun h => e h.symm)]
    exact h j bs hj
theorem wpRF_of {T0 : Tmps} : ∀ {r : List SOper} {n : Nat} {A : Abs} {T : Tmps} {h : Heap} {K : Tmps → Heap → Nat → Prop} (hA : AbsOK T0 A T) (K' : List FP → Tmps → Heap → Nat → Prop),
    (∀ fs T h n', fs.length = r.length → (∀ (j : Nat) ts, (touches n T0 r A).getD j none = some ts → (fs.getD j ⟨false, [], []⟩).all = false ∧ ∀ b, b ∈ (fs.getD j ⟨false, [], []⟩).R ∨ b ∈ (fs.getD j ⟨false, [], []⟩).W → b ∈ ts) → K T h n' → K' fs T h n') →
    wpR P n r T h K → wpRF P n r T h K'
  | [], n, A, T, h, K, hA, K', hK, hw => hK [] T h n rfl (fun j ts hj => by simp [touches] at hj) hw
  | s :: r, n, A, T, h, K, hA, K', hK, hw => by
    obtain ⟨v, h1, f, hs, hr⟩ := hw
    refine ⟨v, h1, f, hs, ?_⟩
    have hA2 : AbsOK T0 (match s.dst with | some d => (d, s.op.absV n (absO T0 A)) :: A | none => A) (putD T s.dst v) := by
      cases s.dst with
      | none => exact hA
      | some d => exact AbsOK.up hA fun bs hb => absV_sound hA.opd hb hs
    refine wpRF_of hA2 (fun fs T h n => K' (f :: fs) T h n) (fun fs T h n' hl hf hk => ?_) hr
    refine hK (f :: fs) T h n' (by simp [hl]) (fun j ts hj => ?_) hk
    cases j with
    | zero =>
      simp only [touches, List.getD_cons_zero] at hj ⊢
      exact touch_sound hA.opd hj hs
    | succ j =>
      simp only [touches, List.getD_cons_succ] at hj ⊢
      exact hf j ts hj
/-- The check, asx the simplifier's discharger finds it. -/
inductive PairsOK (n : Nat) (T : Tmps) (ops : List SOper) (ps : List (Nat × Nat)) : Prop
  | mk (h : pairsOK (touches n T ops []) ps = true)
theorem wS_regionP {N : NM} {ops : List SOper} {p : Nat × Nat} {ps : List (Nat × Nat)} {dead : List Nat} {fs : List Fr} {n : Nat} {T : Tmps} {h : Heap} {Q : QC} (hp : PairsOK n T ops (p :: ps)) :
    wS P N (.region ops (p :: ps) dead) fs n T h Q = wR P N ops dead fs n T h Q := by
  obtain ⟨hp⟩ := hp
  apply propext; constructor
  · intro hw
    have : ∀ {r : List SOper} {n : Nat} {T : Tmps} {h : Heap} {K : List FP → Tmps → Heap → Nat → Prop} {K' : Tmps → Heap → Nat → Prop}, (∀ fs T h n, K fs T h n → K' T h n) → wpRF P n r T h K → wpR P n r T h K' := by
      intro r
      induction r with
      | nil => intro n T h K K' hK hw; exact hK _ _ _ _ hw
      | cons s r ih =>
        rintro n T h K K' hK ⟨v, h1, f, hs, hr⟩
        exact ⟨v, h1, f, hs, ih (fun fs T h n hk => hK _ _ _ _ hk) hr⟩
    exact this (fun fs' T h n hk => hk.2) hw
  · intro hw
    refine wpRF_of AbsOK.nil _ (fun fs' T h n' hl hf hk => ⟨?_, hk⟩) hw
    rw [List.all_eq_true]
    intro q hq
    have := List.all_eq_true.1 hp q hq
    split at this
    · rename_i a b ha hb
      obtain ⟨f1, f2⟩ := hf _ _ ha
      obtain ⟨g1, g2⟩ := hf _ _ hb
      have hd : ∀ x y, x ∈ a → y ∈ b → x ≠ y := by
        rintro x y hx hy rfl
        have := List.all_eq_true.1 this x hx
        simp [hy] at this
      have dj : ∀ xs ys : List Nat, (∀ x ∈ xs, ∀ y ∈ ys, x ≠ y) → disj xs ys = true := by
        intro xs ys hh
        unfold disj
        rw [List.all_eq_true]
        intro x hx
        simp only [Bool.not_eq_true', List.contains_eq_mem, decide_eq_false_iff_not]
        intro hy
        exact hh x hx x hy rfl
      unfold FP.apart
      rw [f1, g1]
      simp only [Bool.and_eq_true]
      refine ⟨⟨dj _ _ fun x hx y hy => ?_, dj _ _ fun x hx y hy => ?_⟩, dj _ _ fun x hx y hy => ?_⟩
      · first | exact hd x y (f2 x (.inr hx)) (g2 y (.inl hy)) | exact fun e => hd y x (f2 y (.inl hy)) (g2 x (.inr hx)) e.symm
      · first | exact hd x y (f2 x (.inr hx)) (g2 y (.inr hy)) | exact fun e => hd y x (f2 y (.inr hy)) (g2 x (.inr hx)) e.symm
      · first | exact fun e => hd y x (f2 y (.inl hy)) (g2 x (.inr hx)) e.symm | exact fun e => hd y x (f2 y (.inr hy)) (g2 x (.inl hx)) e.symm | exact hd x y (f2 x (.inl hx)) (g2 y (.inr hy))
    · cases this
theorem FrzL.nil {h : Heap} : FrzL h [] [] := trivial
theorem FrzL.cons {h : Heap} {x y : AV} {xs ys : List AV} (h1 : FrzTo h x y) (h2 : FrzL h xs ys) : FrzL h (x :: xs) (y :: ys) := ⟨h1, h2⟩
end Go.AM
namespace Go.AM.SN
open Go.Proofs
set_option maxRecDepth 100000
set_option linter.unusedSimpArgs false
set_option linter.unusedVariables false
-- TD
-- NA: noRef_net, noRef_sli, noRef_lsts, noRef_arcs, noRef_tns
-- NR: noRefs_ints, noRefs_lsts, noRefs_pad, noRefs_tnC, noRefs_arcC, noRefs_rowF
theorem fstErr_zero {K : Nat} {l : List (List Int)} (h : ∀ w ∈ l, wErr w K = 0) : fstErr K l = 0 := fstErr_ok fun j y hy => h y (List.mem_of_getElem? hy)
theorem wErr_zero {w : List Int} {K : Nat} (hl : w.length = K) (h : ∀ y ∈ w, okT y) : wErr w K = 0 := by
  unfold wErr
  rw [if_pos hl, if_neg]
  intro ha
  obtain ⟨y, hy, hb⟩ := List.any_eq_true.1 ha
  have := h y hy
  simp only [badW, decide_eq_true_eq] at hb
  unfold okT at this; omega
theorem wErr_size {w : List Int} {K : Nat} (hl : w.length ≠ K) : wErr w K = 4 := by
  unfold wErr; rw [if_neg hl]
theorem wErr_set {w : List Int} {K p : Nat} {b : Int} (hl : w.length = K) (h : ∀ y ∈ w, okT y) (hp : p < K) : wErr (w.set p b) K = if badW b = true then 2 else 0 := by
  unfold wErr
  rw [if_pos (by simp [hl])]
  have : (w.set p b).any badW = badW b := by
    rw [Bool.eq_iff_iff, List.any_eq_true]
    constructor
    · rintro ⟨y, hy, hb⟩
      rcases List.mem_or_eq_of_mem_set hy with h1 | rfl
      · have := h y h1
        simp only [badW, decide_eq_true_eq] at hb
        unfold okT at this; omega
      · exact hb
    · intro hb
      have : b ∈ w.set p b := by rw [List.mem_iff_getElem?]; exact ⟨p, by simp [List.getElem?_set, hl, hp]⟩
      exact ⟨b, this, hb⟩
  rw [this]
set_option maxHeartbeats 8000000 in
theorem law9 (s : Sm) (ho : SmOk s) (kd : Nat) (hkb : kd < 256) (b : Int) :
    W2 Try.prog ⟨SW.s9.n, 0⟩ SW.s9.body (fun e B => (e = .normal ∨ e = .ret) ∧ resV B.T B.h SW.s9.res = some [.bool true]) ⟨argT 0 [.agg (smC s), .int .u8 kd, .int .i64 b], .e⟩ := by
  refine (wpC.toW (n := 64) (Q := fun e T h _ => (e = .normal ∨ e = .ret) ∧ resV T h SW.s9.res = some [.bool true]) (show wS Try.prog ⟨SW.s9.n, 0⟩ SW.s9.body [] 64 _ _ _ from ?_)).mono fun e B ⟨_, h⟩ => h
  have hsm := noRef_sm s
  have hN := mkN_ok s
  have hT := mkN_tiny s
  have hmk := make s ho
  have hsl : (smC s).length = 7 := by simp [smC, u8s, ho.ini]
  have ht7 : (smC s).take 7 = smC s := List.take_of_length_le (by omega)
  have h7 : (0 + 7 ≤ (smC s).length) = True := eq_true (by omega)
  generalize mkN s = x at hN hT hmk
  simp (config := { maxSteps := 1000000 }) (disch := first | omega | exact PairsOK.mk rfl | (simp only [List.length_map, List.length_append, List.length_cons, List.length_nil, ints_len] <;> omega)) only [SW.s9, wordsN, Int.reduceGT, wordsR, ne_eq, wS_regionP, aAppend_slF, aAppend_slN, aSlice_fslL, aSlice_fslH, aSlice_fslB, aSlice_slL, aSlice_slH, aSlice_slB, words, Nat.reduceAdd, Nat.reduceEqDiff, Nat.reduceBEq, ↓reduceIte, reduceCtorEq, SX.exit.injEq, if_true, if_false, Int.reduceAdd, Int.reduceSub, Int.reduceMul, Int.reduceLT, Int.reduceLE, Int.reduceEq, Int.reduceNe, Int.reduceNeg, Int.reduceToNat, Nat.reduceMul, Nat.reduceLT, Nat.reduceSub, Nat.reduceLeDiff]
  refine cp known ?_
  simp (config := { maxSteps := 1000000 }) (disch := first | omega | exact PairsOK.mk rfl | (simp only [List.length_map, List.length_append, List.length_cons, List.length_nil, ints_len] <;> omega)) only [h7, ht7, wordsN, Int.reduceGT, wordsR, ne_eq, wS_regionP, aAppend_slF, aAppend_slN, aSlice_fslL, aSlice_fslH, aSlice_fslB, aSlice_slL, aSlice_slH, aSlice_slB, words, Nat.reduceAdd, Nat.reduceEqDiff, Nat.reduceBEq, ↓reduceIte, reduceCtorEq, SX.exit.injEq, if_true, if_false, Int.reduceAdd, Int.reduceSub, Int.reduceMul, Int.reduceLT, Int.reduceLE, Int.reduceEq, Int.reduceNe, Int.reduceNeg, Int.reduceToNat, Nat.reduceMul, Nat.reduceLT, Nat.reduceSub, Nat.reduceLeDiff]
  refine cp hmk ?_
  have hkk : (1 + ((kd % 2 : Nat) : Int) = 1 ∨ 1 + ((kd % 2 : Nat) : Int) = 2) := by omega
  simp (config := { maxSteps := 1000000 }) (disch := first | omega | exact PairsOK.mk rfl | (simp only [List.length_map, List.length_append, List.length_cons, List.length_nil, ints_len] <;> omega)) only [tm2, wordsN, Int.reduceGT, wordsR, ne_eq, wS_regionP, aAppend_slF, aAppend_slN, aSlice_fslL, aSlice_fslH, aSlice_fslB, aSlice_slL, aSlice_slH, aSlice_slB, words, Nat.reduceAdd, Nat.reduceEqDiff, Nat.reduceBEq, ↓reduceIte, reduceCtorEq, SX.exit.injEq, if_true, if_false, Int.reduceAdd, Int.reduceSub, Int.reduceMul, Int.reduceLT, Int.reduceLE, Int.reduceEq, Int.reduceNe, Int.reduceNeg, Int.reduceToNat, Nat.reduceMul, Nat.reduceLT, Nat.reduceSub, Nat.reduceLeDiff]
  generalize (1 + ((kd % 2 : Nat) : Int)) = kind at hkk
  have hM := MinimalN x hN hT kind hkk
  have hV := VerifyN x hN hT kind hkk
  have hpr := fun w (hw : w ∈ minN x kind) => minN_prop hT kind hw
  have hMl := minN_len hT kind
  have hK5 := tabC_five hT kind
  generalize tabC x kind = K at *
  generalize minN x kind = M at *
  have hE : ∀ w ∈ M, wErr w K = 0 := fun w hw => by
    obtain ⟨h1, h2, _⟩ := hpr w hw
    exact wErr_zero h1 fun y hy => by have := h2 y hy; unfold okT; omega
  have hll : ∀ w ∈ M, w.length ≤ 5 := fun w hw => by have := (hpr w hw).1; omega
  refine cp hM ?_
  simp (config := { maxSteps := 1000000 }) (disch := first | omega | exact PairsOK.mk rfl | (simp only [List.length_map, List.length_append, List.length_cons, List.length_nil, ints_len] <;> omega)) only [wordsN, Int.reduceGT, wordsR, ne_eq, wS_regionP, aAppend_slF, aAppend_slN, aSlice_fslL, aSlice_fslH, aSlice_fslB, aSlice_slL, aSlice_slH, aSlice_slB, words, Nat.reduceAdd, Nat.reduceEqDiff, Nat.reduceBEq, ↓reduceIte, reduceCtorEq, SX.exit.injEq, if_true, if_false, Int.reduceAdd, Int.reduceSub, Int.reduceMul, Int.reduceLT, Int.reduceLE, Int.reduceEq, Int.reduceNe, Int.reduceNeg, Int.reduceToNat, Nat.reduceMul, Nat.reduceLT, Nat.reduceSub, Nat.reduceLeDiff]
  have hV1 := hV M (by omega) (fun w hw => by have := hll w hw; omega)
  rw [show verR K M M = 0 by unfold verR; rw [if_pos (fstErr_zero hE), if_pos rfl]] at hV1
  refine ch (HSpec.lend (FrzL.same _) hV1 rfl) ?_
  by_cases h0 : M.length = 0
  · simp (config := { maxSteps := 1000000 }) (disch := first | omega | exact PairsOK.mk rfl | (simp only [List.length_map, List.length_append, List.length_cons, List.length_nil, ints_len] <;> omega)) only [h0, wordsN, Int.reduceGT, wordsR, ne_eq, wS_regionP, aAppend_slF, aAppend_slN, aSlice_fslL, aSlice_fslH, aSlice_fslB, aSlice_slL, aSlice_slH, aSlice_slB, words, Nat.reduceAdd, Nat.reduceEqDiff, Nat.reduceBEq, ↓reduceIte, reduceCtorEq, SX.exit.injEq, if_true, if_false, Int.reduceAdd, Int.reduceSub, Int.reduceMul, Int.reduceLT, Int.reduceLE, Int.reduceEq, Int.reduceNe, Int.reduceNeg, Int.reduceToNat, Nat.reduceMul, Nat.reduceLT, Nat.reduceSub, Nat.reduceLeDiff]
    exact ⟨.inr trivial, rfl⟩
  have h0' : ¬ (M.length : Int) = 0 := by omega
  obtain ⟨w0, M', hMe⟩ : ∃ w0 M', M = w0 :: M' := by cases M with | nil => exact absurd rfl h0 | cons a l => exact ⟨a, l, rfl⟩
  obtain ⟨q1, q2, q3, q4⟩ := hpr w0 (by rw [hMe]; simp)
  obtain ⟨c0, w1, hwe⟩ : ∃ c0 w1, w0 = c0 :: w1 := by cases w0 with | nil => simp at q4 | cons a l => exact ⟨a, l, rfl⟩
  have e1 : M.length = M'.length + 1 := by rw [hMe]; simp
  have e2 : w0.length = w1.length + 1 := by rw [hwe]; simp
  have e3 : M.length - 1 = M'.length := by omega
  have e4 : w0.length - 1 = w1.length := by omega
  have hdr : ((M.map sli).drop 1).take M'.length = M'.map sli := by rw [hMe]; exact List.take_of_length_le (by simp)
  have hdr2 : ((ints w0).drop 1).take w1.length = ints w1 := by rw [hwe]; exact List.take_of_length_le (by simp [ints])
  have hhd : (M.map sli).head? = some (sli w0) := by rw [hMe]; rfl
  have hM1 : (1 : Int) ≤ M.length := by omega
  have hM0 : (0 : Int) < M.length := by omega
  have hw1 : (1 : Int) ≤ w0.length := by omega
  have hfe : ∀ w ∈ M', wErr w K = 0 := fun w hw => hE w (by rw [hMe]; simp [hw])
  have hll' : ∀ w ∈ M', w.length ≤ 1000000 := fun w hw => by have := hll w (by rw [hMe]; simp [hw]); omega
  have hV2 := hV M' (by omega) hll'
  rw [show verR K M M' = 24 by
    unfold verR; rw [if_pos (fstErr_zero hfe), if_neg (fun e => by have := congrArg List.length e; omega)]] at hV2
  have hV3 := hV (w1 :: M') (by simp; omega) (fun w hw => by
    rcases List.mem_cons.1 hw with rfl | hw
    · omega
    · exact hll' w hw)
  rw [show verR K M (w1 :: M') = 4 by
    have : fstErr K (w1 :: M') = 4 := by rw [fstErr, wErr_size (by omega), if_neg (by decide)]
    unfold verR; rw [this, if_neg (by decide)]] at hV3
  have hones : (M'.map sli).all AV.one = true := by rw [List.all_map]; simp [AV.one]
  have hones0 : (ints w0).all AV.one = true := by rw [ints, List.all_map]; simp [AV.one]
  simp (config := { maxSteps := 1000000 }) (disch := first | omega | exact PairsOK.mk rfl | (simp only [List.length_map, List.length_append, List.length_cons, List.length_nil, ints_len] <;> omega)) only [h0', hM1, e3, hdr, wordsN, Int.reduceGT, wordsR, ne_eq, wS_regionP, aAppend_slF, aAppend_slN, aSlice_fslL, aSlice_fslH, aSlice_fslB, aSlice_slL, aSlice_slH, aSlice_slB, words, Nat.reduceAdd, Nat.reduceEqDiff, Nat.reduceBEq, ↓reduceIte, reduceCtorEq, SX.exit.injEq, if_true, if_false, Int.reduceAdd, Int.reduceSub, Int.reduceMul, Int.reduceLT, Int.reduceLE, Int.reduceEq, Int.reduceNe, Int.reduceNeg, Int.reduceToNat, Nat.reduceMul, Nat.reduceLT, Nat.reduceSub, Nat.reduceLeDiff]
  refine ch (HSpec.lend (FrzL.same _) hV2 rfl) ?_
  simp (config := { maxSteps := 1000000 }) (disch := first | omega | exact PairsOK.mk rfl | (simp only [List.length_map, List.length_append, List.length_cons, List.length_nil, ints_len] <;> omega)) only [hM0, hM1, hhd, hw1, e3, e4, hdr, hdr2, hones, wordsN, Int.reduceGT, wordsR, ne_eq, wS_regionP, aAppend_slF, aAppend_slN, aSlice_fslL, aSlice_fslH, aSlice_fslB, aSlice_slL, aSlice_slH, aSlice_slB, words, Nat.reduceAdd, Nat.reduceEqDiff, Nat.reduceBEq, ↓reduceIte, reduceCtorEq, SX.exit.injEq, if_true, if_false, Int.reduceAdd, Int.reduceSub, Int.reduceMul, Int.reduceLT, Int.reduceLE, Int.reduceEq, Int.reduceNe, Int.reduceNeg, Int.reduceToNat, Nat.reduceMul, Nat.reduceLT, Nat.reduceSub, Nat.reduceLeDiff]
  have hl3 : lsts (w1 :: M') = .fsl (sli w1 :: M'.map sli) (1 + M'.length) 1 := by simp [Nat.add_comm]
  rw [hl3] at hV3
  have hp : kd / 2 % w0.length < w0.length := Nat.mod_lt _ (by omega)
  refine ch (HSpec.lend (FrzL.cons (.same _) (FrzL.cons (.same _) (FrzL.cons (FrzTo.sl (cs := sli w1 :: M'.map sli) rfl (by simp; omega) (by rw [List.drop_zero, List.take_of_length_le (by simp; omega)]; exact FrzL.same _)) FrzL.nil))) hV3 rfl) ?_
  have htd : Int.tdiv (kd : Int) 2 = ((kd / 2 : Nat) : Int) := rfl
  have htm : Int.tmod ((kd / 2 : Nat) : Int) (w0.length : Int) = ((kd / 2 % w0.length : Nat) : Int) := rfl
  have hset : ∀ p : Nat, (ints w0).set p (.int .i64 b) = ints (w0.set p b) := fun p => by simp [ints, List.map_set]
  have hwE := wErr_set (b := b) (p := kd / 2 % w0.length) q1 (fun y hy => by have := q2 y hy; unfold okT; omega) (by omega)
  have hsl0 : ∀ p, (w0.set p b).length = w0.length := fun p => by simp
  generalize kd / 2 % w0.length = p at *
  have hp1 : p + 1 ≤ w0.length := hp
  simp (config := { maxSteps := 1000000 }) (disch := first | omega | exact PairsOK.mk rfl | (simp only [List.length_map, List.length_append, List.length_cons, List.length_nil, ints_len] <;> omega)) only [hM0, hM1, hhd, hw1, e3, e4, hdr, hdr2, hones, hones0, htd, htm, ints_len, hp1, hset, wordsN, Int.reduceGT, wordsR, ne_eq, wS_regionP, aAppend_slF, aAppend_slN, aSlice_fslL, aSlice_fslH, aSlice_fslB, aSlice_slL, aSlice_slH, aSlice_slB, words, Nat.reduceAdd, Nat.reduceEqDiff, Nat.reduceBEq, ↓reduceIte, reduceCtorEq, SX.exit.injEq, if_true, if_false, Int.reduceAdd, Int.reduceSub, Int.reduceMul, Int.reduceLT, Int.reduceLE, Int.reduceEq, Int.reduceNe, Int.reduceNeg, Int.reduceToNat, Nat.reduceMul, Nat.reduceLT, Nat.reduceSub, Nat.reduceLeDiff]
  refine cp (small b) ?_
  have hl4 : lsts (w0.set p b :: M') = .fsl (sli (w0.set p b) :: M'.map sli) (1 + M'.length) 1 := by simp [Nat.add_comm]
  have hV4 := hV (w0.set p b :: M') (by simp; omega) (fun w hw => by
    rcases List.mem_cons.1 hw with rfl | hw
    · simp; omega
    · exact hll' w hw)
  rw [hl4] at hV4
  have hfz : ∀ {h : Heap}, h.get 117 = some (.cells 1 (ints (w0.set p b))) → FrzTo h (.sl 117 1 0 w0.length 1) (sli (w0.set p b)) := fun hg => by
    have := FrzTo.sl (h := _) (b := 117) (g := 1) (off := 0) (len := w0.length) (sz := 1) hg (by rw [ints_len, hsl0]; omega) (FrzL.same _)
    rw [List.drop_zero, List.take_of_length_le (by rw [ints_len, hsl0]; omega)] at this
    show FrzTo _ _ (.fsl (ints (w0.set p b)) (w0.set p b).length 1)
    rw [hsl0]; exact this
  cases hbb : badW b with
  | true =>
    rw [hbb, if_pos rfl] at hwE
    rw [show verR K M (w0.set p b :: M') = 2 by
      have : fstErr K (w0.set p b :: M') = 2 := by rw [fstErr, hwE, if_neg (by decide)]
      unfold verR; rw [this, if_neg (by decide)]] at hV4
    simp (config := { maxSteps := 1000000 }) (disch := first | omega | exact PairsOK.mk rfl | (simp only [List.length_map, List.length_append, List.length_cons, List.length_nil, ints_len] <;> omega)) only [hM0, hM1, hhd, hw1, e3, e4, hdr, hones, wordsN, Int.reduceGT, wordsR, ne_eq, wS_regionP, aAppend_slF, aAppend_slN, aSlice_fslL, aSlice_fslH, aSlice_fslB, aSlice_slL, aSlice_slH, aSlice_slB, words, Nat.reduceAdd, Nat.reduceEqDiff, Nat.reduceBEq, ↓reduceIte, reduceCtorEq, SX.exit.injEq, if_true, if_false, Int.reduceAdd, Int.reduceSub, Int.reduceMul, Int.reduceLT, Int.reduceLE, Int.reduceEq, Int.reduceNe, Int.reduceNeg, Int.reduceToNat, Nat.reduceMul, Nat.reduceLT, Nat.reduceSub, Nat.reduceLeDiff]
    refine ch (HSpec.lend (FrzL.cons (.same _) (FrzL.cons (.same _) (FrzL.cons (FrzTo.sl (cs := .sl 117 1 0 w0.length 1 :: M'.map sli) rfl (by simp; omega) (by
      rw [List.drop_zero, List.take_of_length_le (by simp; omega)]; exact FrzL.cons (hfz rfl) (FrzL.same _))) FrzL.nil))) hV4 rfl) ?_
    simp (config := { maxSteps := 1000000 }) (disch := first | omega | exact PairsOK.mk rfl | (simp only [List.length_map, List.length_append, List.length_cons, List.length_nil, ints_len] <;> omega)) only [wordsN, Int.reduceGT, wordsR, ne_eq, wS_regionP, aAppend_slF, aAppend_slN, aSlice_fslL, aSlice_fslH, aSlice_fslB, aSlice_slL, aSlice_slH, aSlice_slB, words, Nat.reduceAdd, Nat.reduceEqDiff, Nat.reduceBEq, ↓reduceIte, reduceCtorEq, SX.exit.injEq, if_true, if_false, Int.reduceAdd, Int.reduceSub, Int.reduceMul, Int.reduceLT, Int.reduceLE, Int.reduceEq, Int.reduceNe, Int.reduceNeg, Int.reduceToNat, Nat.reduceMul, Nat.reduceLT, Nat.reduceSub, Nat.reduceLeDiff]
    exact ⟨.inr trivial, rfl⟩
  | false =>
    rw [hbb, if_neg (by decide)] at hwE
    have hf0 : fstErr K (w0.set p b :: M') = 0 := by
      rw [fstErr, if_pos hwE]; exact fstErr_zero hfe
    simp (config := { maxSteps := 1000000 }) (disch := first | omega | exact PairsOK.mk rfl | (simp only [List.length_map, List.length_append, List.length_cons, List.length_nil, ints_len] <;> omega)) only [hM0, hM1, hhd, hw1, e3, e4, hdr, hones, wordsN, Int.reduceGT, wordsR, ne_eq, wS_regionP, aAppend_slF, aAppend_slN, aSlice_fslL, aSlice_fslH, aSlice_fslB, aSlice_slL, aSlice_slH, aSlice_slB, words, Nat.reduceAdd, Nat.reduceEqDiff, Nat.reduceBEq, ↓reduceIte, reduceCtorEq, SX.exit.injEq, if_true, if_false, Int.reduceAdd, Int.reduceSub, Int.reduceMul, Int.reduceLT, Int.reduceLE, Int.reduceEq, Int.reduceNe, Int.reduceNeg, Int.reduceToNat, Nat.reduceMul, Nat.reduceLT, Nat.reduceSub, Nat.reduceLeDiff]
    refine ch (HSpec.lend (FrzL.cons (hfz rfl) (FrzL.cons (.same _) FrzL.nil)) (same (w0.set p b) w0 (by rw [hsl0]; omega)) rfl) ?_
    by_cases hsm0 : w0.set p b = w0
    · rw [show verR K M (w0.set p b :: M') = 0 by unfold verR; rw [if_pos hf0, if_pos (by rw [hMe, hsm0])]] at hV4
      simp (config := { maxSteps := 1000000 }) (disch := first | omega | exact PairsOK.mk rfl | (simp only [List.length_map, List.length_append, List.length_cons, List.length_nil, ints_len] <;> omega)) only [hM0, hM1, hhd, hw1, e3, e4, hdr, hones, hsm0, wordsN, Int.reduceGT, wordsR, ne_eq, wS_regionP, aAppend_slF, aAppend_slN, aSlice_fslL, aSlice_fslH, aSlice_fslB, aSlice_slL, aSlice_slH, aSlice_slB, words, Nat.reduceAdd, Nat.reduceEqDiff, Nat.reduceBEq, ↓reduceIte, reduceCtorEq, SX.exit.injEq, if_true, if_false, Int.reduceAdd, Int.reduceSub, Int.reduceMul, Int.reduceLT, Int.reduceLE, Int.reduceEq, Int.reduceNe, Int.reduceNeg, Int.reduceToNat, Nat.reduceMul, Nat.reduceLT, Nat.reduceSub, Nat.reduceLeDiff]
      rw [hsm0] at hfz hV4
      refine ch (HSpec.lend (FrzL.cons (.same _) (FrzL.cons (.same _) (FrzL.cons (FrzTo.sl (cs := .sl 117 1 0 w0.length 1 :: M'.map sli) rfl (by simp; omega) (by
        rw [List.drop_zero, List.take_of_length_le (by simp; omega)]; exact FrzL.cons (hfz rfl) (FrzL.same _))) FrzL.nil))) hV4 rfl) ?_
      simp (config := { maxSteps := 1000000 }) (disch := first | omega | exact PairsOK.mk rfl | (simp only [List.length_map, List.length_append, List.length_cons, List.length_nil, ints_len] <;> omega)) only [wordsN, Int.reduceGT, wordsR, ne_eq, wS_regionP, aAppend_slF, aAppend_slN, aSlice_fslL, aSlice_fslH, aSlice_fslB, aSlice_slL, aSlice_slH, aSlice_slB, words, Nat.reduceAdd, Nat.reduceEqDiff, Nat.reduceBEq, ↓reduceIte, reduceCtorEq, SX.exit.injEq, if_true, if_false, Int.reduceAdd, Int.reduceSub, Int.reduceMul, Int.reduceLT, Int.reduceLE, Int.reduceEq, Int.reduceNe, Int.reduceNeg, Int.reduceToNat, Nat.reduceMul, Nat.reduceLT, Nat.reduceSub, Nat.reduceLeDiff]
      exact ⟨.inr trivial, rfl⟩
    · rw [show verR K M (w0.set p b :: M') = 24 by unfold verR; rw [if_pos hf0, if_neg (by rw [hMe]; simp [hsm0])]] at hV4
      simp (config := { maxSteps := 1000000 }) (disch := first | omega | exact PairsOK.mk rfl | (simp only [List.length_map, List.length_append, List.length_cons, List.length_nil, ints_len] <;> omega)) only [hM0, hM1, hhd, hw1, e3, e4, hdr, hones, hsm0, wordsN, Int.reduceGT, wordsR, ne_eq, wS_regionP, aAppend_slF, aAppend_slN, aSlice_fslL, aSlice_fslH, aSlice_fslB, aSlice_slL, aSlice_slH, aSlice_slB, words, Nat.reduceAdd, Nat.reduceEqDiff, Nat.reduceBEq, ↓reduceIte, reduceCtorEq, SX.exit.injEq, if_true, if_false, Int.reduceAdd, Int.reduceSub, Int.reduceMul, Int.reduceLT, Int.reduceLE, Int.reduceEq, Int.reduceNe, Int.reduceNeg, Int.reduceToNat, Nat.reduceMul, Nat.reduceLT, Nat.reduceSub, Nat.reduceLeDiff]
      refine ch (HSpec.lend (FrzL.cons (.same _) (FrzL.cons (.same _) (FrzL.cons (FrzTo.sl (cs := .sl 117 1 0 w0.length 1 :: M'.map sli) rfl (by simp; omega) (by
        rw [List.drop_zero, List.take_of_length_le (by simp; omega)]; exact FrzL.cons (hfz rfl) (FrzL.same _))) FrzL.nil))) hV4 rfl) ?_
      simp (config := { maxSteps := 1000000 }) (disch := first | omega | exact PairsOK.mk rfl | (simp only [List.length_map, List.length_append, List.length_cons, List.length_nil, ints_len] <;> omega)) only [wordsN, Int.reduceGT, wordsR, ne_eq, wS_regionP, aAppend_slF, aAppend_slN, aSlice_fslL, aSlice_fslH, aSlice_fslB, aSlice_slL, aSlice_slH, aSlice_slB, words, Nat.reduceAdd, Nat.reduceEqDiff, Nat.reduceBEq, ↓reduceIte, reduceCtorEq, SX.exit.injEq, if_true, if_false, Int.reduceAdd, Int.reduceSub, Int.reduceMul, Int.reduceLT, Int.reduceLE, Int.reduceEq, Int.reduceNe, Int.reduceNeg, Int.reduceToNat, Nat.reduceMul, Nat.reduceLT, Nat.reduceSub, Nat.reduceLeDiff]
      exact ⟨.inr trivial, rfl⟩
theorem law9_in (d0 : tySm.D) (d1 : (Ty.int .u8).D) (d2 : (Ty.int .i64).D) (h0 : tySm.wf d0) (h1 : (Ty.int .u8).wf d1) (h2 : (Ty.int .i64).wf d2) :
    W2 Try.prog ⟨SW.s9.n, 0⟩ SW.s9.body (fun e B => (e = .normal ∨ e = .ret) ∧ resV B.T B.h SW.s9.res = some [.bool true]) ⟨argT 0 [tySm.val d0, (Ty.int .u8).val d1, (Ty.int .i64).val d2], .e⟩ := by
  obtain ⟨s, hs, e0⟩ := sm_in h0
  have hk := u8_wf h1
  rw [e0, show (Ty.int .u8).val d1 = .int .u8 ((Int.toNat d1 : Nat) : Int) by rw [Int.toNat_of_nonneg hk.1]; rfl]
  exact law9 s hs (Int.toNat d1) (by omega) d2
end Go.AM.SN
