/- The abstract machine, part K: slim code, the check that it is the given code, and the rules by which it is walked. -/
import Derived.Test.YteaeobmbfhaklaaAmJ
set_option linter.unusedSimpArgs false
set_option linter.unusedVariables false
namespace Go.AM
variable {P : Program}

/-! ### regions -/
theorem inorder_sound {N base : Nat} {ops : Array Oper} {sops : List SOper} {fpf : Nat → FP} (F : Fits P N ops sops) {Q : Exit → Act → World → Prop} {C : St} {c0 : Ctx} {w0 : World}
    (hQ : ∀ c a w, SRel N c C a w → Evo c0 w0 c w → Q .normal a w) :
    ∀ (l : List Nat) (A : St) (c : Ctx) (a : Act) (w : World), RunL P base sops fpf l A C → SRel N c A a w → Evo c0 w0 c w → wpOps P ops Q l a w
  | [], A, c, a, w, hr, hS, hE => by cases hr; exact hQ c a w hS hE
  | i :: l, A, c, a, w, hr, hS, hE => by
    obtain ⟨B, ⟨s, v, h1, hs, hv, rfl⟩, hr⟩ := hr
    rw [wpOps_cons]
    cases ho : ops[i]? with
    | none =>
      exfalso
      have h1 : ops.size ≤ i := by
        rcases Nat.lt_or_ge i ops.size with h | h
        · rw [Array.getElem?_eq_getElem h] at ho; cases ho
        · exact h
      have h2 : i < sops.length := (List.getElem?_eq_some_iff.1 hs).1
      have := F.size
      omega
    | some o =>
      obtain ⟨s', hs', hok⟩ := F.ok i o ho
      rw [hs] at hs'; cases hs'
      exact step_sound hS ho hok hv fun c' a' w' hS' hE' => inorder_sound F hQ l _ c' a' w' hr hS' (hE.trans hE')

/-- The masks of what must be done before each operation. -/
def maskOf (acc : List Nat) (s : SOper) : Nat := s.after.foldl (fun m e => m ||| 2 ^ e ||| acc.getD e 0) 0

def masksFrom (acc : List Nat) : List SOper → List Nat
  | [] => acc
  | s :: r => masksFrom (acc ++ [maskOf acc s]) r

theorem testBit_fold (acc : List Nat) : ∀ (l : List Nat) (m k : Nat), (l.foldl (fun m e => m ||| 2 ^ e ||| acc.getD e 0) m).testBit k = true → m.testBit k = true ∨ ∃ e ∈ l, k = e ∨ (acc.getD e 0).testBit k = true
  | [], m, k, h => .inl h
  | e :: l, m, k, h => by
    simp only [List.foldl_cons] at h
    rcases testBit_fold acc l _ k h with h1 | ⟨e', he', h1⟩
    · rw [Nat.testBit_or, Nat.testBit_or, Nat.testBit_two_pow] at h1
      simp only [Bool.or_eq_true, decide_eq_true_eq] at h1
      rcases h1 with (h1 | h1) | h1
      · exact .inl h1
      · exact .inr ⟨e, by simp, .inl h1.symm⟩
      · exact .inr ⟨e, by simp, .inr h1⟩
    · exact .inr ⟨e', by simp [he'], h1⟩

theorem masks_sound {sops : List SOper} : ∀ (r pre : List SOper) (acc : List Nat), sops = pre ++ r → acc.length = pre.length → (∀ j k, (acc.getD j 0).testBit k = true → Bef sops k j) →
    ∀ j k, ((masksFrom acc r).getD j 0).testBit k = true → Bef sops k j
  | [], pre, acc, _, _, h => h
  | s :: r, pre, acc, hs, hl, h => by
    refine masks_sound r (pre ++ [s]) _ (by simp [hs]) (by simp [hl]) ?_
    intro j k hb
    by_cases hj : j < acc.length
    · simp only [List.getD_eq_getElem?_getD, List.getElem?_append_left hj] at hb
      exact h j k (by simpa [List.getD_eq_getElem?_getD] using hb)
    · by_cases hj2 : j = acc.length
      · subst hj2
        have e : (acc ++ [maskOf acc s]).getD acc.length 0 = maskOf acc s := by simp
        rw [e] at hb
        have hget : sops[acc.length]? = some s := by rw [hs, hl]; simp
        rcases testBit_fold acc s.after 0 k hb with h1 | ⟨e', he', h1⟩
        · simp at h1
        · rcases h1 with rfl | h1
          · exact .one hget he'
          · exact .more hget he' (h e' k h1)
      · have : (acc ++ [maskOf acc s]).getD j 0 = 0 := by
          rw [List.getD_eq_getElem?_getD, List.getElem?_eq_none (by simp; omega)]; rfl
        rw [this] at hb
        simp at hb

/-! ### what was touched is there: new blocks are apart from what was read or made before -/
theorem HM.run_mono {α : Type} (m : HM α) : ∀ (h : Heap) (a : α) (h1 : Heap), m.run h = some (a, h1) → ∀ b, h.get b ≠ none → h1.get b ≠ none := by
  induction m with
  | ret x => intro h a h1 hm b hb; simp only [HM.run, Option.some.injEq, Prod.mk.injEq] at hm; obtain ⟨rfl, rfl⟩ := hm; exact hb
  | fail => intro h a h1 hm; simp [HM.run] at hm
  | look b k ih => intro h a h1 hm; exact ih _ h a h1 hm
  | put b x k ih =>
    intro h a h1 hm b' hb
    obtain ⟨hl, hm⟩ := run_put hm
    refine ih _ a h1 hm b' ?_
    rw [Tr.get_set _ hl]
    split
    · simp
    · exact hb

/-- No call that works on the caller's blocks. -/
def SOp.still : SOp → Bool
  | .call .heap _ _ => false
  | _ => true

theorem StepX.mono {P : Program} {i : Nat} {s : SOp} {T : Tmps} {h : Heap} {v : AV} {h1 : Heap} {fp : FP} (hs : StepX P i s T h v h1 fp) (hc : s.still = true) {b : Nat} (hb : h.get b ≠ none) : h1.get b ≠ none := by
  obtain ⟨out, h2, hm, ho⟩ := hs
  have h2b := HM.run_mono _ h out h2 hm b hb
  cases out with
  | val u => obtain ⟨_, rfl, _⟩ := ho; exact h2b
  | call m f args =>
    cases m with
    | pure => obtain ⟨_, rfl, _⟩ := ho; exact h2b
    | borrow => obtain ⟨_, _, rfl, _⟩ := ho; exact h2b
    | heap =>
      cases s with
      | call m x as =>
        exfalso
        simp only [aop, aCall] at hm
        split at hm
        · cases m with
          | heap => cases hc
          | pure => simp only [HM.run, Option.some.injEq, Prod.mk.injEq] at hm; cases hm.1
          | borrow =>
            obtain ⟨as', h3, k1, k2⟩ := run_bind hm
            simp only [HM.run, Option.some.injEq, Prod.mk.injEq] at k2
            cases k2.1
        · simp [HM.run] at hm
      | _ =>
        exfalso
        first
          | (obtain ⟨u, hu, he⟩ := run_lift hm; cases he)
          | (obtain ⟨u, h3, hu, he⟩ := run_hval hm; cases he)
          | (simp [aop, HM.run] at hm)

theorem StepV.mono {P : Program} {i : Nat} {s : SOper} {T : Tmps} {h : Heap} {v : AV} {h1 : Heap} {fp : FP} (hs : StepV P i s T h v h1 fp) (hc : s.op.still = true) {b : Nat} (hb : h.get b ≠ none) : h1.get b ≠ none := by
  unfold StepV at hs
  split at hs
  · exact hs.mono hc hb
  · obtain ⟨t, _, hs⟩ := hs
    split at hs
    · exact StepX.mono hs hc hb
    · obtain ⟨_, rfl, _⟩ := hs; exact hb

/-- Makes a block of its own number. -/
def SOp.fresh : SOp → Bool
  | .alloc .dyn _ => true
  | .box .dyn _ => true
  | .bslice false .dyn _ _ _ _ => true
  | .mkslice .dyn _ _ _ _ _ => true
  | .mkmap .dyn => true
  | _ => false
/-- Reads blocks that are there. -/
def SOp.sees : SOp → Bool
  | .load _ _ => true
  | .len _ _ => true
  | _ => false

/-- A footprint of one new block. -/
def newFP (i : Nat) (h h1 : Heap) (fp : FP) : Prop := fp.all = false ∧ (∀ b, b ∈ fp.R ∨ b ∈ fp.W → b = i ∧ h.get i = none ∧ h1.get i ≠ none)

theorem new_dyn {i : Nat} {x : Nat → Blk} {r : Nat → Nat → AV} {h : Heap} {v : AV} {h1 : Heap} (hm : (HM.new .dyn i x fun b g => .ret (r b g)).run h = some (v, h1)) :
    newFP i h h1 (fpOf ((hval (HM.new .dyn i x fun b g => .ret (r b g))).fp h)) := by
  unfold HM.new at hm ⊢
  simp only [HM.run] at hm
  simp only [hval, HM.bind, HM.fp]
  cases hn : h.get i with
  | some z => rw [hn] at hm; simp [HM.run] at hm
  | none =>
    rw [hn] at hm
    obtain ⟨hl, hm⟩ := run_put hm
    simp only [HM.run, Option.some.injEq, Prod.mk.injEq] at hm
    obtain ⟨rfl, rfl⟩ := hm
    refine ⟨rfl, fun b hb => ?_⟩
    simp only [fpOf, HM.bind, HM.fp, List.mem_singleton, or_self, List.mem_cons, List.not_mem_nil, or_false] at hb
    refine ⟨hb, hn, ?_⟩
    rw [Tr.get_set _ hl]; simp

theorem newFP_nil {i : Nat} {h h1 : Heap} : newFP i h h1 (fpOf ([], [])) := ⟨rfl, fun b hb => by simp [fpOf] at hb⟩

theorem StepX.fresh {P : Program} {i : Nat} {s : SOp} {T : Tmps} {h : Heap} {v : AV} {h1 : Heap} {fp : FP} (hs : StepX P i s T h v h1 fp) (hc : s.fresh = true) : newFP i h h1 fp := by
  obtain ⟨out, h2, hm, ho⟩ := hs
  have key : ∀ m : HM AV, aop i T s = hval m → (∀ v h1, m.run h = some (v, h1) → newFP i h h1 (fpOf ((hval m).fp h))) → newFP i h h1 fp := by
    intro m e hk
    rw [e] at hm
    obtain ⟨u, h3, hu, he⟩ := run_hval hm
    cases he
    obtain ⟨rfl, rfl, rfl⟩ := ho
    rw [e]
    exact hk _ _ hu
  cases s <;> try (cases hc; done)
  · rename_i s z
    cases s <;> try (cases hc; done)
    refine key _ rfl fun v h1 hm => ?_
    unfold aBox at hm ⊢
    split at hm
    · rename_i hb; rw [if_pos hb]; exact new_dyn hm
    · simp [HM.run] at hm
  · rename_i s z
    cases s <;> try (cases hc; done)
    refine key _ rfl fun v h1 hm => ?_
    unfold aBox at hm ⊢
    split at hm
    · rename_i hb; rw [if_pos hb]; exact new_dyn hm
    · simp [HM.run] at hm
  · rename_i fz s sz len z ps
    cases fz <;> try (cases hc; done)
    cases s <;> try (cases hc; done)
    refine key _ rfl fun v h1 hm => ?_
    unfold aBuildSlice at hm ⊢
    split at hm
    · rename_i cs hf
      split at hm
      · rename_i hb
        rw [if_pos hb]
        simp only [Bool.false_eq_true, if_false] at hm ⊢
        exact new_dyn hm
      · simp [HM.run] at hm
    · simp [HM.run] at hm
  · rename_i s
    cases s <;> try (cases hc; done)
    refine key _ rfl fun v h1 hm => ?_
    unfold aMakeMap at hm ⊢
    exact new_dyn hm
  · rename_i s sz b z l c
    cases s <;> try (cases hc; done)
    refine key _ rfl fun v h1 hm => ?_
    unfold aMakeSlice at hm ⊢
    split at hm
    · split at hm
      · rename_i hb; simp only [if_pos hb]; exact new_dyn hm
      · simp [HM.run] at hm
    · simp [HM.run] at hm

theorem StepV.fresh {P : Program} {i : Nat} {s : SOper} {T : Tmps} {h : Heap} {v : AV} {h1 : Heap} {fp : FP} (hs : StepV P i s T h v h1 fp) (hc : s.op.fresh = true) : newFP i h h1 fp := by
  unfold StepV at hs
  split at hs
  · exact hs.fresh hc
  · obtain ⟨t, _, hs⟩ := hs
    split at hs
    · exact StepX.fresh hs hc
    · obtain ⟨_, rfl, rfl⟩ := hs; exact newFP_nil

/-- Whatever it looks at must be there. -/
def HM.seer {α : Type} : HM α → Prop
  | .ret _ => True
  | .fail => True
  | .look _ k => k none = .fail ∧ ∀ x, (k x).seer
  | .put _ _ _ => False

theorem HM.seer_fp {α : Type} (m : HM α) : m.seer → ∀ h a h1, m.run h = some (a, h1) → (m.fp h).2 = [] ∧ ∀ b ∈ (m.fp h).1, h.get b ≠ none := by
  induction m with
  | ret a => intro _ h a h1 _; exact ⟨rfl, fun b hb => by simp [HM.fp] at hb⟩
  | fail => intro _ h a h1 hm; simp [HM.run] at hm
  | look b k ih =>
    rintro ⟨hn, hr⟩ h a h1 hm
    simp only [HM.run] at hm
    obtain ⟨k1, k2⟩ := ih _ (hr _) h a h1 hm
    refine ⟨k1, fun b' hb' => ?_⟩
    simp only [HM.fp, List.mem_cons] at hb'
    rcases hb' with rfl | hb'
    · intro hnone; rw [hnone, hn] at hm; simp [HM.run] at hm
    · exact k2 b' hb'
  | put b x k ih => intro hr; exact hr.elim

theorem HM.seer_bind {α β : Type} {m : HM α} {f : α → HM β} (h1 : m.seer) (h2 : ∀ a, (f a).seer) : (m.bind f).seer := by
  induction m with
  | ret a => exact h2 a
  | fail => trivial
  | look b k ih => exact ⟨by simp only [h1.1]; rfl, fun x => ih x (h1.2 x)⟩
  | put b x k ih => exact h1.elim

theorem HM.seer_opt {α : Type} (o : Option α) : (HM.opt o).seer := by cases o <;> trivial
theorem HM.seer_cells {α : Type} {b g : Nat} {k : List AV → HM α} (hk : ∀ cs, (k cs).seer) : (HM.cells b g k).seer := by
  refine ⟨rfl, fun x => ?_⟩
  match x with
  | some (.cells g' cs) =>
    simp only
    cases Nat.beq g' g <;> first | exact trivial | exact hk cs
  | some (.map _ _) => trivial
  | some (.dead _) => trivial
  | none => trivial

theorem seer_load (n : Option Nat) (x : AV) : (aLoad n x).seer := by
  unfold aLoad
  split
  · refine HM.seer_cells fun cs => ?_
    split
    · exact HM.seer_opt _
    · split <;> trivial
  · split
    · exact HM.seer_opt _
    · split <;> trivial
  · trivial
theorem seer_len (k : Nat) (x : AV) : (aLenC k x).seer := by
  unfold aLenC
  split
  · unfold aLen
    split <;> try trivial
    refine ⟨rfl, fun y => ?_⟩
    match y with
    | some (.map g' es) =>
      simp only
      rename_i b g _
      cases Nat.beq g' g <;> trivial
    | some (.cells _ _) => trivial
    | some (.dead _) => trivial
    | none => trivial
  · trivial

theorem StepV.sees {P : Program} {i : Nat} {s : SOper} {T : Tmps} {h : Heap} {v : AV} {h1 : Heap} {fp : FP} (hs : StepV P i s T h v h1 fp) (hc : s.op.sees = true) : fp.all = false ∧ fp.W = [] ∧ ∀ b ∈ fp.R, h.get b ≠ none := by
  have key : ∀ {s : SOp}, s.sees = true → StepX P i s T h v h1 fp → fp.all = false ∧ fp.W = [] ∧ ∀ b ∈ fp.R, h.get b ≠ none := by
    intro s hc hs
    obtain ⟨out, h2, hm, ho⟩ := hs
    have fin : ∀ m : HM AV, m.seer → aop i T s = hval m → fp.all = false ∧ fp.W = [] ∧ ∀ b ∈ fp.R, h.get b ≠ none := by
      intro m hsm e
      have hs2 : (hval m).seer := HM.seer_bind hsm fun _ => trivial
      rw [e] at hm
      have h3 := HM.seer_fp _ hs2 h _ _ hm
      obtain ⟨u, h4, hu, he⟩ := run_hval hm
      cases he
      obtain ⟨rfl, rfl, rfl⟩ := ho
      rw [e]
      exact ⟨rfl, h3.1, h3.2⟩
    cases s <;> try (cases hc; done)
    · exact fin _ (seer_load _ _) rfl
    · exact fin _ (seer_len _ _) rfl
  unfold StepV at hs
  split at hs
  · exact key hc hs
  · obtain ⟨t, _, hs⟩ := hs
    split at hs
    · exact key hc hs
    · obtain ⟨_, rfl, rfl⟩ := hs; exact ⟨rfl, rfl, fun b hb => by cases hb⟩

/-- An operation and a later new block have nothing in common. -/
theorem apart_new {P : Program} {bi bj : Nat} {s t : SOper} {A B : St} {v u : AV} {h1 h2 : Heap} {fs ft : FP} (hs : StepV P bi s A.T A.h v h1 fs) (ht : StepV P bj t B.T B.h u h2 ft)
    (hc : s.op.sees = true ∨ s.op.fresh = true) (hf : t.op.fresh = true) (hst : s.op.still = true) (hm : ∀ b, h1.get b ≠ none → B.h.get b ≠ none) : fs.apart ft = true := by
  obtain ⟨f1, f2⟩ := ht.fresh hf
  have key : fs.all = false ∧ ∀ b, b ∈ fs.R ∨ b ∈ fs.W → B.h.get b ≠ none := by
    rcases hc with h | h
    · obtain ⟨k1, k2, k3⟩ := hs.sees h
      refine ⟨k1, fun b hb => hm b (hs.mono hst ?_)⟩
      rcases hb with hb | hb
      · exact k3 b hb
      · rw [k2] at hb; cases hb
    · obtain ⟨k1, k2⟩ := hs.fresh h
      refine ⟨k1, fun b hb => hm b ?_⟩
      obtain ⟨rfl, _, k3⟩ := k2 b hb
      exact k3
  obtain ⟨k1, k2⟩ := key
  have dj : ∀ xs ys : List Nat, (∀ b ∈ xs, ∀ c ∈ ys, b ≠ c) → disj xs ys = true := by
    intro xs ys hh
    unfold disj
    rw [List.all_eq_true]
    intro x hx
    simp only [Bool.not_eq_true', List.contains_eq_mem, decide_eq_false_iff_not]
    intro hy
    exact hh x hx x hy rfl
  unfold FP.apart
  rw [k1, f1]
  simp only [Bool.and_eq_true]
  refine ⟨⟨dj _ _ ?_, dj _ _ ?_⟩, dj _ _ ?_⟩
  · rintro b hb c hc' rfl
    obtain ⟨rfl, hn, _⟩ := f2 b (.inl hc')
    exact k2 _ (.inr hb) hn
  · rintro b hb c hc' rfl
    obtain ⟨rfl, hn, _⟩ := f2 b (.inr hc')
    exact k2 _ (.inr hb) hn
  · rintro b hb c hc' rfl
    obtain ⟨rfl, hn, _⟩ := f2 b (.inr hb)
    exact k2 _ (.inl hc') hn


def pairOK (sops : List SOper) (pairs : List (Nat × Nat)) (k j : Nat) : Bool :=
  match sops[k]?, sops[j]? with
  | some s, some t => s.apart t && (Nat.beq s.op.cls 0 || Nat.beq t.op.cls 0 || (Nat.ble s.op.cls 1 && Nat.ble t.op.cls 1) || pairs.contains (k, j) || ((s.op.sees || s.op.fresh) && t.op.fresh && sops.all fun s => s.op.still))
  | _, _ => false

def freeB (sops : List SOper) (pairs : List (Nat × Nat)) : Bool :=
  let ms := masksFrom [] sops
  (List.range sops.length).all fun j =>
    (match sops[j]? with | some s => s.after.all fun k => Nat.blt k j | none => false) &&
    (List.range j).all fun k => (ms.getD j 0).testBit k || pairOK sops pairs k j

theorem apart_cls {P : Program} {bi bj : Nat} {s t : SOper} {A B : St} {v u : AV} {h1 h2 : Heap} {fs ft : FP} (hs : StepV P bi s A.T A.h v h1 fs) (ht : StepV P bj t B.T B.h u h2 ft)
    (hc : s.op.cls = 0 ∨ t.op.cls = 0 ∨ (s.op.cls ≤ 1 ∧ t.op.cls ≤ 1)) : fs.apart ft = true := by
  rcases hc with h | h | ⟨h, h'⟩
  · obtain ⟨a1, a2, a3⟩ := hs.cls (by omega)
    have a3 := a3 h
    unfold FP.apart
    rw [a1]
    cases ha : ft.all <;> simp [a2, a3, disj]
  · obtain ⟨a1, a2, a3⟩ := ht.cls (by omega)
    have a3 := a3 h
    unfold FP.apart
    rw [a1]
    cases ha : fs.all <;> simp [a2, a3, disj]
  · obtain ⟨a1, a2, _⟩ := hs.cls h
    obtain ⟨b1, b2, _⟩ := ht.cls h'
    unfold FP.apart
    rw [a1, b1]
    simp [a2, b2, disj]

/-- Every operation's footprint along a run in the order of the text. -/
theorem RunL.each {base : Nat} {sops : List SOper} {fpf : Nat → FP} : ∀ {l : List Nat} {A C : St}, RunL P base sops fpf l A C → ∀ i ∈ l, ∃ (s : SOper) (B : St) (v : AV) (h1 : Heap), sops[i]? = some s ∧ StepV P (base + i) s B.T B.h v h1 (fpf i)
  | [], A, C, _, i, hi => by simp at hi
  | j :: l, A, C, hr, i, hi => by
    obtain ⟨B, ⟨s, v, h1, hs, hv, rfl⟩, hr⟩ := hr
    rcases List.mem_cons.1 hi with h | h
    · subst h; exact ⟨s, A, v, h1, hs, hv⟩
    · exact hr.each i h

theorem RunL.grow {base : Nat} {sops : List SOper} {fpf : Nat → FP} (hst : (sops.all fun s => s.op.still) = true) : ∀ {l : List Nat} {A C : St}, RunL P base sops fpf l A C → ∀ i ∈ l, ∃ (s : SOper) (B : St) (v : AV) (h1 : Heap), sops[i]? = some s ∧ StepV P (base + i) s B.T B.h v h1 (fpf i) ∧ ∀ b, A.h.get b ≠ none → B.h.get b ≠ none
  | [], A, C, _, i, hi => by simp at hi
  | j :: l, A, C, hr, i, hi => by
    obtain ⟨B, ⟨s, v, h1, hs, hv, rfl⟩, hr⟩ := hr
    rcases List.mem_cons.1 hi with h | h
    · subst h; exact ⟨s, A, v, h1, hs, hv, fun _ hb => hb⟩
    · obtain ⟨t, D, u, h2, e, ht, hm⟩ := hr.grow hst i h
      exact ⟨t, D, u, h2, e, ht, fun b hb => hm b (hv.mono (List.all_eq_true.1 hst s (List.mem_of_getElem? hs)) hb)⟩

/-- Two operations along a run: what is there behind the first is there ahead of the second. -/
theorem RunL.two {base : Nat} {sops : List SOper} {fpf : Nat → FP} (hst : (sops.all fun s => s.op.still) = true) : ∀ {l1 l2 : List Nat} {A C : St} {k : Nat}, RunL P base sops fpf (l1 ++ k :: l2) A C → ∀ i ∈ l2,
    ∃ (s t : SOper) (B D : St) (v u : AV) (h1 h2 : Heap), sops[k]? = some s ∧ sops[i]? = some t ∧ StepV P (base + k) s B.T B.h v h1 (fpf k) ∧ StepV P (base + i) t D.T D.h u h2 (fpf i) ∧ ∀ b, h1.get b ≠ none → D.h.get b ≠ none
  | [], l2, A, C, k, hr, i, hi => by
    obtain ⟨B, ⟨s, v, h1, hs, hv, rfl⟩, hr⟩ := hr
    obtain ⟨t, D, u, h2, e, ht, hm⟩ := hr.grow hst i hi
    exact ⟨s, t, A, D, v, u, h1, h2, hs, e, hv, ht, hm⟩
  | _ :: l1, l2, A, C, k, hr, i, hi => by
    obtain ⟨B, _, hr⟩ := hr
    exact RunL.two hst hr i hi

theorem range_split2 {n k : Nat} (hk : k < n) : List.range n = List.range k ++ k :: List.range' (k + 1) (n - k - 1) := by
  have h1 : n = k + (1 + (n - k - 1)) := by omega
  conv => lhs; rw [h1, List.range_eq_range']
  rw [← List.range'_append_1, List.range_eq_range']
  simp [Nat.add_comm 1, List.range'_succ]

theorem free_of {base : Nat} {sops : List SOper} {pairs : List (Nat × Nat)} {fpf : Nat → FP} {A C : St} (hb : freeB sops pairs = true) (hr : RunL P base sops fpf (List.range sops.length) A C)
    (hp : ∀ p ∈ pairs, (fpf p.1).apart (fpf p.2) = true) : Free sops fpf := by
  unfold freeB at hb
  simp only [List.all_eq_true, List.mem_range, Bool.and_eq_true, Bool.or_eq_true] at hb
  refine ⟨?_, ?_⟩
  · intro j s hs k hk
    have hlt : j < sops.length := (List.getElem?_eq_some_iff.1 hs).1
    have := (hb j hlt).1
    rw [hs] at this
    simp only [List.all_eq_true] at this
    have := this k hk
    simp [Nat.blt] at this; omega
  · intro k i hki hi
    rcases (hb i hi).2 k hki with h | h
    · exact .inl (masks_sound (sops := sops) sops [] [] (by simp) rfl (by simp) i k h)
    · right
      intro s t hs ht
      unfold pairOK at h
      rw [hs, ht] at h
      simp only [Bool.and_eq_true, Bool.or_eq_true] at h
      refine ⟨h.1, ?_⟩
      obtain ⟨s', B1, v1, h1, e1, hv1⟩ := hr.each k (by simp; omega)
      obtain ⟨t', B2, v2, h2, e2, hv2⟩ := hr.each i (by simp; omega)
      rw [hs] at e1; cases e1
      rw [ht] at e2; cases e2
      rcases h.2 with (((h | h) | h) | h) | h
      · exact apart_cls hv1 hv2 (.inl (by simpa using h))
      · exact apart_cls hv1 hv2 (.inr (.inl (by simpa using h)))
      · refine apart_cls hv1 hv2 (.inr (.inr ?_))
        exact ⟨Nat.le_of_ble_eq_true h.1, Nat.le_of_ble_eq_true h.2⟩
      · exact hp (k, i) (by simpa using h)
      · obtain ⟨⟨c1, c2⟩, c3⟩ := h
        have hst : (sops.all fun s => s.op.still) = true := c3
        rw [range_split2 (show k < sops.length by omega)] at hr
        obtain ⟨s', t', B1, B2, u1, u2, g1, g2, e1, e2, q1, q2, hm⟩ := hr.two hst i (by rw [List.mem_range'_1]; omega)
        rw [hs] at e1; cases e1
        rw [ht] at e2; cases e2
        exact apart_new q1 q2 c1 c2 (List.all_eq_true.1 hst s (List.mem_of_getElem? hs)) hm

def okOpers (P : Program) (N : Nat) (ops : Array Oper) : List Oper → List SOper → Bool
  | [], [] => true
  | o :: os, s :: ss => okOper P N ops o s && okOpers P N ops os ss
  | _, _ => false

theorem okOpers_get {N : Nat} {ops : Array Oper} : ∀ {os : List Oper} {ss : List SOper}, okOpers P N ops os ss = true → os.length = ss.length ∧ ∀ (i : Nat) (o : Oper), os[i]? = some o → ∃ s, ss[i]? = some s ∧ okOper P N ops o s = true
  | [], [], _ => ⟨rfl, fun i o h => by simp at h⟩
  | [], _ :: _, h => by simp [okOpers] at h
  | _ :: _, [], h => by simp [okOpers] at h
  | o :: os, s :: ss, h => by
    simp only [okOpers, Bool.and_eq_true] at h
    obtain ⟨h1, h2⟩ := okOpers_get h.2
    refine ⟨by simp [h1], fun i o' ho => ?_⟩
    cases i with
    | zero => simp at ho; subst ho; exact ⟨s, by simp, h.1⟩
    | succ i => simpa using h2 i o' (by simpa using ho)

theorem fits_of {N : Nat} {ops : Array Oper} {sops : List SOper} (h : okOpers P N ops ops.toList sops = true) : Fits P N ops sops := by
  obtain ⟨h1, h2⟩ := okOpers_get h
  exact ⟨by simpa using h1, fun i o ho => h2 i o (by rw [Array.getElem?_toList]; exact ho)⟩

def okRegion (P : Program) (N : Nat) (ops : Array Oper) (draw : Bool) (sops : List SOper) (pairs : List (Nat × Nat)) : Bool :=
  okOpers P N ops ops.toList sops && (!draw || (P.follows .mixedOrders && freeB sops pairs))

theorem replicate_getD (n j : Nat) (d : Bool) : (Array.replicate n false).getD j d = if j < n then false else d := by
  by_cases h : j < n
  · simp [h]
  · simp [h]

theorem rest_all (n m : Nat) (h : n ≤ m) : rest n (Array.replicate m false) = List.range n := by
  unfold rest
  apply List.filter_eq_self.2
  intro i hi
  rw [replicate_getD, if_pos (by simp at hi; omega)]
  rfl

theorem region_sound {N base id : Nat} {ops : Array Oper} {draw : Bool} {sops : List SOper} {pairs : List (Nat × Nat)} {fpf : Nat → FP} {A C : St} {c : Ctx} {a : Act} {w : World} {Q : Exit → Act → World → Prop}
    (hok : okRegion P N ops draw sops pairs = true) (hr : RunL P base sops fpf (List.range sops.length) A C) (hp : ∀ p ∈ pairs, (fpf p.1).apart (fpf p.2) = true) (S : SRel N c A a w)
    (hQ : ∀ c' a' w', SRel N c' C a' w' → Evo c w c' w' → Q .normal a' w') : (Code.region id ops draw).wp P Q a w := by
  unfold okRegion at hok
  simp only [Bool.and_eq_true, Bool.or_eq_true, Bool.not_eq_true'] at hok
  obtain ⟨h1, h2⟩ := hok
  have F := fits_of h1
  cases draw with
  | false =>
    refine wp_region ?_
    rw [F.size]
    exact inorder_sound F hQ _ A c a w hr S (.refl c w)
  | true =>
    obtain ⟨hm, hf⟩ := h2.resolve_left (by simp)
    refine wp_region_any hm ?_
    have R := free_of hf hr hp
    obtain ⟨E1, H1⟩ := S.heap.drew
    have S1 : SRel N c A a w.drew := ⟨H1, fun i => VRel.mono (E1.ext S.heap.disj) _ _ (S.tmps i), S.size, S.defers⟩
    refine any_sound (base := base) F R hQ ops.size _ A C c a w.drew (by simp) ?_ ?_ ?_ (.refl C) S1 E1
    · rw [rest_all _ _ (by rw [F.size]; exact Nat.le_refl _)]
      simp [F.size]
    · intro j hj
      rw [replicate_getD] at hj
      split at hj <;> cases hj
    · rw [rest_all _ _ (by rw [F.size]; exact Nat.le_refl _)]
      exact hr

/-! ### code -/
inductive SCode where
  | skip
  | region (ops : List SOper) (pairs : List (Nat × Nat)) (dead : List Nat)
  | seq (a b : SCode)
  | cond (x : Opd) (a b : SCode)
  | block (id : Nat) (b : SCode)
  | loop (b : SCode)
  | exit (id : Nat)
  | ret
  | mloop (pre : List SOper) (x : Opd) (it nx ok en b1 b2 : Nat) (rest : List SOper) (body : SCode)
  | bad

/-- The parts of a loop over a map. -/
structure MLParts where
  ops6 : Array Oper
  b : Nat
  ops7 : Array Oper
  c : Nat
  b' : Nat
  b3 : Nat
  ops8 : Array Oper
  body : Code

def mlParts : Code → Option MLParts
  | .seq (.region _ ops6 false) (.block b (.loop (.seq (.region _ ops7 false) (.seq (.cond (.tmp c) .skip (.exit b')) (.block b3 (.seq (.region _ ops8 false) body)))))) => some ⟨ops6, b, ops7, c, b', b3, ops8, body⟩
  | _ => none

def isMapT (P : Program) (t : TypeId) : Bool := match P.underlying t with | some (.map _ _) => true | _ => false

/-- The operations of the region's, but for the last. -/
def okRange (P : Program) (N : Nat) (ops : Array Oper) (pre : List SOper) (x : Opd) (it : Nat) : Bool :=
  match ops[pre.length]? with
  | some o => o.dst == some it && decide (it < N) && o.guard.isNone && (match o.op with | .range t y => isMapT P t && okOpd y x | _ => false) && ops.size == pre.length + 1 && okOpers P N ops (ops.toList.take pre.length) pre
  | none => false

def okNext (N : Nat) (ops : Array Oper) (it nx ok : Nat) : Bool :=
  match ops.toList with
  | [a, b] => a.dst == some nx && decide (nx < N) && a.guard.isNone && (match a.op with | .next (.tmp i) false => i == it | _ => false) &&
    b.dst == some ok && decide (ok < N) && b.guard.isNone && (match b.op with | .extract (.tmp j) 0 => j == nx | _ => false) && !(nx == it) && !(ok == it)
  | _ => false

def okEntry (P : Program) (N : Nat) (ops : Array Oper) (rest : List SOper) (it en : Nat) : Bool :=
  match ops.toList with
  | a :: l => a.dst == some en && decide (en < N) && a.guard.isNone && (match a.op with | .entry (.tmp i) => i == it | _ => false) && okOpers P N ops l rest
  | _ => false

def okCode (P : Program) (N : Nat) : Code → SCode → Bool
  | .skip, .skip => true
  | .region _ ops draw, .region sops pairs _ => okRegion P N ops draw sops pairs
  | .seq a b, .seq a' b' => okCode P N a a' && okCode P N b b'
  | .cond c a b, .cond x a' b' => okOpd c x && okCode P N a a' && okCode P N b b'
  | .block i b, .block i' b' => i == i' && okCode P N b b'
  | .loop b, .loop b' => okCode P N b b'
  | .exit i, .exit i' => i == i'
  | .ret, .ret => true
  | c, .mloop pre x it nx ok en b1 b2 rest body => (match mlParts c with
    | some p => okRange P N p.ops6 pre x it && p.b == b1 && okNext N p.ops7 it nx ok && p.c == ok && p.b' == b1 && p.b3 == b2 && okEntry P N p.ops8 rest it en && okCode P N p.body body
    | none => false)
  | _, .bad => true
  | _, _ => false
termination_by structural _ sc => sc

inductive SX where
  | normal
  | exit (id : Nat)
  | ret

def SX.toExit : SX → Exit
  | .normal => .normal
  | .exit i => .exit i
  | .ret => .ret

/-- WALKING SLIM CODE from the state A, one comes to Q. -/
def W (P : Program) (N : Nat) (sc : SCode) (Q : SX → St → Prop) (A : St) : Prop :=
  ∀ code, okCode P N code sc = true → ∀ (c : Ctx) (a : Act) (w : World), SRel N c A a w → ∀ (Q' : Exit → Act → World → Prop),
    (∀ e B c' a' w', Q e B → SRel N c' B a' w' → Evo c w c' w' → Q' e.toExit a' w') → code.wp P Q' a w

section rules
variable {N : Nat} {Q : SX → St → Prop} {A : St}

theorem W.mono {sc : SCode} {Q' : SX → St → Prop} (h : W P N sc Q A) (hq : ∀ e B, Q e B → Q' e B) : W P N sc Q' A :=
  fun code hok c a w S R hR => h code hok c a w S R fun e B c' a' w' hQ S' E' => hR e B c' a' w' (hq e B hQ) S' E'

theorem W.congr {sc : SCode} {B : St} (h : W P N sc Q A) (e : SEq B A) : W P N sc Q B :=
  fun code hok c a w S R hR => h code hok c a w (S.congr e) R hR

theorem W.skip (h : Q .normal A) : W P N .skip Q A := by
  intro code hok c a w S Q' hQ
  cases code <;> simp only [okCode, Bool.false_eq_true] at hok
  exact wp_skip (hQ .normal A c a w h S (.refl c w))

theorem W.ret (h : Q .ret A) : W P N .ret Q A := by
  intro code hok c a w S Q' hQ
  cases code <;> simp only [okCode, Bool.false_eq_true] at hok
  exact wp_ret (hQ .ret A c a w h S (.refl c w))

theorem W.exit {i : Nat} (h : Q (.exit i) A) : W P N (.exit i) Q A := by
  intro code hok c a w S Q' hQ
  cases code <;> simp only [okCode, Bool.false_eq_true, beq_iff_eq] at hok
  subst hok
  exact wp_exit (hQ (.exit _) A c a w h S (.refl c w))

theorem W.seq {x y : SCode} (h : W P N x (fun e B => match e with | .normal => W P N y Q B | e => Q e B) A) : W P N (.seq x y) Q A := by
  intro code hok c a w S Q' hQ
  cases code <;> simp only [okCode, Bool.false_eq_true, Bool.and_eq_true] at hok
  rename_i cx cy
  refine wp_seq (h cx hok.1 c a w S _ ?_)
  intro e B c' a' w' hq S' E'
  cases e with
  | normal => exact hq cy hok.2 c' a' w' S' Q' fun e2 B2 c2 a2 w2 h2 S2 E2 => hQ e2 B2 c2 a2 w2 h2 S2 (E'.trans E2)
  | exit i => exact hQ (.exit i) B c' a' w' hq S' E'
  | ret => exact hQ .ret B c' a' w' hq S' E'

theorem W.cond {x : Opd} {y z : SCode} {t : Bool} (hx : ev A.T x = .bool t) (h1 : t = true → W P N y Q A) (h2 : t = false → W P N z Q A) : W P N (.cond x y z) Q A := by
  intro code hok c a w S Q' hQ
  cases code <;> simp only [okCode, Bool.false_eq_true, Bool.and_eq_true] at hok
  rename_i o cy cz
  have hr := okOpd_rel S.tmps hok.1.1
  rw [hx] at hr
  simp only [VRel] at hr
  refine wp_cond hr ?_
  cases t with
  | true => exact h1 rfl cy hok.1.2 c a w S Q' hQ
  | false => exact h2 rfl cz hok.2 c a w S Q' hQ

theorem W.block {i : Nat} {b : SCode} (h : W P N b (fun e B => match e with | .exit j => if j = i then Q .normal B else Q (.exit j) B | e => Q e B) A) : W P N (.block i b) Q A := by
  intro code hok c a w S Q' hQ
  cases code <;> simp only [okCode, Bool.false_eq_true, Bool.and_eq_true, beq_iff_eq] at hok
  rename_i j cb
  obtain ⟨rfl, hok⟩ := hok
  refine wp_block (h cb hok c a w S _ ?_)
  intro e B c' a' w' hq S' E'
  cases e with
  | normal => exact hQ .normal B c' a' w' hq S' E'
  | ret => exact hQ .ret B c' a' w' hq S' E'
  | exit k =>
    simp only at hq
    show (if k = j then Q' .normal a' w' else Q' (.exit k) a' w')
    split
    · rename_i e; rw [if_pos e] at hq; exact hQ .normal B c' a' w' hq S' E'
    · rename_i e; rw [if_neg e] at hq; exact hQ (.exit k) B c' a' w' hq S' E'

/-- A loop: I n says what holds at a round's head; n goes down. -/
theorem W.loop {b : SCode} (I : Nat → St → Prop) (n : Nat) (h0 : I n A)
    (round : ∀ n B, I n B → W P N b (fun e C => match e with | .normal => ∃ m, m < n ∧ I m C | e => Q e C) B) : W P N (.loop b) Q A := by
  intro code hok c a w S Q' hQ
  cases code <;> simp only [okCode, Bool.false_eq_true] at hok
  rename_i cb
  intro bf k cs
  have key : ∀ n B c1 a1 w1, I n B → SRel N c1 B a1 w1 → Evo c w c1 w1 →
      ∃ e a' w', Q' e a' w' ∧ Arrives P (lone (bf.at a1 (.code cb :: .inLoop cb :: k)) cs w1) bf k cs e a' w' := by
    intro n
    induction n using Nat.strongRecOn with
    | _ n ih =>
      intro B c1 a1 w1 hI S1 E1
      have hr := round n B hI cb hok c1 a1 w1 S1 (fun e a' w' => match e with
        | .normal => ∃ m C c2, m < n ∧ I m C ∧ SRel N c2 C a' w' ∧ Evo c w c2 w'
        | e => Q' e a' w') (by
          intro e C c2 a2 w2 hq S2 E2
          cases e with
          | normal => obtain ⟨m, hm, hIm⟩ := hq; exact ⟨m, C, c2, hm, hIm, S2, E1.trans E2⟩
          | ret => exact hQ .ret C c2 a2 w2 hq S2 (E1.trans E2)
          | exit i => exact hQ (.exit i) C c2 a2 w2 hq S2 (E1.trans E2))
      obtain ⟨e, a2, w2, hq, harr⟩ := hr bf (.inLoop cb :: k) cs
      cases e with
      | normal =>
        obtain ⟨m, C, c2, hm, hIm, S2, E2⟩ := hq
        obtain ⟨e3, a3, w3, hq3, harr3⟩ := ih m hm C c2 a2 w2 hIm S2 E2
        exact ⟨e3, a3, w3, hq3, .of_steps (Steps.trans harr (.one step_inLoop)) harr3⟩
      | exit i => exact ⟨_, a2, w2, hq, .pass (x := .inLoop cb) rfl (fun _ _ => .inl (by simp)) harr⟩
      | goto l => exact ⟨_, a2, w2, hq, .pass (x := .inLoop cb) rfl (fun _ _ => .inl (by simp)) harr⟩
      | ret => exact ⟨_, a2, w2, hq, .pass (x := .inLoop cb) rfl (fun _ _ => .inl (by simp)) harr⟩
      | panic ch => exact ⟨_, a2, w2, hq, .pass (x := .inLoop cb) rfl (fun _ _ => .inl (by simp)) harr⟩
      | outgrown => exact ⟨_, a2, w2, hq, .pass (x := .inLoop cb) rfl (fun _ _ => .inl (by simp)) harr⟩
  obtain ⟨e, a', w', hq, harr⟩ := key n A c a w h0 S (.refl c w)
  exact ⟨e, a', w', hq, .of_steps (.one step_loop) harr⟩

theorem lk_rm (T : Tmps) (l : List Nat) (i : Nat) : lk (rm T l) i = if l.any (Nat.beq i) then .any else lk T i := by
  induction T with
  | nil => simp [rm, lk]
  | cons p T ih =>
    obtain ⟨j, u⟩ := p
    simp only [rm]
    cases hl : l.any (Nat.beq j) with
    | true =>
      simp only [cond_true, ih, lk]
      by_cases e : j = i
      · subst e; rw [hl]; simp
      · have e' : Nat.beq j i = false := by rw [Bool.eq_false_iff]; simpa using e
        rw [e']; simp
    | false =>
      simp only [cond_false, lk, ih]
      by_cases e : j = i
      · subst e
        have e' : Nat.beq j j = true := by simp
        rw [e', hl]; simp
      · have e' : Nat.beq j i = false := by rw [Bool.eq_false_iff]; simpa using e
        rw [e']; simp

/-- Slots are forgotten. -/
theorem SRel.forget {c : Ctx} {a : Act} {w : World} {T : Tmps} {h : Heap} (S : SRel N c ⟨T, h⟩ a w) (l : List Nat) : SRel N c ⟨rm T l, h⟩ a w :=
  ⟨S.heap, fun i => by rw [lk_rm]; split <;> first | exact S.tmps i | simp [VRel], S.size, S.defers⟩

theorem W.region {sops : List SOper} {pairs : List (Nat × Nat)} {dead : List Nat} (base : Nat) (fpf : Nat → FP) {C : St} (hr : RunL P base sops fpf (List.range sops.length) A C)
    (hp : ∀ p ∈ pairs, (fpf p.1).apart (fpf p.2) = true) (hQ : Q .normal ⟨rm C.T dead, C.h⟩) : W P N (.region sops pairs dead) Q A := by
  intro code hok c a w S Q' hQ'
  cases code <;> simp only [okCode, Bool.false_eq_true] at hok
  exact region_sound hok hr hp S fun c' a' w' S' E' => hQ' .normal _ c' a' w' hQ (S'.forget dead) E'

end rules

end Go.AM
