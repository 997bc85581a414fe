/- The abstract machine, part J: a region in whatever order; one step in the model. -/
import Derived.Test.YteaeobmbfhaklaaAmI
import Derived.Orders
set_option linter.unusedSimpArgs false
set_option linter.unusedVariables false
namespace Go.AM
variable {P : Program}

/-! ### values that name no block -/
mutual
theorem VRel.noRef {c c' : Ctx} {w : World} (hF : ∀ k, c.F k → c'.F k) : ∀ (x : AV) (v : Value), noRef x = true → VRel c w x v → VRel c' w x v
  | .any, _, _, _ => by simp [VRel]
  | .bool b, _, _, h => by simpa [VRel] using h
  | .int k n, _, _, h => by simpa [VRel] using h
  | .str s, _, _, h => by simpa [VRel] using h
  | .agg cs, v, hn, h => by
    simp only [VRel] at h ⊢
    simp only [AM.noRef] at hn
    obtain ⟨vs, rfl, h⟩ := h
    exact ⟨vs, rfl, VRels.noRef hF cs _ hn h⟩
  | .tup cs, v, hn, h => by
    simp only [VRel] at h ⊢
    simp only [AM.noRef] at hn
    obtain ⟨vs, rfl, h⟩ := h
    exact ⟨vs, rfl, VRels.noRef hF cs _ hn h⟩
  | .nilptr, _, _, h => by simpa [VRel] using h
  | .ptr b g off, v, hn, h => by simp [AM.noRef] at hn
  | .fptr cs, v, hn, h => by
    simp only [VRel] at h ⊢
    simp only [AM.noRef] at hn
    obtain ⟨cb, off, C, e, fr, h1, h2, h3, h4⟩ := h
    exact ⟨cb, off, C, e, fr, h1, hF _ h2, h3, VPre.noRef hF cs _ hn h4⟩
  | .nilsl, _, _, h => by simpa [VRel] using h
  | .sl b g off len sz, v, hn, h => by simp [AM.noRef] at hn
  | .fsl cs len sz, v, hn, h => by
    simp only [VRel] at h ⊢
    simp only [AM.noRef] at hn
    rcases h with h | ⟨cb, off, cap, C, e, fr, h1, h2, h3, h4, h5, h6⟩
    · exact .inl h
    · exact .inr ⟨cb, off, cap, C, e, fr, h1, h2, h3, hF _ h4, h5, VPre.noRef hF cs _ hn h6⟩
  | .esl, _, _, h => by simpa [VRel] using h
  | .nilmap, _, _, h => by simpa [VRel] using h
  | .map b g, v, hn, h => by simp [AM.noRef] at hn
  | .nilfn, _, _, h => by simpa [VRel] using h
  | .fn f x y, v, hn, h => by
    simp only [VRel] at h ⊢
    simp only [AM.noRef, Bool.and_eq_true] at hn
    obtain ⟨x', y', h1, h2, h3⟩ := h
    exact ⟨x', y', h1, VRels.noRef hF x _ hn.1 h2, VRels.noRef hF y _ hn.2 h3⟩
  | .nilif, _, _, h => by simpa [VRel] using h
  | .ifc t x, v, hn, h => by
    simp only [VRel] at h ⊢
    simp only [AM.noRef] at hn
    obtain ⟨x', h1, h2⟩ := h
    exact ⟨x', h1, VRel.noRef hF x _ hn h2⟩
theorem VRels.noRef {c c' : Ctx} {w : World} (hF : ∀ k, c.F k → c'.F k) : ∀ (x : List AV) (v : List Value), noRefs x = true → VRels c w x v → VRels c' w x v
  | [], _, _, h => by simpa [VRels] using h
  | x :: xs, v, hn, h => by
    simp only [VRels] at h ⊢
    simp only [AM.noRefs, Bool.and_eq_true] at hn
    obtain ⟨u, us, h1, h2, h3⟩ := h
    exact ⟨u, us, h1, VRel.noRef hF x _ hn.1 h2, VRels.noRef hF xs _ hn.2 h3⟩
theorem VPre.noRef {c c' : Ctx} {w : World} (hF : ∀ k, c.F k → c'.F k) : ∀ (x : List AV) (v : List Value), noRefs x = true → VPre c w x v → VPre c' w x v
  | [], _, _, _ => by simp [VPre]
  | x :: xs, v, hn, h => by
    simp only [VPre] at h ⊢
    simp only [AM.noRefs, Bool.and_eq_true] at hn
    obtain ⟨u, us, h1, h2, h3⟩ := h
    exact ⟨u, us, h1, VRel.noRef hF x _ hn.1 h2, VPre.noRef hF xs _ hn.2 h3⟩
end

mutual
theorem VRel.flat {c c' : Ctx} {w w' : World} : ∀ (x : AV) (v : Value), flatV x = true → VRel c w x v → VRel c' w' x v
  | .any, _, _, _ => by simp [VRel]
  | .bool b, _, _, h => by simpa [VRel] using h
  | .int k n, _, _, h => by simpa [VRel] using h
  | .str s, _, _, h => by simpa [VRel] using h
  | .agg cs, v, hn, h => by
    simp only [VRel] at h ⊢
    simp only [flatV] at hn
    obtain ⟨vs, rfl, h⟩ := h
    exact ⟨vs, rfl, VRels.flat cs _ hn h⟩
  | .tup cs, v, hn, h => by
    simp only [VRel] at h ⊢
    simp only [flatV] at hn
    obtain ⟨vs, rfl, h⟩ := h
    exact ⟨vs, rfl, VRels.flat cs _ hn h⟩
  | .nilptr, _, _, h => by simpa [VRel] using h
  | .ptr b g off, v, hn, h => by simp [flatV] at hn
  | .fptr cs, v, hn, h => by simp [flatV] at hn
  | .nilsl, _, _, h => by simpa [VRel] using h
  | .sl b g off len sz, v, hn, h => by simp [flatV] at hn
  | .fsl cs len sz, v, hn, h => by simp [flatV] at hn
  | .esl, _, _, h => by simpa [VRel] using h
  | .nilmap, _, _, h => by simpa [VRel] using h
  | .map b g, v, hn, h => by simp [flatV] at hn
  | .nilfn, _, _, h => by simpa [VRel] using h
  | .fn f x y, v, hn, h => by
    simp only [VRel] at h ⊢
    simp only [flatV, Bool.and_eq_true] at hn
    obtain ⟨x', y', h1, h2, h3⟩ := h
    exact ⟨x', y', h1, VRels.flat x _ hn.1 h2, VRels.flat y _ hn.2 h3⟩
  | .nilif, _, _, h => by simpa [VRel] using h
  | .ifc t x, v, hn, h => by
    simp only [VRel] at h ⊢
    simp only [flatV] at hn
    obtain ⟨x', h1, h2⟩ := h
    exact ⟨x', h1, VRel.flat x _ hn h2⟩
theorem VRels.flat {c c' : Ctx} {w w' : World} : ∀ (x : List AV) (v : List Value), flatVs x = true → VRels c w x v → VRels c' w' x v
  | [], _, _, h => by simpa [VRels] using h
  | x :: xs, v, hn, h => by
    simp only [VRels] at h ⊢
    simp only [flatVs, Bool.and_eq_true] at hn
    obtain ⟨u, us, h1, h2, h3⟩ := h
    exact ⟨u, us, h1, VRel.flat x _ hn.1 h2, VRels.flat xs _ hn.2 h3⟩
end

/-! ### calls -/
/-- The caller's view from within a call of values alone. -/
def only (F : Nat → Prop) : Ctx := { ρ := fun _ _ => none, F := F, O := fun _ => False }

theorem HRel.only {F : Nat → Prop} {w : World} (hF : ∀ k, F k → k < w.heap.size) : HRel (only F) .e w :=
  ⟨fun _ _ _ => rfl, fun b x hx => by simp [Tr.get] at hx, fun b x hx => by simp [Tr.get] at hx,
    fun b g b' g' cb base base' l => by obtain ⟨x, hx, _⟩ := l; simp [Tr.get] at hx, fun _ _ h => h, hF, fun _ h => h.elim⟩

def Rets (P : Program) (c : Ctx) (w : World) (h' : Heap) (v : AV) (e : Ending) (w' : World) : Prop :=
  ∃ cv c', e = .returned cv ∧ Evo c w c' w' ∧ HRel c' h' w' ∧ VRel c' w' v cv

theorem PSpec.pure {f : Nat} {args : List AV} {v : AV} {c : Ctx} {h : Heap} {w : World} {cargs : Array Value} (S : PSpec P f args v) (H : HRel c h w) (ha : VRels c w args cargs.toList) :
    Callable P f ∧ Calls P f cargs w (Rets P c w h v) := by
  obtain ⟨n1, n2, h', hc, hs⟩ := S
  refine ⟨hc, (hs (only c.F) w cargs (HRel.only H.inF) (VRels.noRef (c := c) (c' := only c.F) (fun _ h => h) _ _ n1 ha)).mono ?_⟩
  rintro e w' ⟨cv, c', rfl, E, H', V⟩
  have hk : ∀ k, k < w.heap.size → w'.heap[k]? = w.heap[k]? := fun k hk => E.keep k hk (fun h => h)
  obtain ⟨E1, H1⟩ := H.grow E.os E.tape E.output E.size hk
  have hnew : ∀ k, c'.F k → ¬ c.O k ∧ k < w'.heap.size := by
    intro k hk
    refine ⟨fun hO => ?_, H'.inF k hk⟩
    rcases E.frzNew k hk with h | h | h
    · exact H.disj k h hO
    · exact h
    · have := H.inO k hO; omega
  refine ⟨cv, { c with F := c'.F }, rfl, ?_, H1.frozen c'.F (fun k hk => E.frz k hk) hnew, VRel.noRef (c := c') (c' := { c with F := c'.F }) (fun _ h => h) _ _ n2 V⟩
  refine ⟨E1.os, E1.tape, E1.output, E1.size, E1.shape, E1.keep, E1.rho, fun k hk => E.frz k hk, fun k hk => ?_, E1.own⟩
  rcases E.frzNew k hk with h | h | h
  · exact .inl h
  · exact h.elim
  · exact .inr (.inr h)

theorem PSpec.borrow {f : Nat} {args : List AV} {v : AV} {c : Ctx} {h : Heap} {w : World} {cargs : Array Value} (S : PSpec P f args v) (hv : flatV v = true) (H : HRel c h w) (ha : VRels (lent c) w args cargs.toList) :
    Callable P f ∧ Calls P f cargs w (Rets P c w h v) := by
  obtain ⟨n1, n2, h', hc, hs⟩ := S
  have hF : ∀ k, (c.F k ∨ c.O k) → k < w.heap.size := fun k hk => hk.elim (H.inF k) (H.inO k)
  refine ⟨hc, (hs (only fun k => c.F k ∨ c.O k) w cargs (HRel.only hF) (VRels.noRef (c := lent c) (c' := only fun k => c.F k ∨ c.O k) (fun _ h => h) _ _ n1 ha)).mono ?_⟩
  rintro e w' ⟨cv, c', rfl, E, H', V⟩
  have hk : ∀ k, k < w.heap.size → w'.heap[k]? = w.heap[k]? := fun k hk => E.keep k hk (fun h => h)
  obtain ⟨E1, H1⟩ := H.grow E.os E.tape E.output E.size hk
  exact ⟨cv, c, rfl, E1, H1, VRel.flat _ _ hv V⟩

theorem HSpec.heap {f : Nat} {args : List AV} {v : AV} {c : Ctx} {h h' : Heap} {w : World} {cargs : Array Value} (S : HSpec P f args h v h') (H : HRel c h w) (ha : VRels c w args cargs.toList) :
    Callable P f ∧ Calls P f cargs w (Rets P c w h' v) := ⟨S.1, S.2 c w cargs H ha⟩

/-! ### one step -/
/-- The state stands for the frame and the world. -/
structure SRel (N : Nat) (c : Ctx) (A : St) (a : Act) (w : World) : Prop where
  heap : HRel c A.h w
  tmps : TRel c w A.T a
  size : a.tmps.size = N
  defers : a.defers = []

theorem SRel.congr {N : Nat} {c : Ctx} {A B : St} {a : Act} {w : World} (S : SRel N c A a w) (e : SEq A B) : SRel N c B a w :=
  ⟨HRel_congr e.2 S.heap, fun i => by rw [← e.1 i]; exact S.tmps i, S.size, S.defers⟩

theorem SRel.put {N : Nat} {c c' : Ctx} {A : St} {a : Act} {w w' : World} {dst : Option Nat} {v : AV} {cv : Value} {h1 : Heap} (S : SRel N c A a w) (E : Evo c w c' w') (H : HRel c' h1 w') (hd : ∀ d, dst = some d → d < N)
    (V : VRel c' w' v cv) : SRel N c' ⟨putD A.T dst v, h1⟩ (a.put dst cv) w' := by
  have hT : TRel c' w' A.T a := fun i => VRel.mono (E.ext S.heap.disj) _ _ (S.tmps i)
  cases dst with
  | none => exact ⟨H, hT, S.size, S.defers⟩
  | some d =>
    refine ⟨H, fun i => ?_, by simp [Act.put, S.size], by simp [Act.put, S.defers]⟩
    have hlt : d < a.tmps.size := by rw [S.size]; exact hd d rfl
    simp only [lk_putD, Act.put, Option.some.injEq]
    by_cases e : d = i
    · subst e
      rw [if_pos rfl]
      simpa [hlt] using V
    · rw [if_neg e]
      simpa [Array.getElem?_setIfInBounds_ne e] using hT i

def okGuard (N : Nat) (ops : Array Oper) : Option (Nat × Bool) → Option (Nat × Bool) → Bool
  | none, none => true
  | some (j, want), some (slot, want') => want == want' && ((ops[j]?).bind (·.dst)) == some slot && decide (slot < N)
  | _, _ => false

def okAfter (es : List Edge) (l : List Nat) : Bool := ((es.filter fun e => Region.binds .any e).map (·.on)) == l

def okOper (P : Program) (N : Nat) (ops : Array Oper) (o : Oper) (s : SOper) : Bool :=
  o.dst == s.dst && (match s.dst with | some d => decide (d < N) | none => true) && okOp P o.op s.op && okGuard N ops o.guard s.guard && okAfter o.after.toList s.after

/-- One operation, run in the model. -/
theorem stepX_sound {N i : Nat} {o : Oper} {s : SOper} {A : St} {v : AV} {h1 : Heap} {fp : FP} {c : Ctx} {a : Act} {w : World} {K : Act → World → Prop} {Q : Exit → Act → World → Prop}
    (S : SRel N c A a w) (hdst : o.dst = s.dst) (hd : ∀ d, s.dst = some d → d < N) (hok : okOp P o.op s.op = true) (hs : StepX P i s.op A.T A.h v h1 fp)
    (hK : ∀ c' a' w', SRel N c' ⟨putD A.T s.dst v, h1⟩ a' w' → Evo c w c' w' → K a' w') : o.wp P a w K Q := by
  obtain ⟨out, h2, hm, hh⟩ := hs
  have hD := op_sound S.heap S.tmps hok hm
  have called : ∀ (f : Nat) (cargs : Array Value), (execOp a.eval o).run P w = .ok (.enter f cargs) w → Calls P f cargs w (Rets P c w h1 v) → o.wp P a w K Q := by
    intro f cargs hrun hcalls
    unfold Oper.wp
    rw [hrun, Oper.upon_enter]
    refine hcalls.mono ?_
    rintro e w' ⟨cv, c', rfl, E, H', V⟩
    exact hK c' _ w' (by rw [hdst]; exact S.put E H' hd V) E
  match out, hm, hh, hD with
  | .val u, hm, hh, hD =>
    obtain ⟨rfl, rfl, _⟩ := hh
    obtain ⟨nx, cv, c', w', hr, hn, E, H', V⟩ := hD
    unfold Oper.wp
    rw [hr]
    have hfin := hK c' (a.put o.dst cv) w' (by rw [hdst]; exact S.put E H' hd V) E
    rcases hn with rfl | ⟨rfl, rfl⟩
    · exact hfin
    · exact hfin
  | .call .pure f args, hm, hh, hD =>
    obtain ⟨g1, rfl, _⟩ := hh
    obtain ⟨rfl, cargs, hr, hv, _⟩ := hD
    obtain ⟨hc, hcalls⟩ := g1.pure S.heap (hv (by simp))
    exact called f cargs (hr hc) hcalls
  | .call .borrow f args, hm, hh, hD =>
    obtain ⟨g1, g2, rfl, _⟩ := hh
    obtain ⟨rfl, cargs, hr, _, hv⟩ := hD
    obtain ⟨hc, hcalls⟩ := g1.borrow g2 S.heap (hv rfl)
    exact called f cargs (hr hc) hcalls
  | .call .heap f args, hm, hh, hD =>
    obtain ⟨g1, _⟩ := hh
    obtain ⟨rfl, cargs, hr, hv, _⟩ := hD
    obtain ⟨hc, hcalls⟩ := g1.heap S.heap (hv (by simp))
    exact called f cargs (hr hc) hcalls

theorem step_sound {N i bi : Nat} {ops : Array Oper} {o : Oper} {s : SOper} {A : St} {v : AV} {h1 : Heap} {fp : FP} {c : Ctx} {a : Act} {w : World} {K : Act → World → Prop} {Q : Exit → Act → World → Prop}
    (S : SRel N c A a w) (ho : ops[i]? = some o) (hok : okOper P N ops o s = true) (hs : StepV P bi s A.T A.h v h1 fp)
    (hK : ∀ c' a' w', SRel N c' ⟨putD A.T s.dst v, h1⟩ a' w' → Evo c w c' w' → K a' w') : wpOp P ops Q i K a w := by
  unfold okOper at hok
  simp only [Bool.and_eq_true, beq_iff_eq] at hok
  obtain ⟨⟨⟨⟨g1, g2⟩, g3⟩, g4⟩, g5⟩ := hok
  have hd : ∀ d, s.dst = some d → d < N := by
    intro d e
    rw [e] at g2
    simpa using g2
  unfold wpOp
  rw [ho]
  simp only
  unfold StepV at hs
  cases hg : s.guard with
  | none =>
    rw [hg] at hs g4
    have hog : o.guard = none := by
      cases hog : o.guard with
      | none => rfl
      | some p => rw [hog] at g4; simp [okGuard] at g4
    have : Region.wanted o (yielded ops a.tmps) = true := by simp [Region.wanted, hog]
    rw [this]
    exact .inl (stepX_sound S g1 hd g3 hs hK)
  | some p =>
    obtain ⟨slot, want⟩ := p
    rw [hg] at hs g4
    simp only at hs
    obtain ⟨b, hb, hs⟩ := hs
    cases hog : o.guard with
    | none => rw [hog] at g4; simp [okGuard] at g4
    | some q =>
      obtain ⟨j, want'⟩ := q
      rw [hog] at g4
      simp only [okGuard, Bool.and_eq_true, beq_iff_eq, decide_eq_true_eq] at g4
      obtain ⟨⟨rfl, g6⟩, g7⟩ := g4
      have hlt : slot < a.tmps.size := by rw [S.size]; exact g7
      have hw : Region.wanted o (yielded ops a.tmps) = b := by
        have hv := S.tmps slot
        unfold wantedA at hb
        split at hb
        · rename_i x b' hx
          cases hb
          rw [hx] at hv
          simp only [VRel] at hv
          have hsl : a.tmps[slot]? = some (.bool b') := by simpa [hlt] using hv
          have hy : yielded ops a.tmps j = some b' := by simp [yielded, g6, hsl]
          simp [Region.wanted, hog, hy]
        · rename_i x hx
          cases hb
          rw [hx] at hv
          simp only [VRel, VRels] at hv
          obtain ⟨vs, h1, h2⟩ := hv
          have hsl : a.tmps[slot]? = some (.tuple vs) := by simpa [hlt] using h1
          have hy : yielded ops a.tmps j = none := by simp [yielded, g6, hsl]
          simp [Region.wanted, hog, hy]
        · cases hb
      rw [hw]
      split at hs
      · rename_i e; subst e
        simp only [if_true]
        exact .inl (stepX_sound S g1 hd g3 hs hK)
      · rename_i e
        obtain ⟨rfl, rfl, _⟩ := hs
        have : b = false := by simpa using e
        rw [this]
        simp only [Bool.false_eq_true, if_false]
        refine hK c _ w ?_ (.refl c w)
        rw [g1]
        exact S.put (.refl c w) S.heap hd (by simp [VRel, VRels, undef])

/-! ### which operations touch blocks -/
def SOp.cls : SOp → Nat
  | .mov _ | .pick .. | .build .. | .nilchk _ | .bin .. | .eq .. | .un .. | .conv .. | .convS _ | .mkfn .. | .slice .. | .faddr .. | .field .. | .iaddr .. | .index .. | .extract .. | .maxmin .. | .ext .. | .bad => 0
  | .load .. | .len .. | .lookup .. | .convB _ => 1
  | .call m _ _ => (match m with | .heap => 2 | _ => 1)
  | .alloc .. | .box .. | .bslice .. | .store .. | .mkmap .. | .mkslice .. | .mupd .. | .append .. | .copy .. => 2

def HM.ro {α : Type} : HM α → Prop
  | .ret _ => True
  | .fail => True
  | .look _ k => ∀ x, (k x).ro
  | .put _ _ _ => False

theorem HM.ro_fp {α : Type} (m : HM α) : m.ro → ∀ h, (m.fp h).2 = [] := by
  induction m with
  | ret a => intro _ h; rfl
  | fail => intro _ h; rfl
  | look b k ih => intro hr h; exact ih _ (hr _) h
  | put b x k ih => intro hr; exact hr.elim

theorem HM.ro_bind {α β : Type} {m : HM α} {f : α → HM β} (h1 : m.ro) (h2 : ∀ a, (f a).ro) : (m.bind f).ro := by
  induction m with
  | ret a => exact h2 a
  | fail => trivial
  | look b k ih => exact fun x => ih x (h1 x)
  | put b x k ih => exact h1.elim

theorem ro_opt {α : Type} (o : Option α) : (HM.opt o).ro := by cases o <;> trivial

theorem ro_cells {α : Type} {b g : Nat} {k : List AV → HM α} (h : ∀ cs, (k cs).ro) : (HM.cells b g k).ro := by
  intro x
  dsimp only
  split
  · rename_i g' cs
    cases Nat.beq g' g with
    | true => exact h cs
    | false => trivial
  · trivial

theorem ro_entries {α : Type} {b g : Nat} {k : List (AV × AV) → HM α} (h : ∀ cs, (k cs).ro) : (HM.entries b g k).ro := by
  intro x
  dsimp only
  split
  · rename_i g' cs
    cases Nat.beq g' g with
    | true => exact h cs
    | false => trivial
  · trivial

theorem ro_mapH {f : AV → HM AV} (hf : ∀ x, (f x).ro) : ∀ xs, (mapH f xs).ro
  | [] => trivial
  | x :: xs => HM.ro_bind (hf x) fun y => HM.ro_bind (ro_mapH hf xs) fun ys => trivial

theorem ro_frz : ∀ (d : Nat) (x : AV), (frzH d x).ro
  | 0, x => trivial
  | d + 1, x => by
    cases x <;> simp only [frzH] <;> try trivial
    · exact HM.ro_bind (ro_mapH (ro_frz d) _) fun _ => trivial
    · exact HM.ro_bind (ro_mapH (ro_frz d) _) fun _ => trivial
    · exact ro_cells fun cs => HM.ro_bind (ro_mapH (ro_frz d) _) fun _ => trivial
    · refine ro_cells fun cs => ?_
      split
      · exact HM.ro_bind (ro_mapH (ro_frz d) _) fun _ => trivial
      · trivial

theorem lift_fp (o : Option AV) (h : Heap) : (lift o).fp h = ([], []) := by cases o <;> rfl

theorem cls0_fp {i : Nat} {T : Tmps} {s : SOp} {h : Heap} (hc : s.cls = 0) : (aop i T s).fp h = ([], []) := by
  cases s <;> simp only [SOp.cls, reduceCtorEq] at hc <;> first
    | exact lift_fp _ _
    | rfl
    | (rename_i m x xs; cases m <;> simp at hc; done)
    | (simp at hc; done)

theorem cls1_ro {i : Nat} {T : Tmps} {s : SOp} (hc : s.cls = 1) : (aop i T s).ro := by
  cases s <;> simp only [SOp.cls, reduceCtorEq, Nat.reduceEqDiff] at hc
  case convB x =>
    refine HM.ro_bind ?_ fun _ => trivial
    have src : ∀ (y : AV), (aSrc 1 y fun ys n => match bytesOf ys with | some s => HM.ret (AV.str s) | none => .fail).ro := by
      intro y
      unfold aSrc
      have fin : ∀ ys : List AV, (match bytesOf ys with | some s => HM.ret (AV.str s) | none => HM.fail).ro := by
        intro ys; split <;> trivial
      split
      · split
        · refine ro_cells fun cs => ?_
          split
          · exact fin _
          · trivial
        · trivial
      · split
        · exact fin _
        · trivial
      · exact fin []
      · exact fin []
      · split
        · exact fin _
        · trivial
      · trivial
    unfold aConvB
    split
    · trivial
    · exact src _
  case load n x =>
    refine HM.ro_bind ?_ fun _ => trivial
    unfold aLoad
    split
    · refine ro_cells fun cs => ?_
      split
      · exact ro_opt _
      · split <;> trivial
    · split
      · exact ro_opt _
      · split <;> trivial
    · trivial
  case len k x =>
    refine HM.ro_bind ?_ fun _ => trivial
    unfold aLenC
    split
    · unfold aLen
      split <;> try trivial
      intro x
      dsimp only
      split
      · rename_i g' es
        generalize Nat.beq g' _ = bb
        cases bb <;> trivial
      · trivial
    · trivial
  case lookup row ks zero ok x k =>
    refine HM.ro_bind ?_ fun _ => trivial
    unfold aLookup
    split
    · split
      · trivial
      · refine ro_entries fun es => ?_
        split <;> trivial
      · trivial
    · trivial
  case call m x args =>
    simp only [aop]
    unfold aCall
    split
    · split
      · exact HM.ro_bind (ro_mapH (ro_frz 4) _) fun _ => trivial
      · trivial
    · trivial

theorem cls_heap {i : Nat} {T : Tmps} {s : SOp} {h h2 : Heap} {f : Nat} {args : List AV} (hc : s.cls ≤ 1) (hm : (aop i T s).run h = some (.call .heap f args, h2)) : False := by
  have lf : ∀ (o : Option AV), (lift o).run h ≠ some (AOut.call .heap f args, h2) := by
    intro o e
    obtain ⟨v, _, k⟩ := run_lift e
    cases k
  have hf : ∀ (m : HM AV), (hval m).run h ≠ some (AOut.call .heap f args, h2) := by
    intro m e
    obtain ⟨v, h1, _, k⟩ := run_hval e
    cases k
  cases s <;> simp only [aop] at hm <;> first
    | exact absurd hm (lf _)
    | exact absurd hm (hf _)
    | (simp only [HM.run, Option.some.injEq, Prod.mk.injEq, reduceCtorEq, false_and] at hm; done)
    | skip
  rename_i m x xs
  cases m with
  | heap => simp [SOp.cls] at hc
  | pure =>
    unfold aCall at hm
    split at hm
    · simp [HM.run] at hm
    · simp [HM.run] at hm
  | borrow =>
    unfold aCall at hm
    split at hm
    · simp only at hm
      obtain ⟨as', h3, k1, k2⟩ := run_bind hm
      simp only [HM.run, Option.some.injEq, Prod.mk.injEq] at k2
      cases k2.1
    · simp [HM.run] at hm

theorem StepX.cls {i : Nat} {s : SOp} {T : Tmps} {h : Heap} {v : AV} {h1 : Heap} {fp : FP} (hs : StepX P i s T h v h1 fp) (hc : s.cls ≤ 1) : fp.all = false ∧ fp.W = [] ∧ (s.cls = 0 → fp.R = []) := by
  obtain ⟨out, h2, hm, hh⟩ := hs
  have key : fp = fpOf ((aop i T s).fp h) → fp.all = false ∧ fp.W = [] ∧ (s.cls = 0 → fp.R = []) := by
    intro e
    subst e
    refine ⟨rfl, ?_, fun h0 => by simp [fpOf, cls0_fp h0]⟩
    rcases Nat.lt_or_ge 0 s.cls with h0 | h0
    · exact HM.ro_fp _ (cls1_ro (by omega)) h
    · simp [fpOf, cls0_fp (by omega : s.cls = 0)]
  match out, hm, hh with
  | .val u, hm, hh => exact key hh.2.2
  | .call .pure f args, hm, hh => exact key hh.2.2
  | .call .borrow f args, hm, hh => exact key hh.2.2.2
  | .call .heap f args, hm, hh => exact (cls_heap hc hm).elim

theorem StepV.cls {i : Nat} {s : SOper} {T : Tmps} {h : Heap} {v : AV} {h1 : Heap} {fp : FP} (hs : StepV P i s T h v h1 fp) (hc : s.op.cls ≤ 1) : fp.all = false ∧ fp.W = [] ∧ (s.op.cls = 0 → fp.R = []) := by
  unfold StepV at hs
  split at hs
  · exact hs.cls hc
  · obtain ⟨b, _, hs⟩ := hs
    split at hs
    · exact hs.cls hc
    · obtain ⟨_, _, rfl⟩ := hs
      exact ⟨rfl, rfl, fun _ => rfl⟩

/-! ### a region -/
def StepI (P : Program) (base : Nat) (sops : List SOper) (fpf : Nat → FP) (i : Nat) (A B : St) : Prop :=
  ∃ s v h1, sops[i]? = some s ∧ StepV P (base + i) s A.T A.h v h1 (fpf i) ∧ B = ⟨putD A.T s.dst v, h1⟩

def RunL (P : Program) (base : Nat) (sops : List SOper) (fpf : Nat → FP) : List Nat → St → St → Prop
  | [], A, C => A = C
  | i :: l, A, C => ∃ B, StepI P base sops fpf i A B ∧ RunL P base sops fpf l B C

section
variable {base : Nat} {sops : List SOper} {fpf : Nat → FP}

theorem RunL.congr : ∀ {l : List Nat} {A B C : St}, RunL P base sops fpf l A C → SEq A B → ∃ D, RunL P base sops fpf l B D ∧ SEq C D
  | [], A, B, C, hr, e => by cases hr; exact ⟨B, rfl, e⟩
  | i :: l, A, B, C, hr, e => by
    obtain ⟨A1, ⟨s, v, h1, hs, hv, rfl⟩, hr⟩ := hr
    obtain ⟨h1', k1, k2⟩ := hv.congr e
    obtain ⟨D, g1, g2⟩ := hr.congr k2
    exact ⟨D, ⟨_, ⟨s, v, h1', hs, k1, rfl⟩, g1⟩, g2⟩

/-- Nothing in common. -/
def Apart (sops : List SOper) (fpf : Nat → FP) (k i : Nat) : Prop := ∀ s t, sops[k]? = some s → sops[i]? = some t → s.apart t = true ∧ (fpf k).apart (fpf i) = true

theorem RunL.front : ∀ {l1 l2 : List Nat} {i : Nat} {A C : St}, RunL P base sops fpf (l1 ++ i :: l2) A C → (∀ k ∈ l1, Apart sops fpf k i) →
    ∃ B C', StepI P base sops fpf i A B ∧ RunL P base sops fpf (l1 ++ l2) B C' ∧ SEq C' C
  | [], l2, i, A, C, hr, _ => by
    obtain ⟨B, hs, hr⟩ := hr
    exact ⟨B, C, hs, hr, .refl C⟩
  | k :: l1, l2, i, A, C, hr, hap => by
    obtain ⟨A1, ⟨s, v, h1, hs, hv, rfl⟩, hr⟩ := hr
    obtain ⟨B, C', ⟨t, u, h2, ht, hu, rfl⟩, hr', e⟩ := RunL.front hr (fun k hk => hap k (by simp [hk]))
    obtain ⟨a1, a2⟩ := hap k (by simp) s t hs ht
    obtain ⟨hB', hC', k1, k2, k3⟩ := StepV.comm hv hu a1 a2
    obtain ⟨D, g1, g2⟩ := hr'.congr k3.symm
    exact ⟨_, D, ⟨t, u, hB', ht, k1, rfl⟩, ⟨_, ⟨s, v, hC', hs, k2, rfl⟩, g1⟩, g2.symm.trans e⟩

/-- k must be done before j. -/
inductive Bef (sops : List SOper) : Nat → Nat → Prop
  | one {j k : Nat} {s : SOper} : sops[j]? = some s → k ∈ s.after → Bef sops k j
  | more {j k e : Nat} {s : SOper} : sops[j]? = some s → e ∈ s.after → Bef sops k e → Bef sops k j

end

/-- The operations of the model fit the slim ones. -/
structure Fits (P : Program) (N : Nat) (ops : Array Oper) (sops : List SOper) : Prop where
  size : ops.size = sops.length
  ok : ∀ (i : Nat) (o : Oper), ops[i]? = some o → ∃ s, sops[i]? = some s ∧ okOper P N ops o s = true

theorem Fits.after {N : Nat} {ops : Array Oper} {sops : List SOper} (F : Fits P N ops sops) {i : Nat} {o : Oper} {s : SOper} (ho : ops[i]? = some o) (hs : sops[i]? = some s) :
    ∀ k, k ∈ s.after ↔ ∃ e ∈ o.after, Region.binds .any e = true ∧ e.on = k := by
  obtain ⟨s', hs', hok⟩ := F.ok i o ho
  rw [hs] at hs'; cases hs'
  unfold okOper okAfter at hok
  simp only [Bool.and_eq_true, beq_iff_eq] at hok
  intro k
  rw [← hok.2]
  simp only [List.mem_map, List.mem_filter, Array.mem_toList_iff]
  constructor
  · rintro ⟨e, ⟨h1, h2⟩, h3⟩; exact ⟨e, h1, h2, h3⟩
  · rintro ⟨e, h1, h2, h3⟩; exact ⟨e, ⟨h1, h2⟩, h3⟩

/-- What has not been done yet. -/
def rest (n : Nat) (listed : Array Bool) : List Nat := (List.range n).filter fun i => !listed.getD i true

theorem mem_rest {n : Nat} {listed : Array Bool} {i : Nat} : i ∈ rest n listed ↔ i < n ∧ listed.getD i true = false := by
  simp [rest]

theorem filter_split : ∀ (l : List Nat) (p : Nat → Bool) (i : Nat), l.Pairwise (· < ·) → i ∈ l → p i = true →
    ∃ l1 l2, l.filter p = l1 ++ i :: l2 ∧ l.filter (fun k => p k && k != i) = l1 ++ l2 ∧ ∀ k ∈ l1, k < i ∧ p k = true
  | [], p, i, _, hi, _ => by simp at hi
  | x :: l, p, i, hl, hi, hp => by
    rw [List.pairwise_cons] at hl
    by_cases e : x = i
    · subst e
      have hne : l.filter (fun k => p k && k != x) = l.filter p := by
        apply List.filter_congr
        intro k hk
        have := hl.1 k hk
        have : (k != x) = true := by simp; omega
        simp [this]
      refine ⟨[], l.filter p, ?_, ?_, by simp⟩
      · simp [List.filter_cons, hp]
      · simp [List.filter_cons, hne]
    · have hi' : i ∈ l := by
        rcases List.mem_cons.1 hi with h | h
        · exact absurd h.symm e
        · exact h
      obtain ⟨l1, l2, h1, h2, h3⟩ := filter_split l p i hl.2 hi' hp
      have hx : (x != i) = true := by simpa using e
      by_cases hpx : p x = true
      · refine ⟨x :: l1, l2, ?_, ?_, ?_⟩
        · simp [List.filter_cons, hpx, h1]
        · simp [List.filter_cons, hpx, hx, h2]
        · intro k hk
          rcases List.mem_cons.1 hk with h | h
          · subst h; exact ⟨hl.1 i hi', hpx⟩
          · exact h3 k h
      · refine ⟨l1, l2, ?_, ?_, h3⟩
        · simp [List.filter_cons, hpx, h1]
        · simp [List.filter_cons, hpx, h2]

theorem rest_split {n : Nat} {listed : Array Bool} {i : Nat} (hi : i ∈ rest n listed) : ∃ l1 l2, rest n listed = l1 ++ i :: l2 ∧ rest n (listed.setIfInBounds i true) = l1 ++ l2 ∧ ∀ k ∈ l1, k < i ∧ k < n ∧ listed.getD k true = false := by
  obtain ⟨h1, h2⟩ := mem_rest.1 hi
  obtain ⟨l1, l2, k1, k2, k3⟩ := filter_split (List.range n) (fun k => !listed.getD k true) i List.pairwise_lt_range (by simpa using h1) (by simp [h2])
  refine ⟨l1, l2, k1, ?_, ?_⟩
  · rw [← k2]
    unfold rest
    apply List.filter_congr
    intro k _
    by_cases e : k = i
    · subst e
      have hlt : k < listed.size := by
        rcases Nat.lt_or_ge k listed.size with h | h
        · exact h
        · simp [Array.getElem?_eq_none h] at h2
      simp [hlt]
    · have e2 : (k != i) = true := by simpa using e
      rw [getD_set_ne true (fun h => e h.symm), e2, Bool.and_true]
  · intro k hk
    have hm : k ∈ (List.range n).filter (fun k => !listed.getD k true) := by rw [k1]; simp [hk]
    obtain ⟨g1, g2⟩ := List.mem_filter.1 hm
    exact ⟨(k3 k hk).1, by simpa using g1, by simpa using g2⟩

/-- What stands behind a region whose order is drawn: pairs that no order holds apart have nothing in common. -/
structure Free (sops : List SOper) (fpf : Nat → FP) : Prop where
  back : ∀ (j : Nat) (s : SOper), sops[j]? = some s → ∀ k ∈ s.after, k < j
  apart : ∀ (k i : Nat), k < i → i < sops.length → Bef sops k i ∨ Apart sops fpf k i

theorem any_sound {N base : Nat} {ops : Array Oper} {sops : List SOper} {fpf : Nat → FP} (F : Fits P N ops sops) (R : Free sops fpf) {Q : Exit → Act → World → Prop} {C : St} {c0 : Ctx} {w0 : World}
    (hQ : ∀ c a w, SRel N c C a w → Evo c0 w0 c w → Q .normal a w) :
    ∀ (fuel : Nat) (listed : Array Bool) (A C' : St) (c : Ctx) (a : Act) (w : World), listed.size = ops.size → (rest sops.length listed).length ≤ fuel →
      (∀ j, listed.getD j false = true → ∀ k, Bef sops k j → listed.getD k false = true) → RunL P base sops fpf (rest sops.length listed) A C' → SEq C' C → SRel N c A a w → Evo c0 w0 c w →
      wpAny P .any ops Q fuel listed a w := by
  intro fuel
  induction fuel with
  | zero =>
    intro listed A C' c a w hsz hf hcl hr he hS hE
    have h0 : rest sops.length listed = [] := List.eq_nil_of_length_eq_zero (by omega)
    refine ⟨?_, ?_⟩
    · rw [List.eq_nil_iff_forall_not_mem]
      intro j hj
      obtain ⟨g1, o, g2, g3⟩ := mem_ready.1 hj
      have : j < ops.size := (Array.getElem?_eq_some_iff.1 g2).1
      have : j ∈ rest sops.length listed := mem_rest.2 ⟨by rw [← F.size]; exact this, g1⟩
      rw [h0] at this; simp at this
    · rw [h0] at hr
      cases hr
      exact hQ c a w (hS.congr he) hE
  | succ fuel ih =>
    intro listed A C' c a w hsz hf hcl hr he hS hE
    refine ⟨?_, ?_⟩
    · intro hnil
      have h0 : rest sops.length listed = [] := by
        cases hrr : rest sops.length listed with
        | nil => rfl
        | cons i l =>
          exfalso
          -- the first of them is ready
          have hi : i ∈ rest sops.length listed := by rw [hrr]; simp
          obtain ⟨h1, h2⟩ := mem_rest.1 hi
          have hlt : i < ops.size := by rw [F.size]; exact h1
          have hready : i ∈ Region.ready .any ops listed := by
            rw [mem_ready]
            refine ⟨h2, ops[i], Array.getElem?_eq_getElem hlt, fun e he hb => ?_⟩
            obtain ⟨s, hs, _⟩ := F.ok i _ (Array.getElem?_eq_getElem hlt)
            have hmem := (F.after (Array.getElem?_eq_getElem hlt) hs e.on).2 ⟨e, he, hb, rfl⟩
            have hback := R.back i s hs e.on hmem
            have hon : e.on < listed.size := by omega
            cases hv : listed.getD e.on false with
            | true => rfl
            | false =>
              exfalso
              have hv2 : listed.getD e.on true = false := by simpa [hon] using hv
              have : e.on ∈ rest sops.length listed := mem_rest.2 ⟨by omega, hv2⟩
              rw [hrr] at this
              have hsorted : (rest sops.length listed).Pairwise (· < ·) := List.Pairwise.filter _ List.pairwise_lt_range
              rw [hrr, List.pairwise_cons] at hsorted
              rcases List.mem_cons.1 this with h | h
              · omega
              · have := hsorted.1 _ h; omega
          rw [hnil] at hready
          simp at hready
      rw [h0] at hr
      cases hr
      exact hQ c a w (hS.congr he) hE
    · intro i hi
      obtain ⟨g1, o, ho, g3⟩ := mem_ready.1 hi
      have hlt : i < ops.size := (Array.getElem?_eq_some_iff.1 ho).1
      have hmr : i ∈ rest sops.length listed := mem_rest.2 ⟨by rw [← F.size]; exact hlt, g1⟩
      obtain ⟨s, hs, hok⟩ := F.ok i o ho
      have hbefi : ∀ k, Bef sops k i → listed.getD k false = true := by
        intro k hb
        cases hb with
        | one h1 h2 =>
          rw [hs] at h1; cases h1
          obtain ⟨e, e1, e2, e3⟩ := (F.after ho hs k).1 h2
          rw [← e3]; exact g3 e e1 e2
        | more h1 h2 h3 =>
          rw [hs] at h1; cases h1
          rename_i e'
          obtain ⟨e, e1, e2, e3⟩ := (F.after ho hs e').1 h2
          exact hcl e' (by rw [← e3]; exact g3 e e1 e2) k h3
      obtain ⟨l1, l2, k1, k2, k3⟩ := rest_split hmr
      rw [k1] at hr
      obtain ⟨B, C'', ⟨s', v, h1, hs', hv, rfl⟩, hr', he'⟩ := RunL.front hr (fun k hk => by
        obtain ⟨m1, m2, m3⟩ := k3 k hk
        rcases R.apart k i m1 (by rw [← F.size]; exact hlt) with hb | hb
        · have hl := hbefi k hb
          have hksz : k < listed.size := by omega
          simp [hksz] at hl m3
          rw [hl] at m3; cases m3
        · exact hb)
      rw [hs] at hs'; cases hs'
      refine step_sound hS ho hok hv ?_
      intro c' a' w' hS' hE'
      refine ih _ _ C'' c' a' w' (by simpa using hsz) ?_ ?_ (by rw [k2]; exact hr') (he'.trans he) hS' (hE.trans hE')
      · rw [k2]
        rw [k1] at hf
        simp at hf ⊢
        omega
      · intro j hj k hb
        by_cases hji : j = i
        · subst hji
          exact getD_set_true (hbefi k hb)
        · rw [getD_set_ne false (fun h => hji h.symm)] at hj
          exact getD_set_true (hcl j hj k hb)

end Go.AM
