/- A part of the proof of SynthesisAgainSaid: lemmas on the way (AmT, AmDa, AmDb, AmDc, AmDd, AmDe, AmDf, AmDg, AmDh, AmDi, AmO, AmOa, AmP, AmQ). Conditions: none of ours. -/
import Derived.Laws.IdiomRangeMap
import Derived.Test.YtnfcjlgmkjiehaaAmZ4
set_option linter.unusedSectionVars false
set_option linter.unusedSimpArgs false
set_option linter.unusedVariables false
namespace Go.AM
variable {P : Program} {c : Ctx} {w : World} {h : Heap}
def upo (w : World) (r : Nat) (o : Obj) : World := { w with heap := w.heap.setIfInBounds r o }
theorem upo_same {r : Nat} {o : Obj} (hr : r < w.heap.size) : (upo w r o).heap[r]? = some o := by
  simp [upo, hr]
theorem upo_other {r k : Nat} {o : Obj} (hk : k ≠ r) : (upo w r o).heap[k]? = w.heap[k]? := by
  simp [upo, Array.getElem?_setIfInBounds_ne (Ne.symm hk)]
theorem upo_size {r : Nat} {o : Obj} : (upo w r o).heap.size = w.heap.size := by simp [upo]
theorem HRel.other (H : HRel c h w) {r : Nat} {o o' : Obj} (hr : w.heap[r]? = some o) (hc : ∀ C e fr, o ≠ .cells C e fr) (hO : ¬ c.O r) (hF : ¬ c.F r) :
    Ext c w c (upo w r o') ∧ HRel c h (upo w r o') := by
  have E : Ext c w c (upo w r o') := by
    refine ⟨fun _ _ _ h => h, fun _ h => h, fun cb ob hf hb => ?_, fun cb C e fr hb => ?_⟩
    · rw [upo_other (by intro e; subst e; exact hF hf)]; exact hb
    · refine ⟨C, fr, ?_, rfl⟩
      rw [upo_other (fun e2 => by subst e2; rw [hr] at hb; cases hb; exact hc _ _ _ rfl)]; exact hb
  refine ⟨E, H.fresh, H.later, fun b x hg => ?_, H.inj, H.disj, fun k hk => by rw [upo_size]; exact H.inF k hk, fun k hk => by rw [upo_size]; exact H.inO k hk⟩
  refine BRel.mono E (fun cb base hd hp => ?_) (H.blk b x hg)
  have hOc := H.owned ⟨x, hg, rfl, hd⟩ hp
  exact ⟨hOc, upo_other (by intro e; subst e; exact hO hOc)⟩
def Ctx.name (c : Ctx) (b r : Nat) : Ctx := { c with ρ := fun x y => if x = b ∧ y = 0 then some (.loc r 0) else c.ρ x y }
theorem HRel.name (H : HRel c h w) {b r : Nat} (hb : h.get b = none) (hl : b < lim) : Evo c w (c.name b r) w ∧ HRel (c.name b r) (h.set b (.dead 0)) w := by
  have E : Evo c w (c.name b r) w := by
    refine ⟨rfl, rfl, rfl, Nat.le_refl _, fun _ C _ fr h => ⟨C, fr, h, rfl⟩, fun _ _ _ => rfl, ?_, fun _ h => h, fun _ h => .inl h, fun _ h => .inl h⟩
    intro x y p hp
    show (if x = b ∧ y = 0 then some (Place.loc r 0) else c.ρ x y) = some p
    by_cases e : x = b ∧ y = 0
    · obtain ⟨rfl, rfl⟩ := e
      rw [H.fresh _ hb] at hp; cases hp
    · rw [if_neg e]; exact hp
  have hne : ∀ {x y : Nat}, x ≠ b → (c.name b r).ρ x y = c.ρ x y := by
    intro x y hx
    show (if x = b ∧ y = 0 then some (Place.loc r 0) else c.ρ x y) = _
    rw [if_neg (fun e => hx e.1)]
  refine ⟨E, ?_, ?_, ?_, ?_, H.disj, H.inF, H.inO⟩
  · intro x hx g
    rw [Tr.get_set _ hl] at hx
    by_cases e : x = b
    · rw [if_pos e] at hx; cases hx
    · rw [if_neg e] at hx; rw [hne e]; exact H.fresh x hx g
  · intro x z hx g hg
    rw [Tr.get_set _ hl] at hx
    by_cases e : x = b
    · rw [if_pos e] at hx; cases hx
      subst e
      show (if x = x ∧ g = 0 then some (Place.loc r 0) else c.ρ x g) = none
      rw [if_neg (by simp only [Blk.gen] at hg; omega)]
      exact H.fresh _ hb g
    · rw [if_neg e] at hx; rw [hne e]; exact H.later x z hx g hg
  · intro x z hx
    rw [Tr.get_set _ hl] at hx
    by_cases e : x = b
    · rw [if_pos e] at hx; cases hx; trivial
    · rw [if_neg e] at hx
      refine BRel.mono (E.ext H.disj) (fun cb base hd hp => ?_) (H.blk x z hx)
      exact ⟨H.owned ⟨z, hx, rfl, hd⟩ hp, rfl⟩
  · intro x g x' g' cb base base' l l' p p'
    have live : ∀ {x g : Nat}, Live (h.set b (.dead 0)) x g → x ≠ b ∧ Live h x g := by
      rintro x g ⟨z, hz, hg, hd⟩
      rw [Tr.get_set _ hl] at hz
      by_cases e : x = b
      · rw [if_pos e] at hz; cases hz; exact absurd rfl (hd 0)
      · rw [if_neg e] at hz; exact ⟨e, z, hz, hg, hd⟩
    obtain ⟨n1, l1⟩ := live l
    obtain ⟨n2, l2⟩ := live l'
    rw [hne n1] at p
    rw [hne n2] at p'
    exact H.inj _ _ _ _ _ _ _ l1 l2 p p'
theorem MRel_born : ∀ {xs : List (AV × AV)} {es : List MapEntry} {n k : Nat}, MRel c w xs es n → k + xs.length = n → ∀ (i : Nat) (e : MapEntry), es[i]? = some e → e.born = k + i ∧ i < xs.length
  | [], es, n, k, hm, hk, i, e, hi => by simp only [MRel] at hm; subst hm; simp at hi
  | (x, y) :: xs, es, n, k, hm, hk, i, e, hi => by
    simp only [MRel] at hm
    obtain ⟨e0, es', rfl, _, _, _, h4, h5⟩ := hm
    simp only [List.length_cons] at hk
    cases i with
    | zero => simp at hi; subst hi; exact ⟨by omega, by simp⟩
    | succ i =>
      simp at hi
      obtain ⟨h6, h7⟩ := MRel_born h5 (k := k + 1) (by omega) i e hi
      exact ⟨by omega, by simp; omega⟩
theorem run_next_at {ty : TypeId} {r bm since c0 clock : Nat} {seen : Array Nat} {es : Array MapEntry} (hr : w.heap[r]? = some (.mapIter (some bm) since seen c0)) (hb : w.heap[bm]? = some (.map es clock))
    (hold : ∀ x ∈ es.toList, x.born < since) (hsc : since ≤ c0) :
    ((leftOf es seen).size = 0 ∧ (Instr.next (.pointer (some ⟨r, 0, none⟩)) false ty).run P w = .ok (.tuple #[.bool false]) w) ∨
    ∃ e ∈ (leftOf es seen).toList, ∃ w1 : World, (w1 = w ∨ w1 = w.drew) ∧ (Instr.next (.pointer (some ⟨r, 0, none⟩)) false ty).run P w = .ok (.tuple #[.bool true, e.key, e.val]) (upo w1 r (.mapIter (some bm) since (seen.push e.born) clock)) := by
  simp only [Instr.next, getObj, Sem.run_bind, Sem.run, hr, hb, Result.andThen, next_test_false seen es since c0 hold hsc, Bool.false_eq_true, if_false]
  unfold leftOf
  have hmem : ∀ x ∈ (Array.filter (fun e => !seen.contains e.born) es).toList, x.born < since := fun x hx => hold x (by simp at hx ⊢; exact hx.1)
  generalize Array.filter (fun e => !seen.contains e.born) es = L at hmem ⊢
  have e1 : L.filter (fun x => decide (x.born < since)) = L := Array.filter_eq_self.2 (fun x hx => by simpa using hmem x (by simpa using hx))
  have e2 : L.filter (fun x => decide (x.born ≥ since)) = #[] := by
    rw [Array.filter_eq_empty_iff]
    intro x hx
    have := hmem x (by simpa using hx)
    simp
    omega
  simp only [e1, e2, Array.append_empty]
  by_cases h0 : L.size = 0
  · left
    have : L = #[] := Array.eq_empty_of_size_eq_zero h0
    subst this
    refine ⟨rfl, ?_⟩
    simp [choose, Sem.run, Question.forced]
  · right
    have hne : L.isEmpty = false := by simp [Array.isEmpty, h0]
    simp only [hne, Bool.false_eq_true, if_false, Array.empty_append, Array.size_map]
    have hch : ∃ (j : Nat) (w1 : World), j < L.size ∧ (w1 = w ∨ w1 = w.drew) ∧ (choose (Question.mapNext L.size)).run P w = .ok j w1 := by
      by_cases hf : L.size ≤ 1
      · exact ⟨0, w, by omega, .inl rfl, by simp [choose, Sem.run, Question.forced, hf]⟩
      · exact ⟨_, w.drew, Nat.mod_lt _ (by omega), .inr rfl, by
          simp only [choose, Sem.run, Question.forced, decide_eq_true_eq, hf, if_false, Question.cut]
          rfl⟩
    obtain ⟨j, w1, hj, hal, hrun⟩ := hch
    refine ⟨L[j], by simp, w1, hal, ?_⟩
    have hr1 : w1.heap[r]? = some (.mapIter (some bm) since seen c0) := by rcases hal with rfl | rfl <;> exact hr
    have hset : ∀ (o' : Obj), (setObj r o').run P w1 = .ok () (upo w1 r o') := fun o' => by
      simp [setObj, Sem.run, hr1, upo]
    simp only [hrun, Array.getElem?_map, Array.getElem?_eq_getElem hj, Option.map_some, Sem.run_bind, hset, Result.andThen]
    rfl
theorem run_entry_at {r bm since clock : Nat} {seen : Array Nat} {es : Array MapEntry} {e : MapEntry} (hr : w.heap[r]? = some (.mapIter (some bm) since (seen.push e.born) clock)) (hb : w.heap[bm]? = some (.map es clock))
    (he : e ∈ es.toList) (hn : (es.toList.map (·.born)).Nodup) : (Instr.entry (.pointer (some ⟨r, 0, none⟩))).run P w = .ok (.tuple #[e.key, e.val]) w := by
  have hf : es.find? (·.born == e.born) = some e := by rw [← Array.find?_toList]; exact find_born e es.toList hn he
  simp only [Instr.entry, getObj, Sem.run_bind, Sem.run, hr, hb, Result.andThen, Array.back?_push, bne_self_eq_false, Bool.false_eq_true, if_false, hf]
  rfl
theorem wpOp_value {ops : Array Oper} {o : Oper} {i : Nat} {Q : Exit → Act → World → Prop} {K : Act → World → Prop} {a : Act} {w' : World} {cv : Value} (ho : ops[i]? = some o) (hg : o.guard = none)
    (hr : (execOp a.eval o).run P w = .ok (.value cv) w') (hK : K (a.put o.dst cv) w') : wpOp P ops Q i K a w := by
  unfold wpOp
  rw [ho]
  have : Region.wanted o (yielded ops a.tmps) = true := by simp [Region.wanted, hg]
  simp only [this, if_true]
  left
  unfold Oper.wp
  rw [hr]
  exact hK
theorem run_ops {N base : Nat} {ops : Array Oper} {Q : Exit → Act → World → Prop} {C : St} {c0 : Ctx} {w0 : World} {tl : List Nat}
    (hQ : ∀ c a w, SRel N c C a w → Evo c0 w0 c w → wpOps P ops Q tl a w) :
    ∀ (l : List SOper) (i j : Nat) (fs : List FP) (A : St) (c : Ctx) (a : Act) (w : World), (∀ k s, l[k]? = some s → ∃ o, ops[i + k]? = some o ∧ okOper P N ops o s = true) → RunF P base j l fs A C → SRel N c A a w → Evo c0 w0 c w →
      wpOps P ops Q (List.range' i l.length ++ tl) a w
  | [], i, j, fs, A, c, a, w, hok, hr, S, E => by
    obtain ⟨_, rfl⟩ := hr
    simpa using hQ c a w S E
  | s :: l, i, j, fs, A, c, a, w, hok, hr, S, E => by
    obtain ⟨f, fs', v, h1, _, hs, hr⟩ := hr
    rw [List.length_cons, List.range'_succ, List.cons_append, wpOps_cons]
    obtain ⟨o, ho, hk⟩ := hok 0 s rfl
    rw [Nat.add_zero] at ho
    refine step_sound S ho hk hs fun c' a' w' S' E' => ?_
    refine run_ops hQ l (i + 1) (j + 1) fs' _ c' a' w' ?_ hr S' (E.trans E')
    intro k s' hk'
    obtain ⟨o', ho', hok'⟩ := hok (k + 1) s' (by simpa using hk')
    exact ⟨o', by rw [← ho']; congr 1; omega, hok'⟩
theorem mlParts_eq {code : Code} {p : MLParts} (h : mlParts code = some p) : ∃ i6 i7 i8, code = .seq (.region i6 p.ops6 false) (.block p.b (.loop (.seq (.region i7 p.ops7 false) (.seq (.cond (.tmp p.c) .skip (.exit p.b')) (.block p.b3 (.seq (.region i8 p.ops8 false) p.body)))))) := by
  unfold mlParts at h
  split at h
  · cases h; exact ⟨_, _, _, rfl⟩
  · cases h
theorem VRel_name {b r : Nat} : VRel (c.name b r) w (.ptr b 0 0) (.pointer (some ⟨r, 0, none⟩)) := by
  simp only [VRel]
  exact ⟨r, 0, by show (if b = b ∧ 0 = 0 then some (Place.loc r 0) else _) = _; simp, by simp⟩
structure IterAt (c : Ctx) (w : World) (b r mb mg n : Nat) (vis : List Nat) (m : Nat) (seen : Array Nat) : Prop where
  name : c.ρ b 0 = some (.loc r 0)
  free : ¬ c.O r ∧ ¬ c.F r ∧ r < w.heap.size
  obj : w.heap[r]? = some (.mapIter (some m) n seen n)
  place : c.ρ mb mg = some (.loc m 0)
  seen : ∀ i, i < n → (seen.contains i = true ↔ i ∈ vis)
theorem IterAt.evo {b r mb mg n m : Nat} {vis : List Nat} {seen : Array Nat} {c' : Ctx} {w' : World} (I : IterAt c w b r mb mg n vis m seen) (E : Evo c w c' w') : IterAt c' w' b r mb mg n vis m seen :=
  ⟨E.rho _ _ _ I.name, ⟨fun h => (E.own r h).elim I.free.1 (fun h => absurd I.free.2.2 (by omega)), fun h => (E.frzNew r h).elim I.free.2.1 (fun h => h.elim I.free.1 (fun h => absurd I.free.2.2 (by omega))), Nat.lt_of_lt_of_le I.free.2.2 E.size⟩,
    by rw [E.keep r I.free.2.2 I.free.1]; exact I.obj, E.rho _ _ _ I.place, I.seen⟩
theorem SRel_up {N : Nat} {A : St} {a : Act} {d : Nat} {v : AV} {cv : Value} (S : SRel N c A a w) (hd : d < N) (V : VRel c w v cv) : SRel N c ⟨up A.T d v, A.h⟩ (a.put (some d) cv) w := by
  have := S.put (dst := some d) (.refl c w) S.heap (fun e he => by cases he; exact hd) V
  exact this
theorem SRel.turn {N : Nat} {A : St} {a : Act} {r : Nat} {o o' : Obj} (S : SRel N c A a w) (hr : w.heap[r]? = some o) (hc : ∀ C e fr, o ≠ .cells C e fr) (hO : ¬ c.O r) (hF : ¬ c.F r) : SRel N c A a (upo w r o') := by
  obtain ⟨E, H⟩ := S.heap.other (o' := o') hr hc hO hF
  exact ⟨H, fun i => VRel.mono E _ _ (S.tmps i), S.size, S.defers⟩
theorem Evo.turn {c0 : Ctx} {w0 : World} (E : Evo c0 w0 c w) {r : Nat} {o' : Obj} (hr : w0.heap.size ≤ r) : Evo c0 w0 c (upo w r o') :=
  ⟨E.os, E.tape, E.output, by rw [upo_size]; exact E.size,
    fun cb C e fr hb => by
      obtain ⟨C', fr', h1, h2⟩ := E.shape cb C e fr hb
      exact ⟨C', fr', by rw [upo_other (by have := lt_of_heap hb; omega)]; exact h1, h2⟩,
    fun cb hlt hO => by rw [upo_other (by omega)]; exact E.keep cb hlt hO, E.rho, E.frz, E.frzNew, E.own⟩
theorem filter_ne_lt {i : Nat} : ∀ (L : List Nat), i ∈ L → (L.filter fun j => j ≠ i).length < L.length
  | [], h => by cases h
  | y :: L, hmem => by
    rcases List.mem_cons.1 hmem with h | h
    · subst h
      simp only [List.filter_cons, ne_eq, not_true_eq_false, decide_false, Bool.false_eq_true, if_false, List.length_cons]
      have := List.length_filter_le (fun j => decide (j ≠ i)) L
      simp only [ne_eq] at this
      omega
    · have := filter_ne_lt L h
      rw [List.filter_cons]
      split
      · simp only [List.length_cons]; omega
      · simp only [List.length_cons]; omega
theorem W.mloop {N n : Nat} {Q : SX → St → Prop} {A B0 : St} {pre rest : List SOper} {x : Opd} {it nx ok en b1 b2 : Nat} {body : SCode} (base : Nat) (fs : List FP) (hr : RunF P base 0 pre fs A B0)
    {mb mg : Nat} {es : List (AV × AV)} (hx : ev B0.T x = .map mb mg) (hm : B0.h.get mb = some (.map mg es)) (hn : B0.h.get n = none) (hnl : n < lim)
    (I : List Nat → St → Prop) (hI : ∀ vis B, I vis B → lk B.T it = .ptr n 0 0 ∧ ∃ es', B.h.get mb = some (.map mg es') ∧ es'.length = es.length)
    (h0 : I [] ⟨up B0.T it (.ptr n 0 0), B0.h.set n (.dead 0)⟩)
    (round : ∀ vis B i k v es', I vis B → i ∉ vis → B.h.get mb = some (.map mg es') → es'[i]? = some (k, v) → ∃ bs fs C, RunF P bs 0 rest fs ⟨up (up (up B.T nx .any) ok (.bool true)) en (.tup [k, v]), B.h⟩ C ∧
      W P N body (fun e D => match e with
        | .normal => I (i :: vis) D
        | .exit j => if j = b2 then I (i :: vis) D else if j = b1 then Q .normal D else Q (.exit j) D
        | .ret => Q .ret D) C)
    (done : ∀ vis B, I vis B → (∀ i, i < es.length → i ∈ vis) → Q .normal ⟨up (up B.T nx .any) ok (.bool false), B.h⟩) : W P N (.mloop pre x it nx ok en b1 b2 rest body) Q A := by
  intro code hok c0 a0 w0 S0 Q' hQ
  simp only [okCode] at hok
  split at hok
  · rename_i p hp
    simp only [Bool.and_eq_true, beq_iff_eq] at hok
    obtain ⟨⟨⟨⟨⟨⟨⟨o6, ob⟩, o7⟩, oc⟩, ob'⟩, ob3⟩, o8⟩, obd⟩ := hok
    obtain ⟨i6, i7, i8, rfl⟩ := mlParts_eq hp
    rw [ob, oc, ob', ob3]
    unfold okRange at o6
    split at o6
    · rename_i o ho
      simp only [Bool.and_eq_true, beq_iff_eq, decide_eq_true_eq, Option.isNone_iff_eq_none] at o6
      obtain ⟨⟨⟨⟨⟨g1, g2⟩, g3⟩, g4⟩, g5⟩, g6⟩ := o6
      obtain ⟨k1, k2⟩ := okOpers_get g6
      have hpre : ∀ k s, pre[k]? = some s → ∃ o, p.ops6[0 + k]? = some o ∧ okOper P N p.ops6 o s = true := by
        intro k s hs
        have hlt : k < pre.length := (List.getElem?_eq_some_iff.1 hs).1
        have hlt6 : k < p.ops6.size := by omega
        have e1 : (p.ops6.toList.take pre.length)[k]? = some p.ops6[k] := by
          rw [List.getElem?_take, if_pos hlt]; simp [hlt6]
        obtain ⟨s', hs', hk⟩ := k2 k _ e1
        rw [hs] at hs'; cases hs'
        exact ⟨p.ops6[k], by simp [hlt6], hk⟩
      refine wp_seq (wp_region ?_)
      rw [g5, show List.range (pre.length + 1) = List.range' 0 pre.length ++ [pre.length] by rw [List.range_succ, List.range_eq_range']]
      refine run_ops (c0 := c0) (w0 := w0) ?_ pre 0 0 fs A c0 a0 w0 hpre hr S0 (.refl _ _)
      intro c a w S E
      rw [wpOps_cons]
      split at g4
      · rename_i t y hop
        simp only [Bool.and_eq_true] at g4
        obtain ⟨gt, gx⟩ := g4
        have hxr := okOpd_rel S.tmps gx
        rw [hx] at hxr
        simp only [VRel] at hxr
        obtain ⟨m, hpm, hym⟩ := hxr
        obtain ⟨ms, clock, hOm, hCm, hRm, hcl⟩ := S.heap.atMap hm hpm
        obtain ⟨kt, et, hu⟩ : ∃ kt et, P.underlying t = some (.map kt et) := by
          unfold isMapT at gt
          split at gt
          · rename_i kt et hu; exact ⟨kt, et, hu⟩
          · cases gt
        have hrun : (execOp a.eval o).run P w = .ok (.value (.pointer (some ⟨w.heap.size, 0, none⟩))) (w.alloc (.mapIter (some m) clock #[] clock)) := by
          have e1 : execOp a.eval o = (do pure (.value (← Instr.range t (a.eval y)))) := by
            cases o; simp only at hop; subst hop; rfl
          rw [e1, hym]
          simp [run_range_map w t kt et m ms clock hu hCm]
        refine wpOp_value ho g3 hrun ?_
        show Exit.then _ _ .normal _ _
        rw [g1]
        obtain ⟨E1, H1⟩ := S.heap.grow (w' := w.alloc (.mapIter (some m) clock #[] clock)) rfl rfl rfl (by simp) (fun k hk => by first | exact heap_alloc_old w _ hk | exact heap_alloc_old w _ k hk)
        obtain ⟨E2, H2⟩ := H1.name (b := n) (r := w.heap.size) hn hnl
        have E02 : Evo c0 w0 (c.name n w.heap.size) (w.alloc (.mapIter (some m) clock #[] clock)) := (E.trans E1).trans E2
        have S2 : SRel N (c.name n w.heap.size) ⟨up B0.T it (.ptr n 0 0), B0.h.set n (.dead 0)⟩ (a.put (some it) (.pointer (some ⟨w.heap.size, 0, none⟩))) (w.alloc (.mapIter (some m) clock #[] clock)) :=
          S.put (dst := some it) (E1.trans E2) H2 (fun d hd => by cases hd; exact g2) VRel_name
        have hsz : w.heap.size < (w.alloc (.mapIter (some m) clock #[] clock)).heap.size := by simp
        have J2 : IterAt (c.name n w.heap.size) (w.alloc (.mapIter (some m) clock #[] clock)) n w.heap.size mb mg es.length [] m #[] := by
          refine ⟨?_, ⟨fun hO => absurd (S.heap.inO _ hO) (Nat.lt_irrefl _), fun hF => absurd (S.heap.inF _ hF) (Nat.lt_irrefl _), hsz⟩, ?_, E2.rho _ _ _ hpm, fun i _ => by simp⟩
          · show (if n = n ∧ 0 = 0 then some (Place.loc w.heap.size 0) else _) = _; simp
          · rw [heap_alloc_new, hcl]
        have hr0' : w0.heap.size ≤ w.heap.size := E.size
        generalize w.heap.size = r at *
        generalize w.alloc (.mapIter (some m) clock #[] clock) = w2 at *
        generalize a.put (some it) (.pointer (some ⟨r, 0, none⟩)) = a2 at *
        generalize hB2 : (⟨up B0.T it (.ptr n 0 0), B0.h.set n (.dead 0)⟩ : St) = B2 at *
        generalize c.name n r = c2 at *
        refine wp_block ?_
        have key : ∀ (left : Nat) (vis : List Nat) (B : St) (c : Ctx) (a : Act) (w : World) (m : Nat) (seen : Array Nat), ((List.range es.length).filter fun i => i ∉ vis).length = left → I vis B → SRel N c B a w → Evo c0 w0 c w → IterAt c w n r mb mg es.length vis m seen →
            ∀ bf k cs, ∃ e a' w', (match e with | .exit j => if j = b1 then Q' .normal a' w' else Q' (.exit j) a' w' | e => Q' e a' w') ∧
              Arrives P (lone (bf.at a (.code (.seq (.region i7 p.ops7 false) (.seq (.cond (.tmp ok) .skip (.exit b1)) (.block b2 (.seq (.region i8 p.ops8 false) p.body)))) :: .inLoop (.seq (.region i7 p.ops7 false) (.seq (.cond (.tmp ok) .skip (.exit b1)) (.block b2 (.seq (.region i8 p.ops8 false) p.body)))) :: k)) cs w) bf k cs e a' w' := by
          intro left
          induction left using Nat.strongRecOn with
          | _ left ih =>
            intro vis B c a w m seen hleft hIB S E J bf k cs
            obtain ⟨hit, es', hmapB, hel⟩ := hI vis B hIB
            have hv := S.tmps it
            rw [hit] at hv
            simp only [VRel] at hv
            obtain ⟨cb, bs, hp1, hv⟩ := hv
            rw [J.name] at hp1; cases hp1
            obtain ⟨ms, clock, hOm, hCm, hRm, hcl⟩ := S.heap.atMap hmapB J.place
            have hlen := MRel_length hRm
            have hborn : ∀ (i : Nat) (e : MapEntry), ms.toList[i]? = some e → e.born = i ∧ i < es.length := by
              intro i e hi
              have := MRel_born hRm (k := 0) (by omega) i e hi
              rw [hel] at this
              simpa using this
            have hold : ∀ y ∈ ms.toList, y.born < es.length := by
              intro y hy
              obtain ⟨i, hi⟩ := List.mem_iff_getElem?.1 hy
              obtain ⟨h1, h2⟩ := hborn i y hi
              omega
            unfold okNext at o7
            split at o7
            · rename_i oa ob7 h7
              simp only [Bool.and_eq_true, beq_iff_eq, decide_eq_true_eq, Option.isNone_iff_eq_none, Bool.not_eq_true', beq_eq_false_iff_ne] at o7
              obtain ⟨⟨⟨⟨⟨⟨⟨⟨⟨q1, q2⟩, q3⟩, q4⟩, q5⟩, q6⟩, q7⟩, q8⟩, q9⟩, q10⟩ := o7
              have h7' : p.ops7 = #[oa, ob7] := by apply Array.ext'; simpa using h7
              have hround : (Code.seq (.region i7 p.ops7 false) (.seq (.cond (.tmp ok) .skip (.exit b1)) (.block b2 (.seq (.region i8 p.ops8 false) p.body)))).wp P (fun e a' w' => match e with
                  | .normal => ∃ left' vis' B' c' m' seen', left' < left ∧ ((List.range es.length).filter fun i => i ∉ vis').length = left' ∧ I vis' B' ∧ SRel N c' B' a' w' ∧ Evo c0 w0 c' w' ∧ IterAt c' w' n r mb mg es.length vis' m' seen'
                  | .exit j => if j = b1 then Q' .normal a' w' else Q' (.exit j) a' w'
                  | e => Q' e a' w') a w := by
                refine wp_seq (wp_region ?_)
                rw [h7']
                show wpOps P _ _ [0, 1] a w
                rw [wpOps_cons]
                split at q4
                · rename_i j hopa
                  have hji : j = it := by simpa using q4
                  subst hji
                  split at q8
                  · rename_i j2 hopb
                    have hj2 : j2 = nx := by simpa using q8
                    subst hj2
                    have hevi : a.eval (.tmp j) = .pointer (some ⟨r, 0, none⟩) := by simpa [Act.eval] using hv
                    have eA : execOp a.eval oa = (do pure (.value (← Instr.next (a.eval (.tmp j)) false oa.type))) := by
                      cases oa; simp only at hopa; subst hopa; rfl
                    have eB : ∀ (a : Act), execOp a.eval ob7 = (do pure (.value (← Instr.extract (a.eval (.tmp j2)) 0))) := by
                      intro a
                      cases ob7; simp only at hopb; subst hopb; rfl
                    rcases run_next_at (P := P) (ty := oa.type) J.obj hCm hold (Nat.le_refl _) with ⟨h1, h2⟩ | ⟨e, he, w1, hw1, h2⟩
                    · -- nothing is left
                      refine wpOp_value (by simp) q3 (cv := .tuple #[.bool false]) (w' := w) (by rw [eA, hevi]; simp [h2]) ?_
                      rw [q1]
                      have S1 : SRel N c ⟨up B.T j2 .any, B.h⟩ (a.put (some j2) (.tuple #[.bool false])) w := SRel_up S q2 (by simp [VRel])
                      have hl1 : j2 < (a.put (some j2) (.tuple #[.bool false])).tmps.size := by rw [S1.size]; exact q2
                      have hev1 : (a.put (some j2) (.tuple #[.bool false])).eval (.tmp j2) = .tuple #[.bool false] := by
                        have hl0 : j2 < a.tmps.size := by rw [S.size]; exact q2
                        simp [Act.eval, Act.put, hl0]
                      rw [wpOps_cons]
                      refine wpOp_value (by simp) q7 (cv := .bool false) (w' := w) (by rw [eB, hev1]; simp [Instr.extract]) ?_
                      rw [q5]
                      have S2 : SRel N c ⟨up (up B.T j2 .any) ok (.bool false), B.h⟩ ((a.put (some j2) (.tuple #[.bool false])).put (some ok) (.bool false)) w := SRel_up S1 q6 (by simp [VRel])
                      show Exit.then _ _ .normal _ _
                      refine wp_seq ?_
                      have hc2 : ((a.put (some j2) (.tuple #[.bool false])).put (some ok) (.bool false)).eval (.tmp ok) = .bool false := by
                        have := S2.tmps ok
                        simp only [lk_up, if_true, VRel] at this
                        simpa [Act.eval] using this
                      refine wp_cond hc2 ?_
                      refine wp_exit ?_
                      show (if b1 = b1 then Q' .normal _ _ else _)
                      rw [if_pos rfl]
                      refine hQ .normal _ c _ w (done vis B hIB ?_) S2 E
                      intro i hi
                      have hmi : i < ms.toList.length := by omega
                      have hbi := hborn i ms.toList[i] (List.getElem?_eq_getElem hmi)
                      refine (J.seen i hi).1 ?_
                      cases hcs : seen.contains i with
                      | true => rfl
                      | false =>
                        exfalso
                        have hmem : ms.toList[i] ∈ (leftOf ms seen).toList := by
                          unfold leftOf
                          rw [Array.toList_filter]
                          refine List.mem_filter.2 ⟨List.getElem_mem hmi, ?_⟩
                          rw [hbi.1, hcs]; rfl
                        have : (leftOf ms seen).toList.length = 0 := by simpa using h1
                        rw [List.length_eq_zero_iff.1 this] at hmem
                        cases hmem
                    · -- an entry
                      have hem : e ∈ ms.toList ∧ seen.contains e.born = false := by
                        unfold leftOf at he
                        rw [Array.toList_filter] at he
                        obtain ⟨h3, h4⟩ := List.mem_filter.1 he
                        exact ⟨h3, by simpa using h4⟩
                      obtain ⟨i, hi⟩ := List.mem_iff_getElem?.1 hem.1
                      obtain ⟨hb1, hilt⟩ := hborn i e hi
                      have hnv : i ∉ vis := by
                        intro hiv
                        have := (J.seen i hilt).2 hiv
                        rw [← hb1, hem.2] at this; cases this
                      have hilt' : i < es'.length := by omega
                      have hesi : es'[i]? = some es'[i] := List.getElem?_eq_getElem hilt'
                      obtain ⟨e', he', hk1, hk2⟩ := MRel_get i hRm hesi
                      rw [hi] at he'; cases he'
                      obtain ⟨E1, H1⟩ := S.heap.drew
                      have Sd : SRel N c B a w1 ∧ Evo c w c w1 := by
                        rcases hw1 with rfl | rfl
                        · exact ⟨S, .refl _ _⟩
                        · exact ⟨⟨H1, fun i => VRel.mono (E1.ext S.heap.disj) _ _ (S.tmps i), S.size, S.defers⟩, E1⟩
                      have hr1 : w1.heap[r]? = some (.mapIter (some m) es.length seen es.length) := by rcases hw1 with rfl | rfl <;> exact J.obj
                      have hC1 : w1.heap[m]? = some (.map ms clock) := by rcases hw1 with rfl | rfl <;> exact hCm
                      have hmr : m ≠ r := by intro e; subst e; have h9 := J.obj; rw [hCm] at h9; cases h9
                      have S1 := Sd.1.turn (o' := .mapIter (some m) es.length (seen.push e.born) clock) hr1 (by intro _ _ _ h; cases h) J.free.1 J.free.2.1
                      have E1' : Evo c0 w0 c (upo w1 r (.mapIter (some m) es.length (seen.push e.born) clock)) := (E.trans Sd.2).turn hr0'
                      have hsz1 : r < w1.heap.size := by rcases hw1 with rfl | rfl <;> exact J.free.2.2
                      have J1 : IterAt c (upo w1 r (.mapIter (some m) es.length (seen.push e.born) clock)) n r mb mg es.length (i :: vis) m (seen.push e.born) := by
                        refine ⟨J.name, ⟨J.free.1, J.free.2.1, by rw [upo_size]; exact hsz1⟩, by rw [upo_same hsz1, hcl, hel], J.place, ?_⟩
                        intro j hj
                        rw [Array.contains_push, List.mem_cons, hb1]
                        by_cases hji : j = i
                        · simp [hji]
                        · have : (j == i) = false := by simpa using hji
                          simp only [this, Bool.or_false, hji, false_or]
                          exact J.seen j hj
                      have hC2 : (upo w1 r (.mapIter (some m) es.length (seen.push e.born) clock)).heap[m]? = some (.map ms clock) := by rw [upo_other hmr]; exact hC1
                      generalize hw2 : upo w1 r (.mapIter (some m) es.length (seen.push e.born) clock) = w2' at *
                      refine wpOp_value (by simp) q3 (cv := .tuple #[.bool true, e.key, e.val]) (w' := w2') (by rw [eA, hevi]; simp [h2]) ?_
                      rw [q1]
                      have S2 : SRel N c ⟨up B.T j2 .any, B.h⟩ (a.put (some j2) (.tuple #[.bool true, e.key, e.val])) w2' := SRel_up S1 q2 (by simp [VRel])
                      have hev1 : (a.put (some j2) (.tuple #[.bool true, e.key, e.val])).eval (.tmp j2) = .tuple #[.bool true, e.key, e.val] := by
                        have hl0 : j2 < a.tmps.size := by rw [S.size]; exact q2
                        simp [Act.eval, Act.put, hl0]
                      rw [wpOps_cons]
                      refine wpOp_value (by simp) q7 (cv := .bool true) (w' := w2') (by rw [eB, hev1]; simp [Instr.extract]) ?_
                      rw [q5]
                      have S3 : SRel N c ⟨up (up B.T j2 .any) ok (.bool true), B.h⟩ ((a.put (some j2) (.tuple #[.bool true, e.key, e.val])).put (some ok) (.bool true)) w2' := SRel_up S2 q6 (by simp [VRel])
                      show Exit.then _ _ .normal _ _
                      refine wp_seq ?_
                      have hc2 : ((a.put (some j2) (.tuple #[.bool true, e.key, e.val])).put (some ok) (.bool true)).eval (.tmp ok) = .bool true := by
                        have := S3.tmps ok
                        simp only [lk_up, if_true, VRel] at this
                        simpa [Act.eval] using this
                      refine wp_cond hc2 ?_
                      refine wp_skip ?_
                      show Exit.then _ _ .normal _ _
                      refine wp_block (wp_seq (wp_region ?_))
                      unfold okEntry at o8
                      split at o8
                      · rename_i oe le h8
                        simp only [Bool.and_eq_true, beq_iff_eq, decide_eq_true_eq, Option.isNone_iff_eq_none] at o8
                        obtain ⟨⟨⟨⟨z1, z2⟩, z3⟩, z4⟩, z5⟩ := o8
                        obtain ⟨y1, y2⟩ := okOpers_get z5
                        have hs8 : p.ops8.size = 1 + rest.length := by
                          have : p.ops8.toList.length = (oe :: le).length := by rw [h8]
                          simp at this; omega
                        have hg8 : ∀ k, p.ops8[k]? = (oe :: le)[k]? := fun k => by rw [← h8, Array.getElem?_toList]
                        rw [hs8, show List.range (1 + rest.length) = 0 :: (List.range' 1 rest.length ++ []) by rw [List.range_eq_range', Nat.add_comm, List.range'_succ]; simp]
                        rw [wpOps_cons]
                        split at z4
                        · rename_i j3 hope
                          have hj3 : j3 = j := by simpa using z4
                          subst hj3
                          have eE : ∀ (a : Act), execOp a.eval oe = (do pure (.value (← Instr.entry (a.eval (.tmp j3))))) := by
                            intro a
                            cases oe; simp only at hope; subst hope; rfl
                          have hev3 : ((a.put (some j2) (.tuple #[.bool true, e.key, e.val])).put (some ok) (.bool true)).eval (.tmp j3) = .pointer (some ⟨r, 0, none⟩) := by
                            rw [← hevi]
                            simp [Act.eval, Act.put, Array.getElem?_setIfInBounds_ne q10, Array.getElem?_setIfInBounds_ne q9]
                          have hnd : (ms.toList.map (·.born)).Nodup := by
                            refine List.pairwise_iff_getElem.2 ?_
                            intro x y hxl hyl hxy
                            simp only [List.length_map] at hxl hyl
                            simp only [List.getElem_map]
                            have a1 := hborn x _ (List.getElem?_eq_getElem hxl)
                            have a2 := hborn y _ (List.getElem?_eq_getElem hyl)
                            omega
                          have hobj2 : w2'.heap[r]? = some (.mapIter (some m) es.length (seen.push e.born) clock) := by rw [J1.obj, hcl, hel]
                          refine wpOp_value (by rw [hg8]; rfl) z3 (cv := .tuple #[e.key, e.val]) (w' := w2') (by rw [eE, hev3]; simp [run_entry_at (P := P) hobj2 hC2 hem.1 hnd]) ?_
                          rw [z1]
                          have vk : VRel c w2' (es'[i]).1 e.key ∧ VRel c w2' (es'[i]).2 e.val := by
                            obtain ⟨X, _⟩ := Sd.1.heap.other (o' := .mapIter (some m) es.length (seen.push e.born) clock) hr1 (by intro _ _ _ h; cases h) J.free.1 J.free.2.1
                            rw [hw2] at X
                            exact ⟨VRel.mono X _ _ (VRel.mono (Sd.2.ext S.heap.disj) _ _ hk1), VRel.mono X _ _ (VRel.mono (Sd.2.ext S.heap.disj) _ _ hk2)⟩
                          have S4 : SRel N c ⟨up (up (up B.T j2 .any) ok (.bool true)) en (.tup [(es'[i]).1, (es'[i]).2]), B.h⟩ (((a.put (some j2) (.tuple #[.bool true, e.key, e.val])).put (some ok) (.bool true)).put (some en) (.tuple #[e.key, e.val])) w2' :=
                            SRel_up S3 z2 (by simp only [VRel]; exact ⟨_, rfl, by simp only [VRels]; exact ⟨_, _, rfl, vk.1, _, _, rfl, vk.2, rfl⟩⟩)
                          obtain ⟨bs, fs8, C8, hr8, hbody⟩ := round vis B i (es'[i]).1 (es'[i]).2 es' hIB hnv hmapB hesi
                          have hrest : ∀ k s, rest[k]? = some s → ∃ o, p.ops8[1 + k]? = some o ∧ okOper P N p.ops8 o s = true := by
                            intro k s hs
                            have hlt : k < rest.length := (List.getElem?_eq_some_iff.1 hs).1
                            have hlt8 : k < le.length := by omega
                            obtain ⟨s', hs', hk⟩ := y2 k le[k] (List.getElem?_eq_getElem hlt8)
                            rw [hs] at hs'; cases hs'
                            exact ⟨le[k], by rw [hg8, Nat.add_comm]; simp [hlt8], hk⟩
                          refine run_ops (c0 := c) (w0 := w2') ?_ rest 1 0 fs8 _ c _ w2' hrest hr8 S4 (.refl _ _)
                          intro c5 a5 w5 S5 E5
                          show Exit.then _ _ .normal _ _
                          refine hbody p.body obd c5 a5 w5 S5 _ ?_
                          intro e2 D c6 a6 w6 hq6 S6 E6
                          have E06 : Evo c0 w0 c6 w6 := (E1'.trans E5).trans E6
                          have J6 := (J1.evo E5).evo E6
                          have again : I (i :: vis) D → ∃ left' vis' B' c' m' seen', left' < left ∧ ((List.range es.length).filter fun i => i ∉ vis').length = left' ∧ I vis' B' ∧ SRel N c' B' a6 w6 ∧ Evo c0 w0 c' w6 ∧ IterAt c' w6 n r mb mg es.length vis' m' seen' := by
                            intro hI6
                            refine ⟨_, i :: vis, D, c6, m, _, ?_, rfl, hI6, S6, E06, J6⟩
                            rw [← hleft]
                            have hsub : ((List.range es.length).filter fun j => j ∉ i :: vis) = (((List.range es.length).filter fun j => j ∉ vis).filter fun j => j ≠ i) := by
                              rw [List.filter_filter]
                              apply List.filter_congr
                              intro y _
                              simp [List.mem_cons, not_or]
                            rw [hsub]
                            have hmem : i ∈ (List.range es.length).filter fun j => j ∉ vis := List.mem_filter.2 ⟨List.mem_range.2 hilt, by simpa using hnv⟩
                            exact filter_ne_lt _ hmem
                          cases e2 with
                          | normal => exact again hq6
                          | ret => exact hQ .ret D c6 a6 w6 hq6 S6 E06
                          | exit jj =>
                            simp only at hq6
                            show (if jj = b2 then _ else _)
                            split at hq6
                            · rename_i e3; rw [if_pos e3]; exact again hq6
                            · rename_i e3
                              rw [if_neg e3]
                              show (if jj = b1 then Q' .normal _ _ else Q' (.exit jj) _ _)
                              split at hq6
                              · rename_i e4; rw [if_pos e4]; exact hQ .normal D c6 a6 w6 hq6 S6 E06
                              · rename_i e4; rw [if_neg e4]; exact hQ (.exit jj) D c6 a6 w6 hq6 S6 E06
                        · cases z4
                      · cases o8
                  · cases q8
                · cases q4
              obtain ⟨e, a', w', hq, harr⟩ := hround bf (.inLoop _ :: k) cs
              cases e with
              | normal =>
                obtain ⟨left', vis', B', c', m', seen', hlt, hl', hI', S', E', J'⟩ := hq
                obtain ⟨e3, a3, w3, hq3, harr3⟩ := ih left' hlt vis' B' c' a' w' m' seen' hl' hI' S' E' J' bf k cs
                exact ⟨e3, a3, w3, hq3, .of_steps (Steps.trans harr (.one step_inLoop)) harr3⟩
              | exit j => exact ⟨_, a', w', hq, .pass (x := .inLoop _) rfl (fun _ _ => .inl (by simp)) harr⟩
              | goto l => exact ⟨_, a', w', hq, .pass (x := .inLoop _) rfl (fun _ _ => .inl (by simp)) harr⟩
              | ret => exact ⟨_, a', w', hq, .pass (x := .inLoop _) rfl (fun _ _ => .inl (by simp)) harr⟩
              | panic ch => exact ⟨_, a', w', hq, .pass (x := .inLoop _) rfl (fun _ _ => .inl (by simp)) harr⟩
              | outgrown => exact ⟨_, a', w', hq, .pass (x := .inLoop _) rfl (fun _ _ => .inl (by simp)) harr⟩
            · cases o7
        intro bf k cs
        obtain ⟨e, a', w', hq, harr⟩ := key _ [] B2 c2 a2 w2 m #[] rfl h0 S2 E02 J2 bf k cs
        refine ⟨e, a', w', ?_, .of_steps (.one step_loop) harr⟩
        cases e with
        | exit j => exact hq
        | _ => exact hq
      · cases g4
    · cases o6
  · cases hok
end Go.AM
set_option linter.unusedSimpArgs false
set_option linter.unusedVariables false
namespace Go.AM.SD
abbrev Ed := Nat × Nat × Nat
def Rch (es : List Ed) (mk : List Nat) (left : Nat → Bool) : Nat → Nat → Prop
  | 0, x => left x = true ∧ x ∈ mk
  | d + 1, x => Rch es mk left d x ∨ (left x = true ∧ ∃ e ∈ es, e.1 = x ∧ Rch es mk left d e.2.2)
theorem Rch.left {es : List Ed} {mk : List Nat} {left : Nat → Bool} : ∀ {d x : Nat}, Rch es mk left d x → left x = true
  | 0, _, h => h.1
  | d + 1, _, h => by
    rcases h with h | h
    · exact Rch.left h
    · exact h.1
theorem Rch.mono {es : List Ed} {mk : List Nat} {left : Nat → Bool} {d d' x : Nat} (hd : d ≤ d') (h : Rch es mk left d x) : Rch es mk left d' x := by
  induction hd with
  | refl => exact h
  | step _ ih => exact .inl ih
structure Dst (es : List Ed) (mk : List Nat) (left : Nat → Bool) (o : Nat → Int) : Prop where
  neg : ∀ x, -1 ≤ o x
  zero : ∀ x, left x = true → x ∈ mk → o x = 0
  zero' : ∀ x, o x = 0 → left x = true ∧ x ∈ mk
  succ : ∀ x (d : Nat), o x = (d : Int) + 1 → left x = true ∧ ∃ e ∈ es, e.1 = x ∧ o e.2.2 = (d : Int)
  edge : ∀ e ∈ es, left e.1 = true → ∀ d : Nat, o e.2.2 = (d : Int) → 0 ≤ o e.1 ∧ o e.1 ≤ (d : Int) + 1
theorem Dst.rch {es : List Ed} {mk : List Nat} {left : Nat → Bool} {o : Nat → Int} (h : Dst es mk left o) : ∀ (d x : Nat), Rch es mk left d x ↔ 0 ≤ o x ∧ o x ≤ (d : Int) := by
  intro d
  induction d with
  | zero =>
    intro x
    constructor
    · intro hx; have := h.zero x hx.1 hx.2; omega
    · intro hx; exact h.zero' x (by omega)
  | succ d ih =>
    intro x
    constructor
    · rintro (hx | ⟨hl, e, he, rfl, hr⟩)
      · have := (ih x).1 hx; omega
      · have h1 := (ih _).1 hr
        obtain ⟨k, hk⟩ := Int.eq_ofNat_of_zero_le h1.1
        have := h.edge e he hl k hk
        omega
    · intro hx
      by_cases hd : o x ≤ (d : Int)
      · exact .inl ((ih x).2 ⟨hx.1, hd⟩)
      · obtain ⟨hl, e, he, rfl, hr⟩ := h.succ x d (by omega)
        exact .inr ⟨hl, e, he, rfl, (ih _).2 (by omega)⟩
def rEd (left : Nat → Bool) (r : Nat) (s : List Int × Bool) (e : Ed) : List Int × Bool :=
  if left e.1 && left e.2.2 && decide (s.1.getD e.1 0 < 0) && decide (s.1.getD e.2.2 0 = (r : Int) - 1) then (s.1.set e.1 (r : Int), true) else s
def rRd (es : List Ed) (left : Nat → Bool) (r : Nat) (o : List Int) : List Int × Bool := es.foldl (rEd left r) (o, false)
def InN (n : Nat) (es : List Ed) (mk : List Nat) : Prop := (∀ e ∈ es, e.1 < n ∧ e.2.2 < n) ∧ ∀ x ∈ mk, x < n
theorem getD_set {l : List Int} {i j : Nat} {a : Int} (hi : i < l.length) : (l.set i a).getD j 0 = if j = i then a else l.getD j 0 := by
  simp only [List.getD_eq_getElem?_getD, List.getElem?_set]
  by_cases e : i = j
  · subst e; simp [hi]
  · have e2 : ¬ j = i := fun h => e h.symm
    simp [e, e2]
structure RI (n : Nat) (es : List Ed) (mk : List Nat) (left : Nat → Bool) (r : Nat) (o : List Int) : Prop where
  len : o.length = n
  neg : ∀ x, x < n → -1 ≤ o.getD x 0
  lt : ∀ x, x < n → o.getD x 0 < (r : Int)
  zero : ∀ x, x < n → left x = true → x ∈ mk → o.getD x 0 = 0
  zero' : ∀ x, x < n → o.getD x 0 = 0 → left x = true ∧ x ∈ mk
  succ : ∀ x (d : Nat), x < n → o.getD x 0 = (d : Int) + 1 → left x = true ∧ ∃ e ∈ es, e.1 = x ∧ o.getD e.2.2 0 = (d : Int)
  edge : ∀ e ∈ es, left e.1 = true → ∀ d : Nat, d + 1 < r → o.getD e.2.2 0 = (d : Int) → 0 ≤ o.getD e.1 0 ∧ o.getD e.1 0 ≤ (d : Int) + 1
theorem RI.left {n : Nat} {es : List Ed} {mk : List Nat} {left : Nat → Bool} {r : Nat} {o : List Int} (h : RI n es mk left r o) {x : Nat} (hx : x < n) (h0 : 0 ≤ o.getD x 0) : left x = true := by
  obtain ⟨k, hk⟩ := Int.eq_ofNat_of_zero_le h0
  cases k with
  | zero => exact (h.zero' x hx hk).1
  | succ k => exact (h.succ x k hx (by omega)).1
structure RJ (n : Nat) (es : List Ed) (mk : List Nat) (left : Nat → Bool) (r : Nat) (o : List Int) (pre : List Ed) (s : List Int × Bool) : Prop where
  len : s.1.length = n
  old : ∀ x, x < n → 0 ≤ o.getD x 0 → s.1.getD x 0 = o.getD x 0
  new : ∀ x, x < n → o.getD x 0 < 0 → s.1.getD x 0 = o.getD x 0 ∨ (s.1.getD x 0 = (r : Int) ∧ s.2 = true ∧ left x = true ∧ ∃ e ∈ es, e.1 = x ∧ o.getD e.2.2 0 = (r : Int) - 1)
  done : ∀ e ∈ pre, left e.1 = true → left e.2.2 = true → o.getD e.2.2 0 = (r : Int) - 1 → 0 ≤ s.1.getD e.1 0
  flag : s.2 = true → ∃ x, x < n ∧ o.getD x 0 < 0 ∧ 0 ≤ s.1.getD x 0
theorem RJ.step {n : Nat} {es : List Ed} {mk : List Nat} {left : Nat → Bool} {r : Nat} {o : List Int} (hr : 1 ≤ r) (hin : InN n es mk) (h : RI n es mk left r o) {pre : List Ed} {s : List Int × Bool} (hj : RJ n es mk left r o pre s) {e : Ed} (he : e ∈ es) :
    RJ n es mk left r o (pre ++ [e]) (rEd left r s e) := by
  obtain ⟨hf, ht⟩ := hin.1 e he
  have hto : s.1.getD e.2.2 0 = (r : Int) - 1 ↔ o.getD e.2.2 0 = (r : Int) - 1 := by
    by_cases h0 : 0 ≤ o.getD e.2.2 0
    · rw [hj.old _ ht h0]
    · have hn := h.neg _ ht
      rcases hj.new _ ht (by omega) with h1 | h1
      · rw [h1]
      · omega
  unfold rEd
  split
  · rename_i hc
    simp only [Bool.and_eq_true, decide_eq_true_eq] at hc
    obtain ⟨⟨⟨h1, h2⟩, h3⟩, h4⟩ := hc
    have hof : o.getD e.1 0 < 0 := by
      by_cases h0 : 0 ≤ o.getD e.1 0
      · rw [hj.old _ hf h0] at h3; omega
      · omega
    have hset : ∀ x, (s.1.set e.1 (r : Int)).getD x 0 = if x = e.1 then (r : Int) else s.1.getD x 0 := fun x => getD_set (by rw [hj.len]; exact hf)
    refine ⟨by simp [hj.len], fun x hx h0 => ?_, fun x hx h0 => ?_, fun e' he' hl1 hl2 h5 => ?_, fun _ => ⟨e.1, hf, hof, ?_⟩⟩
    · rw [hset]
      split
      · rename_i hx2; subst hx2; omega
      · exact hj.old x hx h0
    · rw [hset]
      split
      · rename_i hx2; subst hx2
        exact .inr ⟨rfl, rfl, h1, e, he, rfl, hto.1 h4⟩
      · rcases hj.new x hx h0 with h6 | ⟨h6, h7, h8⟩
        · exact .inl h6
        · exact .inr ⟨h6, rfl, h8⟩
    · rw [hset]
      split
      · omega
      · rename_i hx2
        rcases List.mem_append.1 he' with h6 | h6
        · exact hj.done e' h6 hl1 hl2 h5
        · exact absurd (by simp at h6; rw [h6]) hx2
    · rw [hset, if_pos rfl]; omega
  · rename_i hc
    refine ⟨hj.len, hj.old, hj.new, fun e' he' hl1 hl2 h5 => ?_, hj.flag⟩
    rcases List.mem_append.1 he' with h6 | h6
    · exact hj.done e' h6 hl1 hl2 h5
    · simp only [List.mem_singleton] at h6
      subst h6
      simp only [Bool.and_eq_true, decide_eq_true_eq, not_and] at hc
      by_cases h7 : s.1.getD e'.1 0 < 0
      · exact absurd (hto.2 h5) (hc ⟨⟨hl1, hl2⟩, h7⟩)
      · omega
theorem RJ.all {n : Nat} {es : List Ed} {mk : List Nat} {left : Nat → Bool} {r : Nat} {o : List Int} (hr : 1 ≤ r) (hin : InN n es mk) (h : RI n es mk left r o) : RJ n es mk left r o es (rRd es left r o) := by
  have key : ∀ (es2 pre : List Ed) (s : List Int × Bool), (∀ e ∈ es2, e ∈ es) → RJ n es mk left r o pre s → RJ n es mk left r o (pre ++ es2) (es2.foldl (rEd left r) s) := by
    intro es2
    induction es2 with
    | nil => intro pre s _ h; rw [List.append_nil]; exact h
    | cons e es2 ih =>
      intro pre s hs hj
      have := ih (pre ++ [e]) (rEd left r s e) (fun x hx => hs x (by simp [hx])) (hj.step hr hin h (hs e (by simp)))
      simpa [List.append_assoc] using this
  have := key es [] (o, false) (fun _ h => h) ⟨h.len, fun _ _ _ => rfl, fun _ _ _ => .inl rfl, (fun e he => by cases he), (fun h => by cases h)⟩
  simpa [rRd] using this
theorem RI.next {n : Nat} {es : List Ed} {mk : List Nat} {left : Nat → Bool} {r : Nat} {o : List Int} (hr : 1 ≤ r) (hin : InN n es mk) (h : RI n es mk left r o) : RI n es mk left (r + 1) (rRd es left r o).1 := by
  have hj := RJ.all hr hin h
  have hge : ∀ x, x < n → 0 ≤ (rRd es left r o).1.getD x 0 → 0 ≤ o.getD x 0 ∨ (rRd es left r o).1.getD x 0 = (r : Int) := fun x hx h0 => by
    by_cases h1 : 0 ≤ o.getD x 0
    · exact .inl h1
    · rcases hj.new x hx (by omega) with h2 | h2
      · rw [h2] at h0; omega
      · exact .inr h2.1
  refine ⟨hj.len, fun x hx => ?_, fun x hx => ?_, fun x hx hl hm => ?_, fun x hx h0 => ?_, fun x d hx h0 => ?_, fun e he hl d hd h0 => ?_⟩
  · by_cases h1 : 0 ≤ o.getD x 0
    · rw [hj.old x hx h1]; omega
    · rcases hj.new x hx (by omega) with h2 | h2
      · rw [h2]; exact h.neg x hx
      · omega
  · by_cases h1 : 0 ≤ o.getD x 0
    · rw [hj.old x hx h1]; have := h.lt x hx; omega
    · rcases hj.new x hx (by omega) with h2 | h2 <;> omega
  · have := h.zero x hx hl hm
    rw [hj.old x hx (by omega)]; exact this
  · rcases hge x hx (by omega) with h1 | h1
    · rw [hj.old x hx h1] at h0; exact h.zero' x hx h0
    · omega
  · by_cases h1 : 0 ≤ o.getD x 0
    · rw [hj.old x hx h1] at h0
      obtain ⟨hl, e, he, h2, h3⟩ := h.succ x d hx h0
      exact ⟨hl, e, he, h2, by rw [hj.old _ (hin.1 e he).2 (by omega)]; exact h3⟩
    · rcases hj.new x hx (by omega) with h2 | ⟨h2, _, hl, e, he, h3, h4⟩
      · rw [h2] at h0; omega
      · exact ⟨hl, e, he, h3, by rw [hj.old _ (hin.1 e he).2 (by omega)]; omega⟩
  · have hf := (hin.1 e he).1
    have ht := (hin.1 e he).2
    rcases hge _ ht (by omega) with h1 | h1
    · rw [hj.old _ ht h1] at h0
      by_cases h2 : d + 1 < r
      · have := h.edge e he hl d h2 h0
        rw [hj.old _ hf this.1]; exact this
      · have h3 := hj.done e he hl (h.left ht h1) (by omega)
        refine ⟨h3, ?_⟩
        rcases hge _ hf h3 with h4 | h4
        · rw [hj.old _ hf h4]; have := h.lt _ hf; omega
        · omega
    · omega
def cntN (n : Nat) (o : List Int) : Nat := (List.range n).countP fun x => decide (o.getD x 0 < 0)
theorem RI.dst {n : Nat} {es : List Ed} {mk : List Nat} {left : Nat → Bool} {r : Nat} {o : List Int} (hin : InN n es mk) (h : RI n es mk left r o) (hlt : ∀ x, x < n → o.getD x 0 + 1 < (r : Int)) : Dst es mk left (fun x => if x < n then o.getD x 0 else -1) := by
  refine ⟨fun x => ?_, fun x hl hm => ?_, fun x h0 => ?_, fun x d h0 => ?_, fun e he hl d h0 => ?_⟩
  · split
    · rename_i hx; exact h.neg x hx
    · omega
  · have hx := hin.2 x hm
    rw [if_pos hx]; exact h.zero x hx hl hm
  · split at h0
    · rename_i hx; exact h.zero' x hx h0
    · omega
  · split at h0
    · rename_i hx
      obtain ⟨hl, e, he, h2, h3⟩ := h.succ x d hx h0
      exact ⟨hl, e, he, h2, by rw [if_pos (hin.1 e he).2]; exact h3⟩
    · omega
  · obtain ⟨hf, ht⟩ := hin.1 e he
    rw [if_pos ht] at h0
    rw [if_pos hf]
    exact h.edge e he hl d (by have := hlt _ ht; omega) h0
end Go.AM.SD
set_option linter.unusedSimpArgs false
set_option linter.unusedVariables false
namespace Go.AM.SD
def preds (es : List Ed) (v : Nat) : List Nat := (es.filter fun e => e.2.2 == v).map (·.1)
theorem mem_preds {es : List Ed} {v y : Nat} : y ∈ preds es v ↔ ∃ e ∈ es, e.1 = y ∧ e.2.2 = v := by
  simp only [preds, List.mem_map, List.mem_filter, beq_iff_eq]
  constructor
  · rintro ⟨e, ⟨he, h2⟩, rfl⟩; exact ⟨e, he, rfl, h2⟩
  · rintro ⟨e, he, rfl, h2⟩; exact ⟨e, ⟨he, h2⟩, rfl⟩
abbrev QS := List Int × List Nat
def bMk (left : Nat → Bool) (s : QS) (x : Nat) : QS := if left x then (s.1.set x 0, s.2 ++ [x]) else s
def bMks (n : Nat) (mk : List Nat) (left : Nat → Bool) : QS := mk.foldl (bMk left) (List.replicate n (-1), [])
def bEd (left : Nat → Bool) (v : Nat) (s : QS) (y : Nat) : QS := if left y && decide (s.1.getD y 0 < 0) then (s.1.set y (s.1.getD v 0 + 1), s.2 ++ [y]) else s
def bRow (es : List Ed) (left : Nat → Bool) (v : Nat) (s : QS) : QS := (preds es v).foldl (bEd left v) s
def bQ (es : List Ed) (left : Nat → Bool) : Nat → Nat → QS → QS
  | 0, _, s => s
  | k + 1, i, s => match s.2[i]? with | some v => bQ es left k (i + 1) (bRow es left v s) | none => s
def pDist (n : Nat) (es : List Ed) (mk : List Nat) (left : Nat → Bool) : List Int := (bQ es left (n + 1) 0 (bMks n mk left)).1
structure BI (n : Nat) (es : List Ed) (mk : List Nat) (left : Nat → Bool) (s : QS) : Prop where
  len : s.1.length = n
  cnt : cntN n s.1 + s.2.length = n
  neg : ∀ x, x < n → -1 ≤ s.1.getD x 0
  inl : ∀ x, x ∈ s.2 ↔ x < n ∧ 0 ≤ s.1.getD x 0
  zero : ∀ x, x < n → left x = true → x ∈ mk → s.1.getD x 0 = 0
  zero' : ∀ x, x < n → s.1.getD x 0 = 0 → left x = true ∧ x ∈ mk
  succ : ∀ x (d : Nat), x < n → s.1.getD x 0 = (d : Int) + 1 → left x = true ∧ ∃ e ∈ es, e.1 = x ∧ s.1.getD e.2.2 0 = (d : Int)
  mono : ∀ (a b x y : Nat), a ≤ b → s.2[a]? = some x → s.2[b]? = some y → s.1.getD x 0 ≤ s.1.getD y 0
def Done (es : List Ed) (left : Nat → Bool) (i : Nat) (s : QS) : Prop := ∀ (a v : Nat), a < i → s.2[a]? = some v → ∀ e ∈ es, e.2.2 = v → left e.1 = true → 0 ≤ s.1.getD e.1 0 ∧ s.1.getD e.1 0 ≤ s.1.getD v 0 + 1
def Near (v : Nat) (s : QS) : Prop := ∀ x, x ∈ s.2 → s.1.getD x 0 ≤ s.1.getD v 0 + 1
theorem cnt_set {n : Nat} {o : List Int} {y : Nat} {a : Int} (hl : o.length = n) (hy : y < n) (h : o.getD y 0 < 0) (ha : 0 ≤ a) : cntN n (o.set y a) + 1 = cntN n o := by
  have hset : ∀ x, (o.set y a).getD x 0 = if x = y then a else o.getD x 0 := fun x => getD_set (by omega)
  unfold cntN
  have hnd : (List.range n).Nodup := List.nodup_range
  have hmem : y ∈ List.range n := List.mem_range.2 hy
  generalize List.range n = l at hnd hmem
  induction l with
  | nil => cases hmem
  | cons z l ih =>
    rw [List.nodup_cons] at hnd
    rw [List.countP_cons, List.countP_cons, hset]
    by_cases hz : z = y
    · subst hz
      rw [if_pos rfl, if_neg (by simp; omega), if_pos (by simpa using h)]
      have : l.countP (fun x => decide ((o.set z a).getD x 0 < 0)) = l.countP (fun x => decide (o.getD x 0 < 0)) := by
        refine List.countP_congr fun x hx => ?_
        rw [hset, if_neg]
        rintro rfl; exact hnd.1 hx
      rw [this]
    · rw [if_neg hz]
      have := ih hnd.2 (by
        rcases List.mem_cons.1 hmem with e | hm
        · exact absurd e.symm hz
        · exact hm)
      omega
theorem app_get {l : List Nat} {y b z : Nat} (h : (l ++ [y])[b]? = some z) : l[b]? = some z ∨ (b = l.length ∧ z = y) := by
  by_cases hb : b < l.length
  · rw [List.getElem?_append_left hb] at h; exact .inl h
  · rw [List.getElem?_append_right (by omega)] at h
    by_cases e : b - l.length = 0
    · rw [e] at h; simp at h; exact .inr ⟨by omega, h.symm⟩
    · rw [List.getElem?_eq_none (by simp; omega)] at h; cases h
theorem BI.push {n : Nat} {es : List Ed} {mk : List Nat} {left : Nat → Bool} {s : QS} (h : BI n es mk left s) {v y i : Nat} (hin : InN n es mk) (hv : s.2[i]? = some v) (hnear : Near v s) {e : Ed} (he : e ∈ es) (hy : e.1 = y) (hev : e.2.2 = v) (hly : left y = true) (hneg : s.1.getD y 0 < 0) :
    BI n es mk left (s.1.set y (s.1.getD v 0 + 1), s.2 ++ [y]) ∧ Near v (s.1.set y (s.1.getD v 0 + 1), s.2 ++ [y]) ∧ (s.1.set y (s.1.getD v 0 + 1)).getD v 0 = s.1.getD v 0 ∧ (∀ x, x < n → 0 ≤ s.1.getD x 0 → (s.1.set y (s.1.getD v 0 + 1)).getD x 0 = s.1.getD x 0) := by
  have hyn : y < n := by have := (hin.1 e he).1; omega
  have hvn := (h.inl v).1 (List.mem_of_getElem? hv)
  have hset : ∀ x, (s.1.set y (s.1.getD v 0 + 1)).getD x 0 = if x = y then s.1.getD v 0 + 1 else s.1.getD x 0 := fun x => getD_set (by rw [h.len]; exact hyn)
  have hold : ∀ x, x < n → 0 ≤ s.1.getD x 0 → (s.1.set y (s.1.getD v 0 + 1)).getD x 0 = s.1.getD x 0 := fun x hx h0 => by
    rw [hset, if_neg]; rintro rfl; omega
  have hv' := hold v hvn.1 hvn.2
  have hyl : y ∉ s.2 := fun hm => by have := ((h.inl y).1 hm).2; omega
  refine ⟨⟨by simp [h.len], ?_, fun x hx => ?_, fun x => ?_, fun x hx hl hm => ?_, fun x hx h0 => ?_, fun x d hx h0 => ?_, fun a b x z hab hx hz => ?_⟩, fun x hx => ?_, hv', hold⟩
  · have h1 := cnt_set h.len hyn hneg (a := s.1.getD v 0 + 1) (by omega)
    have h2 := h.cnt
    show cntN n (s.1.set y (s.1.getD v 0 + 1)) + (s.2 ++ [y]).length = n
    rw [List.length_append, List.length_singleton]; omega
  · rw [hset]; split
    · omega
    · exact h.neg x hx
  · rw [hset, List.mem_append, List.mem_singleton]
    by_cases hx : x = y
    · subst hx; rw [if_pos rfl]; exact ⟨fun _ => ⟨hyn, by omega⟩, fun _ => .inr rfl⟩
    · rw [if_neg hx, h.inl x]; simp [hx]
  · have := h.zero x hx hl hm
    rw [hold x hx (by omega)]; exact this
  · rw [hset] at h0; split at h0
    · omega
    · exact h.zero' x hx h0
  · rw [hset] at h0; split at h0
    · rename_i hxy
      refine ⟨by rw [hxy]; exact hly, e, he, by rw [hy, hxy], ?_⟩
      rw [hev, hv']; omega
    · obtain ⟨hl, e', he', h2, h3⟩ := h.succ x d hx h0
      exact ⟨hl, e', he', h2, by rw [hold _ (hin.1 e' he').2 (by omega)]; exact h3⟩
  · rcases app_get hx with h1 | ⟨h1, rfl⟩ <;> rcases app_get hz with h2 | ⟨h2, rfl⟩
    · have m1 := (h.inl x).1 (List.mem_of_getElem? h1)
      have m2 := (h.inl z).1 (List.mem_of_getElem? h2)
      rw [hold x m1.1 m1.2, hold z m2.1 m2.2]; exact h.mono a b x z hab h1 h2
    · have m1 := (h.inl x).1 (List.mem_of_getElem? h1)
      rw [hold x m1.1 m1.2, hset, if_pos rfl]; exact hnear x (List.mem_of_getElem? h1)
    · have : b < s.2.length := (List.getElem?_eq_some_iff.1 h2).1
      omega
    · omega
  · rw [hv']
    rcases List.mem_append.1 hx with h1 | h1
    · have m1 := (h.inl x).1 h1
      rw [hold x m1.1 m1.2]; exact hnear x h1
    · rw [List.mem_singleton] at h1; subst h1; rw [hset, if_pos rfl]; omega
theorem Done.push {n : Nat} {es : List Ed} {mk : List Nat} {left : Nat → Bool} {s : QS} (h : BI n es mk left s) {y i : Nat} {o' : List Int} (hin : InN n es mk) (hi : i ≤ s.2.length) (hd : Done es left i s) (hold : ∀ x, x < n → 0 ≤ s.1.getD x 0 → o'.getD x 0 = s.1.getD x 0) : Done es left i (o', s.2 ++ [y]) := by
  intro a v ha hv e he h2 hl
  have hv' : s.2[a]? = some v := by rw [← hv]; exact (List.getElem?_append_left (by omega)).symm
  have := hd a v ha hv' e he h2 hl
  have m1 := (h.inl v).1 (List.mem_of_getElem? hv')
  show 0 ≤ o'.getD e.1 0 ∧ o'.getD e.1 0 ≤ o'.getD v 0 + 1
  rw [hold _ (hin.1 e he).1 this.1, hold v m1.1 m1.2]; exact this
theorem BI.row {n : Nat} {es : List Ed} {mk : List Nat} {left : Nat → Bool} (hin : InN n es mk) {v i : Nat} : ∀ (ys : List Nat) (s : QS), (∀ y ∈ ys, ∃ e ∈ es, e.1 = y ∧ e.2.2 = v) → BI n es mk left s → s.2[i]? = some v → Near v s → Done es left i s →
    BI n es mk left (ys.foldl (bEd left v) s) ∧ (ys.foldl (bEd left v) s).2[i]? = some v ∧ Near v (ys.foldl (bEd left v) s) ∧ Done es left i (ys.foldl (bEd left v) s) ∧ (∀ x, x < n → 0 ≤ s.1.getD x 0 → (ys.foldl (bEd left v) s).1.getD x 0 = s.1.getD x 0) ∧ ∀ y ∈ ys, left y = true → 0 ≤ (ys.foldl (bEd left v) s).1.getD y 0 := by
  intro ys
  induction ys with
  | nil => intro s _ h hv hn hd; exact ⟨h, hv, hn, hd, fun _ _ _ => rfl, fun y hy => by cases hy⟩
  | cons y ys ih =>
    intro s hys h hv hn hd
    obtain ⟨e, he, hy, hev⟩ := hys y (by simp)
    have hyn : y < n := by have := (hin.1 e he).1; omega
    rw [List.foldl_cons]
    by_cases hc : (left y && decide (s.1.getD y 0 < 0)) = true
    · have e1 : bEd left v s y = (s.1.set y (s.1.getD v 0 + 1), s.2 ++ [y]) := if_pos hc
      simp only [Bool.and_eq_true, decide_eq_true_eq] at hc
      obtain ⟨h1, h2, h3, h4⟩ := h.push hin hv hn he hy hev hc.1 hc.2
      have hil : i < s.2.length := (List.getElem?_eq_some_iff.1 hv).1
      have hd' := Done.push (y := y) h hin (by omega) hd h4
      have hv' : (s.2 ++ [y])[i]? = some v := by rw [List.getElem?_append_left hil]; exact hv
      rw [e1]
      obtain ⟨k1, k2, k3, k4, k5, k6⟩ := ih _ (fun z hz => hys z (by simp [hz])) h1 hv' h2 hd'
      refine ⟨k1, k2, k3, k4, fun x hx h0 => ?_, fun z hz hl => ?_⟩
      · have := h4 x hx h0
        rw [← this]; exact k5 x hx (by rw [this]; exact h0)
      · rcases List.mem_cons.1 hz with rfl | hz
        · have hset : (s.1.set z (s.1.getD v 0 + 1)).getD z 0 = s.1.getD v 0 + 1 := by rw [getD_set (by rw [h.len]; exact hyn), if_pos rfl]
          have hvn := (h.inl v).1 (List.mem_of_getElem? hv)
          have := k5 z hyn (by show 0 ≤ (s.1.set z (s.1.getD v 0 + 1)).getD z 0; rw [hset]; omega)
          rw [this]; show 0 ≤ (s.1.set z (s.1.getD v 0 + 1)).getD z 0; rw [hset]; omega
        · exact k6 z hz hl
    · have e1 : bEd left v s y = s := if_neg hc
      rw [e1]
      obtain ⟨k1, k2, k3, k4, k5, k6⟩ := ih s (fun z hz => hys z (by simp [hz])) h hv hn hd
      refine ⟨k1, k2, k3, k4, k5, fun z hz hl => ?_⟩
      rcases List.mem_cons.1 hz with rfl | hz
      · have h0 : 0 ≤ s.1.getD z 0 := by
          simp only [Bool.and_eq_true, decide_eq_true_eq, not_and] at hc
          have := hc hl; omega
        rw [k5 z hyn h0]; exact h0
      · exact k6 z hz hl
structure BH (n : Nat) (es : List Ed) (mk : List Nat) (left : Nat → Bool) (i : Nat) (s : QS) : Prop where
  bi : BI n es mk left s
  done : Done es left i s
  near : ∀ v, s.2[i]? = some v → Near v s
  le : i ≤ s.2.length
theorem BH.step {n : Nat} {es : List Ed} {mk : List Nat} {left : Nat → Bool} (hin : InN n es mk) {i v : Nat} {s : QS} (h : BH n es mk left i s) (hv : s.2[i]? = some v) : BH n es mk left (i + 1) (bRow es left v s) := by
  obtain ⟨k1, k2, k3, k4, k5, k6⟩ := BI.row hin (preds es v) s (fun y hy => mem_preds.1 hy) h.bi hv (h.near v hv) h.done
  have hil : i < (bRow es left v s).2.length := (List.getElem?_eq_some_iff.1 k2).1
  refine ⟨k1, fun a u ha hu e he h2 hl => ?_, fun u hu x hx => ?_, by omega⟩
  · by_cases hai : a < i
    · exact k4 a u hai hu e he h2 hl
    · have : a = i := by omega
      subst this
      have hu' : u = v := Option.some.inj (hu.symm.trans k2)
      subst hu'
      have h0 := k6 e.1 (mem_preds.2 ⟨e, he, rfl, h2⟩) hl
      exact ⟨h0, k3 e.1 ((k1.inl _).2 ⟨(hin.1 e he).1, h0⟩)⟩
  · have h1 := k3 x hx
    have h2 := k1.mono i (i + 1) v u (by omega) k2 hu
    show (bRow es left v s).1.getD x 0 ≤ (bRow es left v s).1.getD u 0 + 1
    have h1 : (bRow es left v s).1.getD x 0 ≤ (bRow es left v s).1.getD v 0 + 1 := h1
    have h2 : (bRow es left v s).1.getD v 0 ≤ (bRow es left v s).1.getD u 0 := h2
    omega
theorem BH.dst {n : Nat} {es : List Ed} {mk : List Nat} {left : Nat → Bool} (hin : InN n es mk) {i : Nat} {s : QS} (h : BH n es mk left i s) (hi : s.2[i]? = none) : Dst es mk left (fun x => if x < n then s.1.getD x 0 else -1) := by
  have hil : s.2.length ≤ i := List.getElem?_eq_none_iff.1 hi
  refine ⟨fun x => ?_, fun x hl hm => ?_, fun x h0 => ?_, fun x d h0 => ?_, fun e he hl d h0 => ?_⟩
  · split
    · rename_i hx; exact h.bi.neg x hx
    · omega
  · have hx := hin.2 x hm
    rw [if_pos hx]; exact h.bi.zero x hx hl hm
  · split at h0
    · rename_i hx; exact h.bi.zero' x hx h0
    · omega
  · split at h0
    · rename_i hx
      obtain ⟨hl, e, he, h2, h3⟩ := h.bi.succ x d hx h0
      exact ⟨hl, e, he, h2, by rw [if_pos (hin.1 e he).2]; exact h3⟩
    · omega
  · obtain ⟨hf, ht⟩ := hin.1 e he
    rw [if_pos ht] at h0
    rw [if_pos hf]
    have hm : e.2.2 ∈ s.2 := (h.bi.inl _).2 ⟨ht, by omega⟩
    obtain ⟨a, ha⟩ := List.getElem?_of_mem hm
    have hal : a < s.2.length := (List.getElem?_eq_some_iff.1 ha).1
    have := h.done a e.2.2 (by omega) ha e he rfl hl
    omega
theorem bQ_dst {n : Nat} {es : List Ed} {mk : List Nat} {left : Nat → Bool} (hin : InN n es mk) : ∀ (k i : Nat) (s : QS), BH n es mk left i s → n < k + i → (bQ es left k i s).1.length = n ∧ Dst es mk left (fun x => if x < n then (bQ es left k i s).1.getD x 0 else -1) := by
  intro k
  induction k with
  | zero =>
    intro i s h hk
    have := h.bi.cnt
    have := h.le
    omega
  | succ k ih =>
    intro i s h hk
    unfold bQ
    cases hv : s.2[i]? with
    | some v => exact ih (i + 1) _ (h.step hin hv) (by omega)
    | none => exact ⟨h.bi.len, h.dst hin hv⟩
theorem cnt_rep (n : Nat) : cntN n (List.replicate n (-1)) = n := by
  unfold cntN
  have : ∀ x ∈ List.range n, (fun x => decide ((List.replicate n (-1) : List Int).getD x 0 < 0)) x = true := fun x hx => by
    have := List.mem_range.1 hx
    simp [List.getD_eq_getElem?_getD, List.getElem?_replicate, this]
  rw [List.countP_eq_length.2 this, List.length_range]
theorem bMks_bh {n : Nat} {es : List Ed} {mk : List Nat} {left : Nat → Bool} (hin : InN n es mk) (hnd : mk.Nodup) : BH n es mk left 0 (bMks n mk left) := by
  have key : ∀ (ms pre : List Nat) (s : QS), (pre ++ ms).Nodup → (∀ x ∈ pre ++ ms, x < n) → s.1.length = n → cntN n s.1 + s.2.length = n → (∀ x, x < n → s.1.getD x 0 = if left x && pre.contains x then 0 else -1) → (∀ x, x ∈ s.2 ↔ left x = true ∧ x ∈ pre) →
      (ms.foldl (bMk left) s).1.length = n ∧ cntN n (ms.foldl (bMk left) s).1 + (ms.foldl (bMk left) s).2.length = n ∧ (∀ x, x < n → (ms.foldl (bMk left) s).1.getD x 0 = if left x && (pre ++ ms).contains x then 0 else -1) ∧ (∀ x, x ∈ (ms.foldl (bMk left) s).2 ↔ left x = true ∧ x ∈ pre ++ ms) := by
    intro ms
    induction ms with
    | nil => intro pre s _ _ h1 h2 h3 h4; rw [List.append_nil]; exact ⟨h1, h2, h3, h4⟩
    | cons m ms ih =>
      intro pre s hnd hlt h1 h2 h3 h4
      have hmn : m < n := hlt m (by simp)
      have hmp : m ∉ pre := fun hm => by
        rw [List.nodup_append] at hnd
        exact hnd.2.2 m hm m (by simp) rfl
      have e : pre ++ m :: ms = (pre ++ [m]) ++ ms := by simp
      rw [e] at hnd hlt ⊢
      rw [List.foldl_cons]
      have hm3 : s.1.getD m 0 = -1 := by rw [h3 m hmn]; simp [hmp]
      by_cases hl : left m = true
      · have e1 : bMk left s m = (s.1.set m 0, s.2 ++ [m]) := if_pos hl
        rw [e1]
        refine ih (pre ++ [m]) _ hnd hlt (by simp [h1]) ?_ (fun x hx => ?_) fun x => ?_
        · have := cnt_set h1 hmn (by omega) (a := 0) (by omega)
          show cntN n (s.1.set m 0) + (s.2 ++ [m]).length = n
          rw [List.length_append, List.length_singleton]; omega
        · show (s.1.set m 0).getD x 0 = _
          rw [getD_set (by omega)]
          by_cases hxm : x = m
          · subst hxm; simp [hl]
          · rw [if_neg hxm, h3 x hx]; simp [hxm]
        · show x ∈ s.2 ++ [m] ↔ _
          rw [List.mem_append, List.mem_append, h4, List.mem_singleton]
          constructor
          · rintro (h5 | rfl)
            · exact ⟨h5.1, .inl h5.2⟩
            · exact ⟨hl, .inr rfl⟩
          · rintro ⟨h5, h6 | h6⟩
            · exact .inl ⟨h5, h6⟩
            · exact .inr h6
      · have e1 : bMk left s m = s := if_neg hl
        rw [e1]
        refine ih (pre ++ [m]) _ hnd hlt h1 h2 (fun x hx => ?_) fun x => ?_
        · rw [h3 x hx]
          by_cases hxm : x = m
          · subst hxm; simp [hl]
          · simp [hxm]
        · rw [List.mem_append, h4, List.mem_singleton]
          constructor
          · rintro h5; exact ⟨h5.1, .inl h5.2⟩
          · rintro ⟨h5, h6 | rfl⟩
            · exact ⟨h5, h6⟩
            · exact absurd h5 hl
  obtain ⟨h1, h2, h3, h4⟩ := key mk [] (List.replicate n (-1), []) (by simpa using hnd) (by simpa using hin.2) (by simp) (by rw [cnt_rep]; rfl)
    (fun x hx => by simp [List.getD_eq_getElem?_getD, List.getElem?_replicate, hx]) (fun x => by simp)
  rw [List.nil_append] at h3 h4
  have hg : ∀ x, x < n → (bMks n mk left).1.getD x 0 = 0 ∨ (bMks n mk left).1.getD x 0 = -1 := fun x hx => by
    have : (bMks n mk left).1.getD x 0 = _ := h3 x hx
    rw [this]; split <;> simp
  have hin2 : ∀ x, x ∈ (bMks n mk left).2 → (bMks n mk left).1.getD x 0 = 0 := fun x hx => by
    have h5 := (h4 x).1 hx
    have : (bMks n mk left).1.getD x 0 = _ := h3 x (hin.2 x h5.2)
    rw [this, h5.1]; simp [h5.2]
  refine ⟨⟨h1, h2, fun x hx => ?_, fun x => ?_, fun x hx hl hm => ?_, fun x hx h0 => ?_, fun x d hx h0 => ?_, fun a b x y _ ha hb => ?_⟩, fun a v ha => by omega, fun v hv x hx => ?_, Nat.zero_le _⟩
  · rcases hg x hx with h | h <;> rw [h] <;> omega
  · constructor
    · intro hx
      exact ⟨hin.2 x ((h4 x).1 hx).2, by rw [hin2 x hx]; omega⟩
    · rintro ⟨hx, h0⟩
      have h5 : (bMks n mk left).1.getD x 0 = _ := h3 x hx
      rw [h5] at h0
      split at h0
      · rename_i h6
        simp only [Bool.and_eq_true, List.contains_iff_mem] at h6
        exact (h4 x).2 h6
      · omega
  · have h5 : (bMks n mk left).1.getD x 0 = _ := h3 x hx
    rw [h5, hl]; simp [hm]
  · have h5 : (bMks n mk left).1.getD x 0 = _ := h3 x hx
    rw [h5] at h0
    split at h0
    · rename_i h6
      simpa only [Bool.and_eq_true, List.contains_iff_mem] using h6
    · omega
  · rcases hg x hx with h | h <;> rw [h] at h0 <;> omega
  · rw [hin2 x (List.mem_of_getElem? ha), hin2 y (List.mem_of_getElem? hb)]; omega
  · rw [hin2 x hx, hin2 v (List.mem_of_getElem? hv)]; omega
end Go.AM.SD
set_option linter.unusedSimpArgs false
set_option linter.unusedVariables false
namespace Go.AM.SD
def bad (left : Nat → Bool) (unc : List Nat) (e : Ed) : Bool := left e.1 && !left e.2.2 && unc.contains e.2.1
def pLs (left : Nat → Bool) (unc : List Nat) (out : List (Nat × Nat)) (e : Ed) : List (Nat × Nat) :=
  if bad left unc e then (if (match out.getLast? with | some p => p.1 == e.1 | none => false) then out else out ++ [(e.1, e.2.1)]) else out
def pLost (es : List Ed) (left : Nat → Bool) (unc : List Nat) : List (Nat × Nat) := es.foldl (pLs left unc) []
def rL1 (es : List Ed) (left : Nat → Bool) (unc : List Nat) (st : Nat) : Option (Nat × Nat) :=
  if left st then (es.find? fun e => e.1 == st && !left e.2.2 && unc.contains e.2.1).map fun e => (st, e.2.1) else none
def rLost (n : Nat) (es : List Ed) (left : Nat → Bool) (unc : List Nat) : List (Nat × Nat) := (List.range n).filterMap (rL1 es left unc)
theorem eq_of_mem {l l' : List (Nat × Nat)} (h : l.Pairwise fun a b => a.1 < b.1) (h' : l'.Pairwise fun a b => a.1 < b.1) (hm : ∀ p, p ∈ l ↔ p ∈ l') : l = l' := by
  induction l generalizing l' with
  | nil =>
    cases l' with
    | nil => rfl
    | cons p l' => exact absurd ((hm p).2 (by simp)) (by simp)
  | cons p l ih =>
    cases l' with
    | nil => exact absurd ((hm p).1 (by simp)) (by simp)
    | cons q l' =>
      rw [List.pairwise_cons] at h h'
      have e : p = q := by
        have h1 := (hm p).1 (by simp)
        have h2 := (hm q).2 (by simp)
        rcases List.mem_cons.1 h1 with e | h1
        · exact e
        · rcases List.mem_cons.1 h2 with e | h2
          · exact e.symm
          · have := h.1 q h2
            have := h'.1 p h1
            omega
      subst e
      rw [ih h.2 h'.2 fun r => ?_]
      constructor
      · intro hr
        have := (hm r).1 (by simp [hr])
        rcases List.mem_cons.1 this with e | h3
        · subst e; have := h.1 r hr; omega
        · exact h3
      · intro hr
        have := (hm r).2 (by simp [hr])
        rcases List.mem_cons.1 this with e | h3
        · subst e; have := h'.1 r hr; omega
        · exact h3
theorem rLost_sorted (n : Nat) (es : List Ed) (left : Nat → Bool) (unc : List Nat) : (rLost n es left unc).Pairwise fun a b => a.1 < b.1 := by
  unfold rLost
  refine List.Pairwise.filterMap _ (R := (· < ·)) ?_ List.pairwise_lt_range
  intro a b hab p hp q hq
  have h1 : ∀ (st : Nat) (p : Nat × Nat), rL1 es left unc st = some p → p.1 = st := by
    intro st p h
    unfold rL1 at h
    split at h
    · cases hf : es.find? fun e => e.1 == st && !left e.2.2 && unc.contains e.2.1 with
      | none => rw [hf] at h; cases h
      | some e => rw [hf] at h; cases h; rfl
    · cases h
  rw [h1 a p hp, h1 b q hq]; exact hab
theorem mem_rLost {n : Nat} {es : List Ed} {left : Nat → Bool} {unc : List Nat} {p : Nat × Nat} : p ∈ rLost n es left unc ↔ p.1 < n ∧ rL1 es left unc p.1 = some p := by
  unfold rLost
  rw [List.mem_filterMap]
  have h1 : ∀ (st : Nat) (p : Nat × Nat), rL1 es left unc st = some p → p.1 = st := by
    intro st p h
    unfold rL1 at h
    split at h
    · cases hf : es.find? fun e => e.1 == st && !left e.2.2 && unc.contains e.2.1 with
      | none => rw [hf] at h; cases h
      | some e => rw [hf] at h; cases h; rfl
    · cases h
  constructor
  · rintro ⟨st, hs, h⟩
    have := h1 st p h
    subst this
    exact ⟨List.mem_range.1 hs, h⟩
  · rintro ⟨h2, h3⟩
    exact ⟨p.1, List.mem_range.2 h2, h3⟩
theorem rL1_app {pre : List Ed} {e : Ed} {left : Nat → Bool} {unc : List Nat} (st : Nat) :
    rL1 (pre ++ [e]) left unc st = match rL1 pre left unc st with | some p => some p | none => if e.1 == st && bad left unc e then some (st, e.2.1) else none := by
  unfold rL1 bad
  by_cases hl : left st = true
  · rw [if_pos hl, if_pos hl, List.find?_append]
    cases pre.find? fun e => e.1 == st && !left e.2.2 && unc.contains e.2.1 with
    | some x => rfl
    | none =>
      simp only [Option.none_or, Option.map_none, List.find?_singleton]
      by_cases he : e.1 = st
      · subst he
        simp only [hl, beq_self_eq_true, Bool.true_and]
        split <;> rfl
      · have : (e.1 == st) = false := by simpa using he
        simp [this]
  · rw [if_neg hl, if_neg hl]
    by_cases he : e.1 = st
    · subst he; simp [hl]
    · have : (e.1 == st) = false := by simpa using he
      simp [this]
theorem pLost_inv {left : Nat → Bool} {unc : List Nat} : ∀ (es2 pre : List Ed) (out : List (Nat × Nat)), (pre ++ es2).Pairwise (fun a b => a.1 ≤ b.1) → out.Pairwise (fun a b => a.1 < b.1) → (∀ p, p ∈ out ↔ rL1 pre left unc p.1 = some p) → (∀ p ∈ out, ∃ e ∈ pre, e.1 = p.1) →
    (es2.foldl (pLs left unc) out).Pairwise (fun a b => a.1 < b.1) ∧ ∀ p, p ∈ es2.foldl (pLs left unc) out ↔ rL1 (pre ++ es2) left unc p.1 = some p := by
  intro es2
  induction es2 with
  | nil => intro pre out _ h1 h2 _; rw [List.append_nil]; exact ⟨h1, h2⟩
  | cons e es2 ih =>
    intro pre out hs h1 h2 h3
    have ea : pre ++ e :: es2 = (pre ++ [e]) ++ es2 := by simp
    rw [ea] at hs ⊢
    rw [List.foldl_cons]
    have hge : ∀ p ∈ out, p.1 ≤ e.1 := fun p hp => by
      obtain ⟨x, hx, hxe⟩ := h3 p hp
      rw [List.pairwise_append] at hs
      have := (List.pairwise_append.1 hs.1).2.2 x hx e (by simp)
      omega
    by_cases hb : bad left unc e = true
    · by_cases hlast : (match out.getLast? with | some p => p.1 == e.1 | none => false) = true
      · have e1 : pLs left unc out e = out := by unfold pLs; rw [if_pos hb, if_pos hlast]
        rw [e1]
        refine ih (pre ++ [e]) out hs h1 (fun p => ?_) fun p hp => ?_
        · rw [rL1_app]
          cases hr : rL1 pre left unc p.1 with
          | some q => rw [h2 p, hr]
          | none =>
            have hnp : ¬ p ∈ out := fun hp => by rw [(h2 p).1 hp] at hr; cases hr
            have hne : (e.1 == p.1) = false := by
              cases hg : out.getLast? with
              | none => rw [hg] at hlast; cases hlast
              | some q =>
                rw [hg] at hlast
                have hq : q ∈ out := List.mem_of_getLast? hg
                have : q.1 = e.1 := by simpa using hlast
                have hr2 := (h2 q).1 hq
                have : e.1 ≠ p.1 := fun hep => by
                  have : q.1 = p.1 := by omega
                  rw [this, hr] at hr2; cases hr2
                simpa using this
            simp only [hne, Bool.false_and, Bool.false_eq_true, if_false]
            exact ⟨fun hp => absurd hp hnp, fun h => by cases h⟩
        · obtain ⟨x, hx, hxe⟩ := h3 p hp
          exact ⟨x, by simp [hx], hxe⟩
      · have e1 : pLs left unc out e = out ++ [(e.1, e.2.1)] := by unfold pLs; rw [if_pos hb, if_neg hlast]
        have hlt : ∀ p ∈ out, p.1 < e.1 := by
          intro p hp
          cases hg : out.getLast? with
          | none => rw [List.getLast?_eq_none_iff] at hg; subst hg; cases hp
          | some q =>
            rw [hg] at hlast
            have hqe : q.1 ≠ e.1 := by simpa using hlast
            have hq : q ∈ out := List.mem_of_getLast? hg
            have hqle := hge q hq
            obtain ⟨init, hi⟩ : ∃ init, out = init ++ [q] := by
              rw [List.getLast?_eq_some_iff] at hg; obtain ⟨ys, hys⟩ := hg; exact ⟨ys, hys⟩
            rw [hi] at hp h1
            rcases List.mem_append.1 hp with hp | hp
            · have := (List.pairwise_append.1 h1).2.2 p hp q (by simp); omega
            · simp at hp; subst hp; omega
        rw [e1]
        refine ih (pre ++ [e]) _ hs (List.pairwise_append.2 ⟨h1, by simp, fun p hp q hq => by simp at hq; subst hq; exact hlt p hp⟩) (fun p => ?_) fun p hp => ?_
        · rw [rL1_app, List.mem_append, List.mem_singleton]
          cases hr : rL1 pre left unc p.1 with
          | some q =>
            have hq1 : p.1 = q.1 := by
              unfold rL1 at hr
              split at hr
              · cases hf : pre.find? fun e => e.1 == p.1 && !left e.2.2 && unc.contains e.2.1 with
                | none => rw [hf] at hr; cases hr
                | some e => rw [hf] at hr; cases hr; rfl
              · cases hr
            have hqm : q ∈ out := (h2 q).2 (by rw [← hq1]; exact hr)
            have hne : p ≠ (e.1, e.2.1) := by
              rintro rfl
              have := hlt q hqm
              simp at hq1; omega
            simp only [hne, or_false]
            rw [h2 p, hr]
          | none =>
            have hnp : ¬ p ∈ out := fun hp => by rw [(h2 p).1 hp] at hr; cases hr
            simp only [hnp, false_or]
            by_cases hep : e.1 = p.1
            · simp only [hep, beq_self_eq_true, hb, Bool.and_self, if_true]
              constructor
              · intro h; rw [h]
              · intro h; exact (Option.some.inj h).symm
            · have : (e.1 == p.1) = false := by simpa using hep
              simp only [this, Bool.false_and, Bool.false_eq_true, if_false]
              exact ⟨fun h => absurd (by rw [h]) hep, fun h => by cases h⟩
        · rcases List.mem_append.1 hp with hp | hp
          · obtain ⟨x, hx, hxe⟩ := h3 p hp
            exact ⟨x, by simp [hx], hxe⟩
          · simp at hp; subst hp; exact ⟨e, by simp, rfl⟩
    · have e1 : pLs left unc out e = out := by unfold pLs; rw [if_neg hb]
      rw [e1]
      refine ih (pre ++ [e]) out hs h1 (fun p => ?_) fun p hp => ?_
      · rw [rL1_app]
        simp only [Bool.not_eq_true] at hb
        rw [hb]
        simp only [Bool.and_false, Bool.false_eq_true, if_false]
        rw [h2 p]
        cases rL1 pre left unc p.1 <;> rfl
      · obtain ⟨x, hx, hxe⟩ := h3 p hp
        exact ⟨x, by simp [hx], hxe⟩
theorem pLost_eq {n : Nat} {es : List Ed} {left : Nat → Bool} {unc : List Nat} (hs : es.Pairwise fun a b => a.1 ≤ b.1) (hn : ∀ e ∈ es, e.1 < n) : pLost es left unc = rLost n es left unc := by
  obtain ⟨h1, h2⟩ := pLost_inv (left := left) (unc := unc) es [] [] (by simpa using hs) List.Pairwise.nil (fun p => by simp [rL1]) (fun p hp => by cases hp)
  rw [List.nil_append] at h2
  refine eq_of_mem h1 (rLost_sorted n es left unc) fun p => ?_
  rw [mem_rLost]
  refine (h2 p).trans ⟨fun h => ⟨?_, h⟩, fun h => h.2⟩
  unfold rL1 at h
  split at h
  · cases hf : es.find? fun e => e.1 == p.1 && !left e.2.2 && unc.contains e.2.1 with
    | none => rw [hf] at h; cases h
    | some e =>
      have h3 := List.mem_of_find?_eq_some hf
      have h4 := List.find?_some hf
      simp only [Bool.and_eq_true, beq_iff_eq] at h4
      have := hn e h3
      omega
  · cases h
structure Rm where
  st : Nat
  rank : Int
  reason : Nat
  ev : Int
deriving DecidableEq
def lostF (rank : Int) (l : List (Nat × Nat)) : List Rm := l.map fun p => ⟨p.1, rank, 2, (p.2 : Int)⟩
def blkF (left : Nat → Bool) (rank : Int) (d : List Int) : List Rm := (List.range d.length).filterMap fun i => if left i && decide (d.getD i 0 < 0) then some ⟨i, rank, 3, -1⟩ else none
def pNext (n : Nat) (es : List Ed) (mk : List Nat) (left : Nat → Bool) (unc : List Nat) (rank : Int) (all : Bool) : List Rm :=
  if decide (0 < (pLost es left unc).length) || !all then lostF rank (pLost es left unc) else blkF left rank (pDist n es mk left)
end Go.AM.SD
set_option linter.unusedSimpArgs false
set_option linter.unusedVariables false
namespace Go.AM.SD
abbrev LB := List Bool
def lf (l : LB) : Nat → Bool := fun i => l.getD i false
def offs (l : LB) (xs : List Nat) : LB := xs.foldl (fun l x => l.set x false) l
def pRounds (n : Nat) (es : List Ed) (mk : List Nat) (unc : List Nat) (all : Bool) : Nat → Nat → LB → List Rm → Nat → LB × List Rm × Nat
  | 0, _, l, rs, k => (l, rs, k)
  | f + 1, rank, l, rs, k =>
    if (pNext n es mk (lf l) unc rank all).length = 0 then (l, rs, k)
    else pRounds n es mk unc all f (rank + 1) (offs l ((pNext n es mk (lf l) unc rank all).map (·.st))) (rs ++ pNext n es mk (lf l) unc rank all) rank
def putR (rs : List Rm) (l : List Rm) : List Rm := l.foldl (fun rs x => rs.set x.st x) rs
def rm0 (i : Nat) : Rm := ⟨i, 1, 1, -1⟩
theorem offs_len (xs : List Nat) : ∀ l : LB, (offs l xs).length = l.length := by
  induction xs with
  | nil => intro l; rfl
  | cons x xs ih => intro l; show (offs (l.set x false) xs).length = _; rw [ih]; simp
theorem lf_offs (xs : List Nat) : ∀ (l : LB) (i : Nat), lf (offs l xs) i = (lf l i && !xs.contains i) := by
  induction xs with
  | nil => intro l i; simp [offs, lf]
  | cons x xs ih =>
    intro l i
    show lf (offs (l.set x false) xs) i = _
    rw [ih]
    have : lf (l.set x false) i = (lf l i && !(i == x)) := by
      simp only [lf, List.getD_eq_getElem?_getD, List.getElem?_set]
      by_cases e : x = i
      · subst e
        by_cases h : x < l.length
        · simp [h]
        · simp [h]
      · have e2 : (i == x) = false := by simpa using fun h => e h.symm
        simp [e, e2]
    rw [this, List.contains_cons]
    cases lf l i <;> cases (i == x) <;> cases xs.contains i <;> rfl
theorem pNext_st {n : Nat} {es : List Ed} {mk : List Nat} {left : Nat → Bool} {unc : List Nat} {rank : Int} {all : Bool} (hin : InN n es mk) (hnd : mk.Nodup) (hs : es.Pairwise fun a b => a.1 ≤ b.1) :
    (pNext n es mk left unc rank all).Pairwise (fun a b => a.st < b.st) ∧ ∀ r ∈ pNext n es mk left unc rank all, r.st < n ∧ left r.st = true := by
  have hd : (pDist n es mk left).length = n := (bQ_dst hin (n + 1) 0 _ (bMks_bh (left := left) hin hnd) (by omega)).1
  unfold pNext
  split
  · unfold lostF
    rw [pLost_eq hs fun e he => (hin.1 e he).1]
    constructor
    · rw [List.pairwise_map]; exact (rLost_sorted n es left unc).imp fun h => h
    · intro r hr
      obtain ⟨p, hp, rfl⟩ := List.mem_map.1 hr
      obtain ⟨h1, h2⟩ := mem_rLost.1 hp
      refine ⟨h1, ?_⟩
      unfold rL1 at h2
      split at h2
      · assumption
      · cases h2
  · unfold blkF
    rw [hd]
    constructor
    · refine List.Pairwise.filterMap _ (R := (· < ·)) ?_ List.pairwise_lt_range
      intro a b hab p hp q hq
      have h1 : ∀ (st : Nat) (p : Rm), (if left st && decide ((pDist n es mk left).getD st 0 < 0) then some (⟨st, rank, 3, -1⟩ : Rm) else none) = some p → p.st = st := by
        intro st p h
        split at h
        · cases h; rfl
        · cases h
      rw [h1 a p hp, h1 b q hq]; exact hab
    · intro r hr
      obtain ⟨i, hi, h⟩ := List.mem_filterMap.1 hr
      split at h
      · rename_i hc
        cases h
        simp only [Bool.and_eq_true] at hc
        exact ⟨List.mem_range.1 hi, hc.1⟩
      · cases h
def cntL (n : Nat) (l : LB) : Nat := (List.range n).countP fun i => lf l i
theorem cntL_lt {n : Nat} {l l' : LB} (h : ∀ i, i < n → lf l' i = true → lf l i = true) {x : Nat} (hx : x < n) (h1 : lf l x = true) (h2 : lf l' x = false) : cntL n l' < cntL n l := by
  unfold cntL
  have hmem : x ∈ List.range n := List.mem_range.2 hx
  have hmono : ∀ y ∈ List.range n, lf l' y = true → lf l y = true := fun y hy => h y (List.mem_range.1 hy)
  generalize List.range n = L at hmem hmono
  induction L with
  | nil => cases hmem
  | cons y L ih =>
    have hle : L.countP (fun x => lf l' x) ≤ L.countP (fun x => lf l x) := List.countP_mono_left fun z hz h5 => hmono z (by simp [hz]) h5
    rw [List.countP_cons, List.countP_cons]
    rcases List.mem_cons.1 hmem with e | hm
    · subst e
      rw [if_neg (by rw [h2]; simp), if_pos h1]; omega
    · have := ih hm fun z hz h5 => hmono z (by simp [hz]) h5
      have h6 := hmono y (by simp)
      by_cases h7 : lf l' y = true
      · rw [if_pos h7, if_pos (h6 h7)]; omega
      · rw [if_neg h7]; split <;> omega
theorem len_of_contains {xs : List Nat} {r : Nat} (h : r ∈ xs) : xs.contains r = true := by simpa using h
structure Agr (n : Nat) (l : LB) (rs rr : List Rm) : Prop where
  len : rr.length = n
  st : ∀ (i : Nat) (r : Rm), rr[i]? = some r → r.st = i
  nd : (rs.map (·.st)).Nodup
  mem : ∀ r : Rm, r ∈ rs ↔ r.st < n ∧ lf l r.st = false ∧ rr[r.st]? = some r
theorem putR_len (l : List Rm) : ∀ rs, (putR rs l).length = rs.length := by
  induction l with
  | nil => intro rs; rfl
  | cons x l ih => intro rs; show (putR (rs.set x.st x) l).length = _; rw [ih]; simp
theorem putR_get : ∀ (l : List Rm) (rs : List Rm) (i : Nat), (∀ r ∈ l, r.st < rs.length) → l.Pairwise (fun a b => a.st < b.st) → (putR rs l)[i]? = match l.find? (fun r => r.st == i) with | some r => some r | none => rs[i]? := by
  intro l
  induction l with
  | nil => intro rs i _ _; rfl
  | cons x l ih =>
    intro rs i hl hp
    rw [List.pairwise_cons] at hp
    show (putR (rs.set x.st x) l)[i]? = _
    rw [ih _ i (fun r hr => by rw [List.length_set]; exact hl r (by simp [hr])) hp.2]
    have hxl := hl x (by simp)
    by_cases e : x.st = i
    · subst e
      have hn : l.find? (fun r => r.st == x.st) = none := by
        rw [List.find?_eq_none]; intro r hr; have := hp.1 r hr; simp; omega
      rw [hn, List.find?_cons_of_pos (by simp)]
      simp [hxl]
    · rw [List.find?_cons_of_neg (by simpa using e)]
      cases l.find? (fun r => r.st == i) with
      | some r => rfl
      | none => exact List.getElem?_set_ne e
theorem Agr.step {n : Nat} {l : LB} {rs rr nx : List Rm} (h : Agr n l rs rr) (hl : l.length = n) (hp : nx.Pairwise fun a b => a.st < b.st) (hm : ∀ r ∈ nx, r.st < n ∧ lf l r.st = true) : Agr n (offs l (nx.map (·.st))) (rs ++ nx) (putR rr nx) := by
  have hg := fun i => putR_get nx rr i (fun r hr => by rw [h.len]; exact (hm r hr).1) hp
  have hfind : ∀ r ∈ nx, nx.find? (fun q => q.st == r.st) = some r := by
    intro r hr
    cases hf : nx.find? (fun q => q.st == r.st) with
    | none => rw [List.find?_eq_none] at hf; exact absurd (hf r hr) (by simp)
    | some q =>
      have hq := List.mem_of_find?_eq_some hf
      have hqs : q.st = r.st := by simpa using List.find?_some hf
      have : q = r := by
        clear hf hg
        induction nx with
        | nil => cases hr
        | cons y nx ih =>
          rw [List.pairwise_cons] at hp
          rcases List.mem_cons.1 hr with e | hr2 <;> rcases List.mem_cons.1 hq with e2 | hq2
          · rw [e, e2]
          · have := hp.1 q hq2; rw [← e] at this; omega
          · have := hp.1 r hr2; rw [← e2] at this; omega
          · exact ih hp.2 (fun r hr => hm r (by simp [hr])) hr2 hq2
      rw [this]
  refine ⟨by rw [putR_len, h.len], fun i r hr => ?_, ?_, fun r => ?_⟩
  · rw [hg] at hr
    cases hf : nx.find? (fun q => q.st == i) with
    | some q => rw [hf] at hr; cases hr; simpa using List.find?_some hf
    | none => rw [hf] at hr; exact h.st i r hr
  · rw [List.map_append, List.nodup_append]
    refine ⟨h.nd, ?_, fun a ha b hb e => ?_⟩
    · rw [List.nodup_iff_pairwise_ne, List.pairwise_map]
      exact hp.imp fun h => by omega
    · subst e
      obtain ⟨r, hr, rfl⟩ := List.mem_map.1 ha
      obtain ⟨q, hq, hqr⟩ := List.mem_map.1 hb
      have h1 := ((h.mem r).1 hr).2.1
      have h2 := (hm q hq).2
      rw [hqr, h1] at h2; cases h2
  · rw [List.mem_append, lf_offs, hg]
    constructor
    · rintro (hr | hr)
      · obtain ⟨h1, h2, h3⟩ := (h.mem r).1 hr
        refine ⟨h1, by rw [h2]; rfl, ?_⟩
        have : nx.find? (fun q => q.st == r.st) = none := by
          rw [List.find?_eq_none]; intro q hq
          have := (hm q hq).2
          simp only [beq_iff_eq]; intro e; rw [e, h2] at this; cases this
        rw [this]; exact h3
      · obtain ⟨h1, h2⟩ := hm r hr
        refine ⟨h1, ?_, by rw [hfind r hr]⟩
        rw [len_of_contains (List.mem_map.2 ⟨r, hr, rfl⟩)]; simp
    · rintro ⟨h1, h2, h3⟩
      cases hf : nx.find? (fun q => q.st == r.st) with
      | some q =>
        rw [hf] at h3; cases h3
        exact .inr (List.mem_of_find?_eq_some hf)
      | none =>
        rw [hf] at h3
        refine .inl ((h.mem r).2 ⟨h1, ?_, h3⟩)
        have : (nx.map (·.st)).contains r.st = false := by
          rw [← Bool.not_eq_true]; intro hc
          have hc : r.st ∈ nx.map (·.st) := by simpa using hc
          obtain ⟨q, hq, hqs⟩ := List.mem_map.1 hc
          rw [List.find?_eq_none] at hf
          exact hf q hq (by simpa using hqs)
        rw [this] at h2; simpa using h2
end Go.AM.SD
set_option linter.unusedSimpArgs false
set_option linter.unusedVariables false
namespace Go.AM.SD
structure Rgt (n : Nat) (es : List Ed) (mk : List Nat) (forb unc : List Nat) (S : Nat → Bool) : Prop where
  lt : ∀ x, S x = true → x < n
  forb : ∀ x, S x = true → x ∉ forb
  ctl : ∀ e ∈ es, S e.1 = true → e.2.1 ∈ unc → S e.2.2 = true
  nb : ∀ x, S x = true → ∃ d, Rch es mk S d x
theorem Rch.sub {es : List Ed} {mk : List Nat} {S T : Nat → Bool} (h : ∀ x, S x = true → T x = true) : ∀ {d x : Nat}, Rch es mk S d x → Rch es mk T d x
  | 0, x, hr => ⟨h x hr.1, hr.2⟩
  | d + 1, x, hr => by
    rcases hr with hr | ⟨hl, e, he, h1, h2⟩
    · exact .inl (Rch.sub h hr)
    · exact .inr ⟨h x hl, e, he, h1, Rch.sub h h2⟩
theorem pDist_rch {n : Nat} {es : List Ed} {mk : List Nat} {left : Nat → Bool} (hin : InN n es mk) (hnd : mk.Nodup) {x : Nat} (hx : x < n) : 0 ≤ (pDist n es mk left).getD x 0 ↔ ∃ d, Rch es mk left d x := by
  obtain ⟨h1, h2⟩ := bQ_dst hin (n + 1) 0 _ (bMks_bh (left := left) hin hnd) (by omega)
  have h2 : Dst es mk left (fun x => if x < n then (pDist n es mk left).getD x 0 else -1) := h2
  constructor
  · intro h
    obtain ⟨k, hk⟩ := Int.eq_ofNat_of_zero_le h
    exact ⟨k, (h2.rch k x).2 (by rw [if_pos hx]; omega)⟩
  · rintro ⟨d, hd⟩
    have := (h2.rch d x).1 hd
    rw [if_pos hx] at this; exact this.1
theorem mem_pLost {n : Nat} {es : List Ed} {left : Nat → Bool} {unc : List Nat} (hs : es.Pairwise fun a b => a.1 ≤ b.1) (hn : ∀ e ∈ es, e.1 < n) {p : Nat × Nat} (hp : p ∈ pLost es left unc) : ∃ e ∈ es, e.1 = p.1 ∧ left e.1 = true ∧ left e.2.2 = false ∧ e.2.1 ∈ unc := by
  rw [pLost_eq hs hn] at hp
  obtain ⟨_, h⟩ := mem_rLost.1 hp
  unfold rL1 at h
  split at h
  · rename_i hl
    cases hf : es.find? fun e => e.1 == p.1 && !left e.2.2 && unc.contains e.2.1 with
    | none => rw [hf] at h; cases h
    | some e =>
      have h3 := List.mem_of_find?_eq_some hf
      have h4 := List.find?_some hf
      simp only [Bool.and_eq_true, beq_iff_eq, Bool.not_eq_true', List.contains_iff_mem] at h4
      exact ⟨e, h3, h4.1.1, by rw [h4.1.1]; exact hl, h4.1.2, h4.2⟩
  · cases h
theorem pLost_nil {n : Nat} {es : List Ed} {left : Nat → Bool} {unc : List Nat} (hs : es.Pairwise fun a b => a.1 ≤ b.1) (hn : ∀ e ∈ es, e.1 < n) (h : pLost es left unc = []) : ∀ e ∈ es, left e.1 = true → e.2.1 ∈ unc → left e.2.2 = true := by
  intro e he hl hu
  rw [pLost_eq hs hn] at h
  cases hl2 : left e.2.2 with
  | true => rfl
  | false =>
    exfalso
    have hex : ∃ p, rL1 es left unc e.1 = some p ∧ p.1 = e.1 := by
      unfold rL1
      rw [if_pos hl]
      cases hf : es.find? fun x => x.1 == e.1 && !left x.2.2 && unc.contains x.2.1 with
      | none =>
        rw [List.find?_eq_none] at hf
        have := hf e he
        simp [hl2, hu] at this
      | some x => exact ⟨_, rfl, rfl⟩
    obtain ⟨p, hp, hpe⟩ := hex
    have : p ∈ rLost n es left unc := mem_rLost.2 ⟨by rw [hpe]; exact hn e he, by rw [hpe]; exact hp⟩
    rw [h] at this; cases this
theorem pNext_keeps {n : Nat} {es : List Ed} {mk : List Nat} {left S : Nat → Bool} {forb unc : List Nat} {rank : Int} {all : Bool} (hin : InN n es mk) (hnd : mk.Nodup) (hs : es.Pairwise fun a b => a.1 ≤ b.1)
    (hS : Rgt n es mk forb unc S) (hsub : ∀ x, S x = true → left x = true) : ∀ r ∈ pNext n es mk left unc rank all, S r.st = false := by
  intro r hr
  cases hSr : S r.st with
  | false => rfl
  | true =>
    exfalso
    unfold pNext at hr
    split at hr
    · obtain ⟨p, hp, rfl⟩ := List.mem_map.1 hr
      obtain ⟨e, he, h1, h2, h3, h4⟩ := mem_pLost hs (fun e he => (hin.1 e he).1) hp
      have hSe : S e.1 = true := by rw [h1]; exact hSr
      have := hsub _ (hS.ctl e he hSe h4)
      rw [h3] at this; cases this
    · obtain ⟨i, hi, h⟩ := List.mem_filterMap.1 hr
      split at h
      · rename_i hc
        cases h
        simp only [Bool.and_eq_true, decide_eq_true_eq] at hc
        obtain ⟨d, hd⟩ := hS.nb i hSr
        have := (pDist_rch (left := left) hin hnd (hS.lt i hSr)).2 ⟨d, hd.sub hsub⟩
        omega
      · cases h
theorem rounds_keep {n : Nat} {es : List Ed} {mk : List Nat} {S : Nat → Bool} {forb unc : List Nat} {all : Bool} (hin : InN n es mk) (hnd : mk.Nodup) (hs : es.Pairwise fun a b => a.1 ≤ b.1) (hS : Rgt n es mk forb unc S) :
    ∀ (f rank : Nat) (l : LB) (rs : List Rm) (k : Nat), (∀ x, S x = true → lf l x = true) → ∀ x, S x = true → lf (pRounds n es mk unc all f rank l rs k).1 x = true := by
  intro f
  induction f with
  | zero => intro rank l rs k h; exact h
  | succ f ih =>
    intro rank l rs k h
    unfold pRounds
    split
    · exact h
    · refine ih _ _ _ _ fun x hx => ?_
      rw [lf_offs, h x hx, Bool.true_and, Bool.not_eq_true', ← Bool.not_eq_true]
      intro hc
      have hc : x ∈ (pNext n es mk (lf l) unc rank all).map (·.st) := by simpa using hc
      obtain ⟨r, hr, rfl⟩ := List.mem_map.1 hc
      have := pNext_keeps hin hnd hs hS h r hr
      rw [this] at hx; cases hx
theorem rounds_end {n : Nat} {es : List Ed} {mk : List Nat} {unc : List Nat} {all : Bool} (hin : InN n es mk) (hnd : mk.Nodup) (hs : es.Pairwise fun a b => a.1 ≤ b.1) : ∀ (f rank : Nat) (l : LB) (rs : List Rm) (k : Nat), cntL n l < f →
    (∀ x, lf (pRounds n es mk unc all f rank l rs k).1 x = true → lf l x = true) ∧ ∃ rank' : Nat, pNext n es mk (lf (pRounds n es mk unc all f rank l rs k).1) unc rank' all = [] := by
  intro f
  induction f with
  | zero => intro rank l rs k h; omega
  | succ f ih =>
    intro rank l rs k h
    unfold pRounds
    split
    · rename_i h0; exact ⟨fun x hx => hx, rank, List.eq_nil_of_length_eq_zero h0⟩
    · rename_i h0
      obtain ⟨r, hr⟩ : ∃ r, r ∈ pNext n es mk (lf l) unc rank all := by
        cases hp : pNext n es mk (lf l) unc rank all with
        | nil => rw [hp] at h0; exact absurd rfl h0
        | cons r _ => exact ⟨r, by simp⟩
      obtain ⟨h1, h2⟩ := (pNext_st (left := lf l) (unc := unc) (rank := rank) (all := all) hin hnd hs).2 r hr
      have h3 : cntL n (offs l ((pNext n es mk (lf l) unc rank all).map (·.st))) < cntL n l := by
        refine cntL_lt (fun i _ hi => ?_) h1 h2 ?_
        · rw [lf_offs] at hi; simp only [Bool.and_eq_true] at hi; exact hi.1
        · rw [lf_offs, len_of_contains (List.mem_map.2 ⟨r, hr, rfl⟩)]; simp
      obtain ⟨k1, k2⟩ := ih (rank + 1) (offs l ((pNext n es mk (lf l) unc rank all).map (·.st))) (rs ++ pNext n es mk (lf l) unc rank all) rank (by omega)
      refine ⟨fun x hx => ?_, k2⟩
      have := k1 x hx
      rw [lf_offs] at this; simp only [Bool.and_eq_true] at this; exact this.1
def left0 (n : Nat) (forb : List Nat) : LB := offs (List.replicate n true) forb
theorem lf_left0 {n : Nat} {forb : List Nat} {x : Nat} : lf (left0 n forb) x = true ↔ x < n ∧ x ∉ forb := by
  unfold left0
  rw [lf_offs]
  have : lf (List.replicate n true) x = decide (x < n) := by
    unfold lf
    rw [List.getD_eq_getElem?_getD, List.getElem?_replicate]
    by_cases h : x < n <;> simp [h]
  rw [this]
  simp
def fin (n : Nat) (es : List Ed) (mk : List Nat) (forb unc : List Nat) (all : Bool) : LB × List Rm × Nat :=
  pRounds n es mk unc all (n + 1) 2 (left0 n forb) (forb.map rm0) (if forb.length = 0 then 0 else 1)
theorem fin_rgt {n : Nat} {es : List Ed} {mk : List Nat} {forb unc : List Nat} (hin : InN n es mk) (hnd : mk.Nodup) (hs : es.Pairwise fun a b => a.1 ≤ b.1) : Rgt n es mk forb unc (lf (fin n es mk forb unc true).1) := by
  have hc : cntL n (left0 n forb) < n + 1 := by
    have : cntL n (left0 n forb) ≤ (List.range n).length := List.countP_le_length
    rw [List.length_range] at this; omega
  obtain ⟨h1, rank, h2⟩ := rounds_end (unc := unc) (all := true) hin hnd hs (n + 1) 2 (left0 n forb) (forb.map rm0) (if forb.length = 0 then 0 else 1) hc
  have hf := fun x hx => lf_left0.1 (h1 x hx)
  replace h2 : pNext n es mk (lf (fin n es mk forb unc true).1) unc rank true = [] := h2
  have hlost : pLost es (lf (fin n es mk forb unc true).1) unc = [] := by
    cases hp : pLost es (lf (fin n es mk forb unc true).1) unc with
    | nil => rfl
    | cons p l => unfold pNext at h2; rw [hp] at h2; simp [lostF] at h2
  have hblk : blkF (lf (fin n es mk forb unc true).1) rank (pDist n es mk (lf (fin n es mk forb unc true).1)) = [] := by
    unfold pNext at h2; rw [hlost] at h2; simpa using h2
  refine ⟨fun x hx => (hf x hx).1, fun x hx => (hf x hx).2, fun e he => pLost_nil hs (fun e he => (hin.1 e he).1) hlost e he, fun x hx => ?_⟩
  have hxn := (hf x hx).1
  refine (pDist_rch hin hnd hxn).1 ?_
  have hd : (pDist n es mk (lf (fin n es mk forb unc true).1)).length = n := (bQ_dst hin (n + 1) 0 _ (bMks_bh hin hnd) (by omega)).1
  unfold blkF at hblk
  rw [hd] at hblk
  have := List.filterMap_eq_nil_iff.1 hblk x (List.mem_range.2 hxn)
  split at this
  · cases this
  · rename_i hcx
    simp only [Bool.and_eq_true, decide_eq_true_eq, not_and] at hcx
    have := hcx hx
    omega
theorem fin_greatest {n : Nat} {es : List Ed} {mk : List Nat} {forb unc : List Nat} {all : Bool} {S : Nat → Bool} (hin : InN n es mk) (hnd : mk.Nodup) (hs : es.Pairwise fun a b => a.1 ≤ b.1) (hS : Rgt n es mk forb unc S) {x : Nat} (hx : S x = true) : lf (fin n es mk forb unc all).1 x = true :=
  rounds_keep hin hnd hs hS _ _ _ _ _ (fun y hy => lf_left0.2 ⟨hS.lt y hy, hS.forb y hy⟩) x hx
theorem Rgt.mono {n : Nat} {es : List Ed} {mk : List Nat} {forb forb' unc unc' : List Nat} {S : Nat → Bool} (h : Rgt n es mk forb' unc' S) (hf : ∀ x ∈ forb, x ∈ forb') (hu : ∀ x ∈ unc, x ∈ unc') : Rgt n es mk forb unc S :=
  ⟨h.lt, fun x hx hm => h.forb x hx (hf x hm), fun e he h1 h2 => h.ctl e he h1 (hu _ h2), h.nb⟩
end Go.AM.SD
set_option linter.unusedSimpArgs false
set_option linter.unusedVariables false
namespace Go.AM.SD
structure Aut where
  al : List Nat
  n : Nat
  ms : List Nat
  es : List Ed
structure WfA (a : Aut) : Prop where
  al : a.al.Pairwise (· < ·)
  al5 : ∀ x ∈ a.al, x < 5
  n5 : a.n ≤ 5
  ms : a.ms.Pairwise (· < ·)
  msn : ∀ x ∈ a.ms, x < a.n
  es : a.es.Pairwise fun x y => x.1 < y.1 ∨ (x.1 = y.1 ∧ x.2.1 < y.2.1)
  esn : ∀ e ∈ a.es, e.1 < a.n ∧ e.2.2 < a.n
  ev : ∀ e ∈ a.es, e.2.1 ∈ a.al
theorem WfA.inN {a : Aut} (h : WfA a) : InN a.n a.es a.ms := ⟨h.esn, h.msn⟩
theorem WfA.nd {a : Aut} (h : WfA a) : a.ms.Nodup := by
  rw [List.nodup_iff_pairwise_ne]; exact h.ms.imp fun h => by omega
theorem WfA.srt {a : Aut} (h : WfA a) : a.es.Pairwise fun x y => x.1 ≤ y.1 := h.es.imp fun h => by omega
def stepA (es : List Ed) (s ev : Nat) : Option Nat := (es.find? fun e => e.1 == s && e.2.1 == ev).map (·.2.2)
def fEv (es : List Ed) (s : Nat) (out : List Nat) (ev : Nat) : List Nat := match stepA es s ev with | some to => if out.contains to then out else out ++ [to] | none => out
def fRow (al : List Nat) (es : List Ed) (s : Nat) (out : List Nat) : List Nat := al.foldl (fEv es s) out
def fQ (al : List Nat) (es : List Ed) : Nat → Nat → List Nat → List Nat
  | 0, _, out => out
  | k + 1, i, out => match out[i]? with | some s => fQ al es k (i + 1) (fRow al es s out) | none => out
def found (a : Aut) : List Nat := fQ a.al a.es (a.n + 1) 0 (if 0 < a.n then [0] else [])
def idx (l : List Nat) (x : Nat) : Nat := l.findIdx (· == x)
def cRow (a : Aut) (f : List Nat) (i s : Nat) : List Ed := a.al.filterMap fun ev => (stepA a.es s ev).map fun to => (i, ev, idx f to)
def cRows (a : Aut) (f : List Nat) : List Ed := (List.range f.length).flatMap fun i => cRow a f i (f.getD i 0)
def canon (a : Aut) : Aut := ⟨a.al, (found a).length, (List.range (found a).length).filter fun i => a.ms.contains ((found a).getD i 0), cRows a (found a)⟩
theorem stepA_lt {n : Nat} {es : List Ed} (hn : ∀ e ∈ es, e.1 < n ∧ e.2.2 < n) {s ev to : Nat} (h : stepA es s ev = some to) : to < n := by
  unfold stepA at h
  cases hf : es.find? fun e => e.1 == s && e.2.1 == ev with
  | none => rw [hf] at h; cases h
  | some e => rw [hf] at h; cases h; exact (hn e (List.mem_of_find?_eq_some hf)).2
structure FI (n : Nat) (out : List Nat) : Prop where
  nd : out.Nodup
  lt : ∀ x ∈ out, x < n
theorem nodup_len : ∀ (n : Nat) (l : List Nat), l.Nodup → (∀ x ∈ l, x < n) → l.length ≤ n
  | 0, l, _, h => by
    cases l with
    | nil => exact Nat.le_refl _
    | cons x l => have := h x (by simp); omega
  | n + 1, l, hn, h => by
    by_cases hm : n ∈ l
    · have h1 := nodup_len n (l.erase n) (hn.erase n) fun x hx => by
        have h2 := (hn.mem_erase_iff).1 hx
        have := h x h2.2
        have := h2.1
        omega
      rw [List.length_erase_of_mem hm] at h1
      omega
    · have := nodup_len n l hn fun x hx => by
        have := h x hx
        have : x ≠ n := fun e => hm (e ▸ hx)
        omega
      omega
theorem FI.len {n : Nat} {out : List Nat} (h : FI n out) : out.length ≤ n := nodup_len n out h.nd h.lt
theorem FI.row {n : Nat} {es : List Ed} (hn : ∀ e ∈ es, e.1 < n ∧ e.2.2 < n) (s : Nat) : ∀ (al : List Nat) (out : List Nat), FI n out → FI n (al.foldl (fEv es s) out) ∧ (∃ t, al.foldl (fEv es s) out = out ++ t) ∧ ∀ ev ∈ al, ∀ to, stepA es s ev = some to → to ∈ al.foldl (fEv es s) out := by
  intro al
  induction al with
  | nil => intro out h; exact ⟨h, ⟨[], by simp⟩, fun ev hev => by cases hev⟩
  | cons ev al ih =>
    intro out h
    rw [List.foldl_cons]
    have h1 : FI n (fEv es s out ev) ∧ (∃ t, fEv es s out ev = out ++ t) ∧ ∀ to, stepA es s ev = some to → to ∈ fEv es s out ev := by
      unfold fEv
      cases hs : stepA es s ev with
      | none => exact ⟨h, ⟨[], by simp⟩, fun to ht => by cases ht⟩
      | some to =>
        dsimp only
        split
        · rename_i hc
          exact ⟨h, ⟨[], by simp⟩, fun t ht => by cases ht; simpa using hc⟩
        · rename_i hc
          refine ⟨⟨?_, fun x hx => ?_⟩, ⟨[to], rfl⟩, fun t ht => by cases ht; simp⟩
          · rw [List.nodup_append]
            refine ⟨h.nd, by simp, fun a ha b hb e => ?_⟩
            simp only [List.mem_singleton] at hb
            subst hb; subst e
            exact hc (by simpa using ha)
          · rcases List.mem_append.1 hx with hx | hx
            · exact h.lt x hx
            · simp at hx; subst hx; exact stepA_lt hn hs
    obtain ⟨k1, ⟨t, k2⟩, k3⟩ := h1
    obtain ⟨j1, ⟨t2, j2⟩, j3⟩ := ih _ k1
    refine ⟨j1, ⟨t ++ t2, by rw [j2, k2, List.append_assoc]⟩, fun e he to ht => ?_⟩
    rcases List.mem_cons.1 he with rfl | he
    · rw [j2]; exact List.mem_append_left _ (k3 to ht)
    · exact j3 e he to ht
theorem fQ_ok {n : Nat} {al : List Nat} {es : List Ed} (hn : ∀ e ∈ es, e.1 < n ∧ e.2.2 < n) : ∀ (k i : Nat) (out : List Nat), FI n out → i ≤ out.length → n < k + i → (∀ j s, j < i → out[j]? = some s → ∀ ev ∈ al, ∀ to, stepA es s ev = some to → to ∈ out) →
    FI n (fQ al es k i out) ∧ (∃ t, fQ al es k i out = out ++ t) ∧ ∀ s ∈ fQ al es k i out, ∀ ev ∈ al, ∀ to, stepA es s ev = some to → to ∈ fQ al es k i out := by
  intro k
  induction k with
  | zero => intro i out h hi hk _; have := h.len; omega
  | succ k ih =>
    intro i out h hi hk hd
    unfold fQ
    cases hs : out[i]? with
    | none =>
      have hil : out.length ≤ i := List.getElem?_eq_none_iff.1 hs
      refine ⟨h, ⟨[], by simp⟩, fun s hm ev hev to ht => ?_⟩
      have hm : s ∈ out := hm
      obtain ⟨j, hj⟩ := List.getElem?_of_mem hm
      have hjl : j < out.length := (List.getElem?_eq_some_iff.1 hj).1
      exact hd j s (by omega) hj ev hev to ht
    | some s =>
      dsimp only
      obtain ⟨k1, ⟨t, k2⟩, k3⟩ := FI.row hn s al out h
      have hil : i < out.length := (List.getElem?_eq_some_iff.1 hs).1
      have k2 : fRow al es s out = out ++ t := k2
      obtain ⟨j1, ⟨t2, j2⟩, j3⟩ := ih (i + 1) (fRow al es s out) k1 (by rw [k2, List.length_append]; omega) (by omega) fun j s' hj hs' ev hev to ht => by
        have hjl : j < out.length := by omega
        rw [k2, List.getElem?_append_left hjl] at hs'
        by_cases hji : j < i
        · rw [k2]; exact List.mem_append_left _ (hd j s' hji hs' ev hev to ht)
        · have : j = i := by omega
          subst this
          rw [hs] at hs'; cases hs'
          exact k3 ev hev to ht
      exact ⟨j1, ⟨t ++ t2, by rw [j2, k2, List.append_assoc]⟩, j3⟩
theorem found_ok {a : Aut} (hn : ∀ e ∈ a.es, e.1 < a.n ∧ e.2.2 < a.n) : FI a.n (found a) ∧ (∃ t, found a = (if 0 < a.n then [0] else []) ++ t) ∧ ∀ s ∈ found a, ∀ ev ∈ a.al, ∀ to, stepA a.es s ev = some to → to ∈ found a := by
  refine fQ_ok hn (a.n + 1) 0 _ ?_ (Nat.zero_le _) (by omega) fun j s hj => by omega
  split
  · rename_i h0; exact ⟨by simp, fun x hx => by simp at hx; omega⟩
  · exact ⟨by simp, fun x hx => by cases hx⟩
theorem idx_lt {l : List Nat} {x : Nat} (h : x ∈ l) : idx l x < l.length := List.findIdx_lt_length_of_exists ⟨x, h, by simp⟩
theorem idx_get {l : List Nat} {x : Nat} (h : x ∈ l) : l[idx l x]? = some x := by
  have h1 := idx_lt h
  rw [List.getElem?_eq_getElem h1]
  have := List.findIdx_getElem (p := (· == x)) (w := h1)
  exact congrArg some (by simpa using this : l[List.findIdx (· == x) l]'h1 = x)
theorem pairwise_flatMap {l : List Nat} {f : Nat → List Ed} {R : Ed → Ed → Prop} (h1 : ∀ i ∈ l, (f i).Pairwise R) (h2 : l.Pairwise fun i j => ∀ x ∈ f i, ∀ y ∈ f j, R x y) : (l.flatMap f).Pairwise R := by
  induction l with
  | nil => exact List.Pairwise.nil
  | cons i l ih =>
    rw [List.pairwise_cons] at h2
    rw [List.flatMap_cons, List.pairwise_append]
    refine ⟨h1 i (by simp), ih (fun j hj => h1 j (by simp [hj])) h2.2, fun x hx y hy => ?_⟩
    obtain ⟨j, hj, hy⟩ := List.mem_flatMap.1 hy
    exact h2.1 j hj x hx y hy
theorem canon_wf {a : Aut} (hal : a.al.Pairwise (· < ·)) (h5 : ∀ x ∈ a.al, x < 5) (hn5 : a.n ≤ 5) (hn : ∀ e ∈ a.es, e.1 < a.n ∧ e.2.2 < a.n) : WfA (canon a) := by
  obtain ⟨h1, _, h3⟩ := found_ok hn
  have hrow : ∀ i s, ∀ e ∈ cRow a (found a) i s, e.1 = i ∧ e.2.1 ∈ a.al ∧ (s ∈ found a → e.2.2 < (found a).length) := by
    intro i s e he
    obtain ⟨ev, hev, hm⟩ := List.mem_filterMap.1 he
    cases hs : stepA a.es s ev with
    | none => rw [hs] at hm; cases hm
    | some to =>
      rw [hs] at hm; cases hm
      exact ⟨rfl, hev, fun hsf => idx_lt (h3 s hsf ev hev to hs)⟩
  have hget : ∀ i, i < (found a).length → (found a).getD i 0 ∈ found a := fun i hi => by
    rw [List.getD_eq_getElem?_getD, List.getElem?_eq_getElem hi]; exact List.getElem_mem hi
  refine ⟨hal, h5, Nat.le_trans h1.len hn5, ?_, fun x hx => ?_, ?_, fun e he => ?_, fun e he => ?_⟩
  · exact List.pairwise_lt_range.filter _
  · have := (List.mem_filter.1 hx).1
    exact List.mem_range.1 this
  · refine pairwise_flatMap (fun i hi => ?_) (List.pairwise_lt_range.imp fun hij x hx y hy => .inl ?_)
    · refine List.Pairwise.filterMap _ (R := (· < ·)) ?_ hal
      intro x y hxy p hp q hq
      cases hs : stepA a.es ((found a).getD i 0) x with
      | none => rw [hs] at hp; cases hp
      | some to =>
        cases hs2 : stepA a.es ((found a).getD i 0) y with
        | none => rw [hs2] at hq; cases hq
        | some to2 => rw [hs] at hp; rw [hs2] at hq; cases hp; cases hq; exact .inr ⟨rfl, hxy⟩
    · rw [(hrow _ _ x hx).1, (hrow _ _ y hy).1]; exact hij
  · obtain ⟨i, hi, he⟩ := List.mem_flatMap.1 he
    have hi := List.mem_range.1 hi
    obtain ⟨h4, _, h6⟩ := hrow _ _ e he
    exact ⟨by rw [h4]; exact hi, h6 (hget i hi)⟩
  · obtain ⟨i, hi, he⟩ := List.mem_flatMap.1 he
    exact (hrow _ _ e he).2.1
end Go.AM.SD
set_option linter.unusedSimpArgs false
set_option linter.unusedVariables false
namespace Go.AM.SD
abbrev OE := List Nat × List Ed
def sEd (i : Nat) (s : OE) (e : Ed) : OE := if s.1.contains e.2.2 then (s.1, s.2 ++ [(i, e.2.1, idx s.1 e.2.2)]) else (s.1 ++ [e.2.2], s.2 ++ [(i, e.2.1, s.1.length)])
def sOut (es : List Ed) (left : Nat → Bool) (v : Nat) : List Ed := es.filter fun e => e.1 == v && left e.2.2
def sRow (es : List Ed) (left : Nat → Bool) (i v : Nat) (s : OE) : OE := (sOut es left v).foldl (sEd i) s
def sQ (es : List Ed) (left : Nat → Bool) : Nat → Nat → OE → OE
  | 0, _, s => s
  | k + 1, i, s => match s.1[i]? with | some v => sQ es left k (i + 1) (sRow es left i v s) | none => s
def sAll (a : Aut) (left : Nat → Bool) : OE := sQ a.es left (a.n + 1) 0 (if decide (0 < a.n) && left 0 then [0] else [], [])
def restr (a : Aut) (left : Nat → Bool) : Aut := ⟨a.al, (sAll a left).1.length, (List.range (sAll a left).1.length).filter fun i => a.ms.contains ((sAll a left).1.getD i 0), (sAll a left).2⟩
theorem idx_app {l t : List Nat} {x : Nat} (h : x ∈ l) : idx (l ++ t) x = idx l x := by
  unfold idx
  rw [List.findIdx_append, if_pos]
  exact idx_lt h
theorem idx_new {l : List Nat} {x : Nat} (h : x ∉ l) : idx (l ++ [x]) x = l.length := by
  unfold idx
  rw [List.findIdx_append]
  have : ¬ List.findIdx (· == x) l < l.length := fun hl => by
    have := List.findIdx_getElem (p := (· == x)) (w := hl)
    have e : l[List.findIdx (· == x) l] = x := by simpa using this
    exact h (e ▸ List.getElem_mem hl)
  rw [if_neg this]; simp
theorem idx_at {l : List Nat} (hn : l.Nodup) {i x : Nat} (h : l[i]? = some x) : idx l x = i := by
  have hm := List.mem_of_getElem? h
  have h1 := idx_get hm
  have hil := (List.getElem?_eq_some_iff.1 h).1
  have := idx_lt hm
  exact (List.getElem?_inj this hn).1 (h1.trans h.symm)
def num (o : List Nat) (i : Nat) (e : Ed) : Ed := (i, e.2.1, idx o e.2.2)
theorem row_fold {n : Nat} {left : Nat → Bool} (i : Nat) : ∀ (es2 : List Ed) (s : OE), (∀ e ∈ es2, e.2.2 < n ∧ left e.2.2 = true) → FI n s.1 → (∀ x ∈ s.1, left x = true) →
    FI n (es2.foldl (sEd i) s).1 ∧ (∀ x ∈ (es2.foldl (sEd i) s).1, left x = true) ∧ (∃ t, (es2.foldl (sEd i) s).1 = s.1 ++ t) ∧ (∀ e ∈ es2, e.2.2 ∈ (es2.foldl (sEd i) s).1) ∧ (es2.foldl (sEd i) s).2 = s.2 ++ es2.map (num (es2.foldl (sEd i) s).1 i) := by
  intro es2
  induction es2 with
  | nil => intro s _ h hl; exact ⟨h, hl, ⟨[], by simp⟩, (fun e he => by cases he), by simp⟩
  | cons e es2 ih =>
    intro s hes h hl
    rw [List.foldl_cons]
    obtain ⟨he1, he2⟩ := hes e (by simp)
    by_cases hc : s.1.contains e.2.2 = true
    · have e1 : sEd i s e = (s.1, s.2 ++ [(i, e.2.1, idx s.1 e.2.2)]) := if_pos hc
      have hm : e.2.2 ∈ s.1 := by simpa using hc
      rw [e1]
      obtain ⟨k1, k2, ⟨t, k3⟩, k4, k5⟩ := ih (s.1, s.2 ++ [(i, e.2.1, idx s.1 e.2.2)]) (fun x hx => hes x (by simp [hx])) h hl
      refine ⟨k1, k2, ⟨t, k3⟩, fun x hx => ?_, ?_⟩
      · rcases List.mem_cons.1 hx with rfl | hx
        · rw [k3]; exact List.mem_append_left _ hm
        · exact k4 x hx
      · rw [k5, List.map_cons]
        have : num (es2.foldl (sEd i) (s.1, s.2 ++ [(i, e.2.1, idx s.1 e.2.2)])).1 i e = (i, e.2.1, idx s.1 e.2.2) := by
          unfold num; rw [k3, idx_app hm]
        rw [this]; simp
    · have e1 : sEd i s e = (s.1 ++ [e.2.2], s.2 ++ [(i, e.2.1, s.1.length)]) := if_neg hc
      have hm : e.2.2 ∉ s.1 := by simpa using hc
      rw [e1]
      obtain ⟨k1, k2, ⟨t, k3⟩, k4, k5⟩ := ih (s.1 ++ [e.2.2], s.2 ++ [(i, e.2.1, s.1.length)]) (fun x hx => hes x (by simp [hx]))
        ⟨by
          rw [List.nodup_append]
          refine ⟨h.nd, by simp, fun a ha b hb e => ?_⟩
          simp only [List.mem_singleton] at hb
          subst hb; subst e; exact hm ha, fun x hx => by
          rcases List.mem_append.1 hx with hx | hx
          · exact h.lt x hx
          · simp at hx; subst hx; exact he1⟩
        (fun x hx => by
          rcases List.mem_append.1 hx with hx | hx
          · exact hl x hx
          · simp at hx; subst hx; exact he2)
      have k3 : (es2.foldl (sEd i) (s.1 ++ [e.2.2], s.2 ++ [(i, e.2.1, s.1.length)])).1 = (s.1 ++ [e.2.2]) ++ t := k3
      refine ⟨k1, k2, ⟨[e.2.2] ++ t, by rw [k3, List.append_assoc]⟩, fun x hx => ?_, ?_⟩
      · rcases List.mem_cons.1 hx with rfl | hx
        · rw [k3]; simp
        · exact k4 x hx
      · rw [k5, List.map_cons]
        have : num (es2.foldl (sEd i) (s.1 ++ [e.2.2], s.2 ++ [(i, e.2.1, s.1.length)])).1 i e = (i, e.2.1, s.1.length) := by
          unfold num; rw [k3, idx_app (by simp), idx_new hm]
        rw [this]; simp
structure SI (n : Nat) (es : List Ed) (left : Nat → Bool) (i : Nat) (s : OE) : Prop where
  fi : FI n s.1
  lft : ∀ x ∈ s.1, left x = true
  le : i ≤ s.1.length
  cl : ∀ j v, j < i → s.1[j]? = some v → ∀ e ∈ sOut es left v, e.2.2 ∈ s.1
  ed : s.2 = (List.range i).flatMap fun j => (sOut es left (s.1.getD j 0)).map (num s.1 j)
theorem mem_sOut {es : List Ed} {left : Nat → Bool} {v : Nat} {e : Ed} : e ∈ sOut es left v ↔ e ∈ es ∧ e.1 = v ∧ left e.2.2 = true := by
  unfold sOut; rw [List.mem_filter]; simp
theorem SI.step {n : Nat} {es : List Ed} {left : Nat → Bool} (hn : ∀ e ∈ es, e.1 < n ∧ e.2.2 < n) {i v : Nat} {s : OE} (h : SI n es left i s) (hv : s.1[i]? = some v) : SI n es left (i + 1) (sRow es left i v s) := by
  obtain ⟨k1, k2, ⟨t, k3⟩, k4, k5⟩ := row_fold i (sOut es left v) s (fun e he => ⟨(hn e (mem_sOut.1 he).1).2, (mem_sOut.1 he).2.2⟩) h.fi h.lft
  have hil : i < s.1.length := (List.getElem?_eq_some_iff.1 hv).1
  have k3 : (sRow es left i v s).1 = s.1 ++ t := k3
  have hget : ∀ j, j < s.1.length → (sRow es left i v s).1.getD j 0 = s.1.getD j 0 := fun j hj => by
    rw [k3, List.getD_eq_getElem?_getD, List.getD_eq_getElem?_getD, List.getElem?_append_left hj]
  refine ⟨k1, k2, by rw [k3, List.length_append]; omega, fun j u hj hu e he => ?_, ?_⟩
  · rw [k3, List.getElem?_append_left (by omega)] at hu
    by_cases hji : j < i
    · rw [k3]; exact List.mem_append_left _ (h.cl j u hji hu e he)
    · have : j = i := by omega
      subst this
      rw [hv] at hu; cases hu
      exact k4 e he
  · show (sRow es left i v s).2 = _
    have k5 : (sRow es left i v s).2 = s.2 ++ (sOut es left v).map (num (sRow es left i v s).1 i) := k5
    rw [k5, h.ed, List.range_succ, List.flatMap_append]
    congr 1
    · have : ∀ j ∈ List.range i, (sOut es left (s.1.getD j 0)).map (num s.1 j) = (sOut es left ((sRow es left i v s).1.getD j 0)).map (num (sRow es left i v s).1 j) := fun j hj => by
        have hj := List.mem_range.1 hj
        rw [hget j (by omega)]
        have hjg : s.1[j]? = some (s.1.getD j 0) := by
          rw [List.getD_eq_getElem?_getD, List.getElem?_eq_getElem (by omega)]; rfl
        refine List.map_congr_left fun e he => ?_
        unfold num
        rw [k3, idx_app (h.cl j _ hj hjg e he)]
      rw [List.flatMap_def, List.flatMap_def, List.map_congr_left this]
    · have : (sRow es left i v s).1.getD i 0 = v := by rw [hget i hil, List.getD_eq_getElem?_getD, hv]; rfl
      simp only [List.flatMap_cons, List.flatMap_nil, List.append_nil, this]
theorem sQ_ok {n : Nat} {es : List Ed} {left : Nat → Bool} (hn : ∀ e ∈ es, e.1 < n ∧ e.2.2 < n) : ∀ (k i : Nat) (s : OE), SI n es left i s → n < k + i → SI n es left (sQ es left k i s).1.length (sQ es left k i s) ∧ ∃ t, (sQ es left k i s).1 = s.1 ++ t := by
  intro k
  induction k with
  | zero => intro i s h hk; have := h.fi.len; have := h.le; omega
  | succ k ih =>
    intro i s h hk
    unfold sQ
    cases hv : s.1[i]? with
    | some v =>
      obtain ⟨h1, t, h2⟩ := ih (i + 1) _ (h.step hn hv) (by omega)
      obtain ⟨_, _, ⟨t0, k3⟩, _, _⟩ := row_fold i (sOut es left v) s (fun e he => ⟨(hn e (mem_sOut.1 he).1).2, (mem_sOut.1 he).2.2⟩) h.fi h.lft
      have k3 : (sRow es left i v s).1 = s.1 ++ t0 := k3
      exact ⟨h1, t0 ++ t, by rw [h2, k3, List.append_assoc]⟩
    | none =>
      have : s.1.length = i := by have := List.getElem?_eq_none_iff.1 hv; have := h.le; omega
      dsimp only
      rw [this]; exact ⟨h, [], by simp⟩
theorem sAll_ok {a : Aut} {left : Nat → Bool} (h : WfA a) : SI a.n a.es left (sAll a left).1.length (sAll a left) ∧ ∃ t, (sAll a left).1 = (if decide (0 < a.n) && left 0 then [0] else []) ++ t := by
  refine sQ_ok h.esn (a.n + 1) 0 _ ?_ (by omega)
  refine ⟨?_, fun x hx => ?_, Nat.zero_le _, fun j v hj => by omega, by simp⟩
  · split
    · rename_i hc
      simp only [Bool.and_eq_true, decide_eq_true_eq] at hc
      exact ⟨by simp, fun x hx => by simp at hx; omega⟩
    · exact ⟨by simp, fun x hx => by cases hx⟩
  · dsimp only at hx
    split at hx
    · rename_i hc
      simp only [Bool.and_eq_true] at hc
      simp at hx; subst hx; exact hc.2
    · cases hx
theorem restr_wf {a : Aut} {left : Nat → Bool} (h : WfA a) : WfA (restr a left) := by
  obtain ⟨hs, _⟩ := sAll_ok (left := left) h
  have hmem : ∀ (j : Nat) (e : Ed), j < (sAll a left).1.length → e ∈ (sOut a.es left ((sAll a left).1.getD j 0)).map (num (sAll a left).1 j) → ∃ e' ∈ a.es, e'.1 = (sAll a left).1.getD j 0 ∧ e = (j, e'.2.1, idx (sAll a left).1 e'.2.2) ∧ e'.2.2 ∈ (sAll a left).1 := by
    intro j e hj he
    obtain ⟨e', he', rfl⟩ := List.mem_map.1 he
    have hjg : (sAll a left).1[j]? = some ((sAll a left).1.getD j 0) := by
      rw [List.getD_eq_getElem?_getD, List.getElem?_eq_getElem hj]; rfl
    exact ⟨e', (mem_sOut.1 he').1, (mem_sOut.1 he').2.1, rfl, hs.cl j _ hj hjg e' he'⟩
  refine ⟨h.al, h.al5, Nat.le_trans hs.fi.len h.n5, List.pairwise_lt_range.filter _, fun x hx => List.mem_range.1 (List.mem_filter.1 hx).1, ?_, fun e he => ?_, fun e he => ?_⟩
  · show (sAll a left).2.Pairwise _
    rw [hs.ed]
    refine pairwise_flatMap (fun j hj => ?_) (List.pairwise_lt_range.imp_of_mem fun {i j} hi hj hij x hx y hy => .inl ?_)
    · rw [List.pairwise_map]
      have : (sOut a.es left ((sAll a left).1.getD j 0)).Pairwise fun x y => x.1 < y.1 ∨ (x.1 = y.1 ∧ x.2.1 < y.2.1) := h.es.filter _
      refine this.imp_of_mem fun {x y} hx hy hxy => .inr ⟨rfl, ?_⟩
      have h1 := (mem_sOut.1 hx).2.1
      have h2 := (mem_sOut.1 hy).2.1
      show x.2.1 < y.2.1
      omega
    · obtain ⟨_, _, _, e1, _⟩ := hmem i x (List.mem_range.1 hi) hx
      obtain ⟨_, _, _, e2, _⟩ := hmem j y (List.mem_range.1 hj) hy
      rw [e1, e2]; exact hij
  · have he : e ∈ (sAll a left).2 := he
    rw [hs.ed] at he
    obtain ⟨j, hj, he⟩ := List.mem_flatMap.1 he
    obtain ⟨e', _, _, e1, e2⟩ := hmem j e (List.mem_range.1 hj) he
    rw [e1]; exact ⟨List.mem_range.1 hj, idx_lt e2⟩
  · have he : e ∈ (sAll a left).2 := he
    rw [hs.ed] at he
    obtain ⟨j, hj, he⟩ := List.mem_flatMap.1 he
    obtain ⟨e', h3, _, e1, e2⟩ := hmem j e (List.mem_range.1 hj) he
    rw [e1]; exact h.ev e' h3
theorem row_sim {o : List Nat} (ho : o.Nodup) (i : Nat) : ∀ (es2 : List Ed) (s : OE) (t : List Nat), (es2.foldl (sEd i) s).1 ++ t = o → (∃ t', s.1 ++ t' = o) →
    (es2.map (num o i)).foldl (sEd i) (List.range s.1.length, s.2) = (List.range (es2.foldl (sEd i) s).1.length, (es2.foldl (sEd i) s).2) := by
  intro es2
  induction es2 with
  | nil => intro s t _ _; rfl
  | cons e es2 ih =>
    intro s t ht hs
    rw [List.foldl_cons] at ht
    rw [List.map_cons, List.foldl_cons, List.foldl_cons]
    obtain ⟨t', hs⟩ := hs
    have hpre : ∀ (es2 : List Ed) (s : OE), ∃ u, (es2.foldl (sEd i) s).1 = s.1 ++ u := by
      intro es2
      induction es2 with
      | nil => intro s; exact ⟨[], by simp⟩
      | cons e es2 ih =>
        intro s
        rw [List.foldl_cons]
        obtain ⟨u, hu⟩ := ih (sEd i s e)
        rw [hu]
        unfold sEd
        split
        · exact ⟨u, rfl⟩
        · exact ⟨[e.2.2] ++ u, by rw [← List.append_assoc]⟩
    by_cases hc : s.1.contains e.2.2 = true
    · have e1 : sEd i s e = (s.1, s.2 ++ [(i, e.2.1, idx s.1 e.2.2)]) := if_pos hc
      have hm : e.2.2 ∈ s.1 := by simpa using hc
      have hidx : idx o e.2.2 = idx s.1 e.2.2 := by rw [← hs]; exact idx_app hm
      have e2 : sEd i (List.range s.1.length, s.2) (num o i e) = (List.range s.1.length, s.2 ++ [(i, e.2.1, idx s.1 e.2.2)]) := by
        have hlt : idx o e.2.2 < s.1.length := by rw [hidx]; exact idx_lt hm
        unfold sEd num
        rw [if_pos (by simpa using hlt)]
        have : idx (List.range s.1.length) (idx o e.2.2) = idx o e.2.2 := idx_at List.nodup_range (List.getElem?_range hlt)
        rw [hidx] at this ⊢
        simp only [this]
      rw [e1] at ht ⊢
      rw [e2]
      exact ih (s.1, _) t ht ⟨t', hs⟩
    · have e1 : sEd i s e = (s.1 ++ [e.2.2], s.2 ++ [(i, e.2.1, s.1.length)]) := if_neg hc
      have hm : e.2.2 ∉ s.1 := by simpa using hc
      rw [e1] at ht ⊢
      obtain ⟨u, hu⟩ := hpre es2 (s.1 ++ [e.2.2], s.2 ++ [(i, e.2.1, s.1.length)])
      have ho2 : o = (s.1 ++ [e.2.2]) ++ (u ++ t) := by rw [← ht, hu, List.append_assoc]
      have hidx : idx o e.2.2 = s.1.length := by rw [ho2, idx_app (by simp), idx_new hm]
      have e2 : sEd i (List.range s.1.length, s.2) (num o i e) = (List.range (s.1 ++ [e.2.2]).length, s.2 ++ [(i, e.2.1, s.1.length)]) := by
        unfold sEd num
        rw [if_neg (by rw [hidx]; simp)]
        simp only [hidx, List.length_append, List.length_singleton, List.range_succ, List.length_range]
      rw [e2]
      exact ih (s.1 ++ [e.2.2], _) t ht ⟨u ++ t, ho2.symm⟩
theorem sQ_sim {n : Nat} {es es' : List Ed} {left : Nat → Bool} {o : List Nat} (ho : o.Nodup) (hn : ∀ e ∈ es, e.1 < n ∧ e.2.2 < n) (hout : ∀ i v, o[i]? = some v → sOut es' (fun _ => true) i = (sOut es left v).map (num o i)) : ∀ (k i : Nat) (s : OE) (k' : Nat), SI n es left i s → n < k + i → n < k' + i → (sQ es left k i s).1 = o →
    sQ es' (fun _ => true) k' i (List.range s.1.length, s.2) = (List.range o.length, (sQ es left k i s).2) := by
  intro k
  induction k with
  | zero => intro i s k' h hk _ _; have := h.fi.len; have := h.le; omega
  | succ k ih =>
    intro i s k' h hk hk' hq
    cases k' with
    | zero => have := h.fi.len; have := h.le; omega
    | succ k' =>
      unfold sQ at hq ⊢
      cases hv : s.1[i]? with
      | none =>
        have hil : s.1.length ≤ i := List.getElem?_eq_none_iff.1 hv
        rw [hv] at hq
        have hq : s.1 = o := hq
        have : (List.range s.1.length)[i]? = none := List.getElem?_eq_none (by simpa using hil)
        dsimp only
        rw [this, hq]
      | some v =>
        have hil : i < s.1.length := (List.getElem?_eq_some_iff.1 hv).1
        rw [hv] at hq
        have hq : (sQ es left k (i + 1) (sRow es left i v s)).1 = o := hq
        have : (List.range s.1.length)[i]? = some i := List.getElem?_range hil
        dsimp only
        rw [this]
        dsimp only
        have hstep := h.step hn hv
        obtain ⟨_, t, h2⟩ := sQ_ok hn k (i + 1) _ hstep (by omega)
        rw [hq] at h2
        obtain ⟨_, _, ⟨t0, k3⟩, _, _⟩ := row_fold i (sOut es left v) s (fun e he => ⟨(hn e (mem_sOut.1 he).1).2, (mem_sOut.1 he).2.2⟩) h.fi h.lft
        have k3 : (sRow es left i v s).1 = s.1 ++ t0 := k3
        have hov : o[i]? = some v := by
          rw [h2, k3, List.append_assoc, List.getElem?_append_left hil]; exact hv
        have hrow : sRow es' (fun _ => true) i i (List.range s.1.length, s.2) = (List.range (sRow es left i v s).1.length, (sRow es left i v s).2) := by
          unfold sRow
          rw [hout i v hov]
          exact row_sim ho i _ s t h2.symm ⟨t0 ++ t, by rw [h2, k3, List.append_assoc]⟩
        rw [hrow]
        exact ih (i + 1) _ k' hstep (by omega) (by omega) hq
theorem sOut_restr {a : Aut} {left : Nat → Bool} (h : WfA a) {i v : Nat} (hv : (sAll a left).1[i]? = some v) : sOut (restr a left).es (fun _ => true) i = (sOut a.es left v).map (num (sAll a left).1 i) := by
  obtain ⟨hs, _⟩ := sAll_ok (left := left) h
  have hil : i < (sAll a left).1.length := (List.getElem?_eq_some_iff.1 hv).1
  show (sAll a left).2.filter _ = _
  rw [hs.ed, List.filter_flatMap]
  have h1 : ∀ j ∈ List.range (sAll a left).1.length, (((sOut a.es left ((sAll a left).1.getD j 0)).map (num (sAll a left).1 j)).filter fun e => e.1 == i && true) = if j = i then (sOut a.es left v).map (num (sAll a left).1 i) else [] := by
    intro j _
    by_cases e : j = i
    · subst e
      rw [if_pos rfl, List.getD_eq_getElem?_getD, hv]
      refine List.filter_eq_self.2 fun x hx => ?_
      obtain ⟨y, _, rfl⟩ := List.mem_map.1 hx
      simp [num]
    · rw [if_neg e]
      refine List.filter_eq_nil_iff.2 fun x hx => ?_
      obtain ⟨y, _, rfl⟩ := List.mem_map.1 hx
      simp [num, e]
  rw [List.flatMap_def, List.map_congr_left h1, ← List.flatMap_def]
  have key : ∀ (l : List Nat) (X : List Ed), l.Nodup → (l.flatMap fun j => if j = i then X else []) = if i ∈ l then X else [] := by
    intro l X
    induction l with
    | nil => intro _; rfl
    | cons j l ih =>
      intro hn
      rw [List.nodup_cons] at hn
      rw [List.flatMap_cons, ih hn.2]
      by_cases e : j = i
      · subst e; simp [hn.1]
      · have : (i ∈ j :: l) = (i ∈ l) := by rw [List.mem_cons]; exact propext ⟨fun h => h.resolve_left (fun h => e h.symm), .inr⟩
        simp only [if_neg e, List.nil_append, this]
  rw [key _ _ List.nodup_range, if_pos (List.mem_range.2 hil)]
theorem sAll_again {a : Aut} {left : Nat → Bool} (h : WfA a) : sAll (restr a left) (fun _ => true) = (List.range (restr a left).n, (restr a left).es) := by
  obtain ⟨hs, t, ht⟩ := sAll_ok (left := left) h
  have h0 : SI a.n a.es left 0 ((if decide (0 < a.n) && left 0 then [0] else [], []) : OE) := by
    refine ⟨?_, fun x hx => ?_, Nat.zero_le _, fun j v hj => by omega, by simp⟩
    · split
      · rename_i hc
        simp only [Bool.and_eq_true, decide_eq_true_eq] at hc
        exact ⟨by simp, fun x hx => by simp at hx; omega⟩
      · exact ⟨by simp, fun x hx => by cases hx⟩
    · dsimp only at hx
      split at hx
      · rename_i hc
        simp only [Bool.and_eq_true] at hc
        simp at hx; subst hx; exact hc.2
      · cases hx
  have hn : (restr a left).n ≤ a.n := hs.fi.len
  by_cases hc : (decide (0 < a.n) && left 0) = true
  · rw [if_pos hc] at h0 ht
    have e0 : sAll a left = sQ a.es left (a.n + 1) 0 ([0], []) := by unfold sAll; rw [if_pos hc]
    have hpos : 0 < (restr a left).n := by show 0 < (sAll a left).1.length; rw [ht]; simp
    have e1 : sAll (restr a left) (fun _ => true) = sQ (restr a left).es (fun _ => true) ((restr a left).n + 1) 0 (List.range ([0] : List Nat).length, []) := by
      unfold sAll; rw [if_pos (by simpa using hpos)]; rfl
    rw [e1]
    have big : ∀ (es : List Ed) (left : Nat → Bool) (k i : Nat) (s : OE) (m : Nat), SI m es left i s → (∀ e ∈ es, e.1 < m ∧ e.2.2 < m) → m < k + i → ∀ k', k ≤ k' → sQ es left k i s = sQ es left k' i s := by
      intro es left k
      induction k with
      | zero => intro i s m h _ hk; have := h.fi.len; have := h.le; omega
      | succ k ih =>
        intro i s m h hm hk k' hkk
        cases k' with
        | zero => omega
        | succ k' =>
          unfold sQ
          cases hv : s.1[i]? with
          | none => rfl
          | some v => exact ih (i + 1) _ m (h.step hm hv) hm (by omega) k' (by omega)
    have hwf := restr_wf (left := left) h
    have hb0 : SI (restr a left).n (restr a left).es (fun _ => true) 0 ((List.range ([0] : List Nat).length, []) : OE) :=
      ⟨⟨List.nodup_range, fun x hx => by have := List.mem_range.1 hx; simp at this; omega⟩, fun _ _ => rfl, Nat.zero_le _, fun j v hj => by omega, by simp⟩
    rw [big _ _ ((restr a left).n + 1) 0 _ (restr a left).n hb0 hwf.esn (by omega) (a.n + 1) (by omega)]
    have := sQ_sim (n := a.n) (es := a.es) (es' := (restr a left).es) (left := left) (o := (sAll a left).1) hs.fi.nd h.esn (fun i v hv => sOut_restr h hv) (a.n + 1) 0 ([0], []) (a.n + 1) h0 (by omega) (by omega) (by rw [e0])
    rw [this]
    show _ = (List.range (sAll a left).1.length, (sAll a left).2)
    rw [e0]
  · have e0 : sAll a left = ([], []) := by
      unfold sAll; rw [if_neg hc]; unfold sQ; rfl
    have : (restr a left).n = 0 := by show (sAll a left).1.length = 0; rw [e0]; rfl
    have e2 : (restr a left).es = [] := by show (sAll a left).2 = []; rw [e0]
    unfold sAll
    rw [this, e2, if_neg (by simp)]
    unfold sQ; rfl
theorem restr_again {a : Aut} {left : Nat → Bool} (h : WfA a) : restr (restr a left) (fun _ => true) = restr a left := by
  have h1 := sAll_again (left := left) h
  have hl : (sAll (restr a left) fun _ => true).1.length = (restr a left).n := by rw [h1]; simp
  have e : ∀ (A B : Aut), A.al = B.al → A.n = B.n → A.ms = B.ms → A.es = B.es → A = B := fun A B h1 h2 h3 h4 => by cases A; cases B; simp_all
  refine e _ _ rfl hl ?_ (by show (sAll (restr a left) fun _ => true).2 = _; rw [h1])
  show (List.range (sAll (restr a left) fun _ => true).1.length).filter _ = _
  rw [hl, h1]
  have hms : (restr a left).ms = (List.range (restr a left).n).filter fun i => a.ms.contains ((sAll a left).1.getD i 0) := rfl
  have : ∀ i ∈ List.range (restr a left).n, (restr a left).ms.contains ((List.range (restr a left).n).getD i 0) = a.ms.contains ((sAll a left).1.getD i 0) := fun i hi => by
    have hi' := List.mem_range.1 hi
    have e1 : (List.range (restr a left).n).getD i 0 = i := by rw [List.getD_eq_getElem?_getD, List.getElem?_range hi']; rfl
    rw [e1, Bool.eq_iff_iff, List.contains_iff_mem, hms, List.mem_filter]
    exact ⟨fun h => h.2, fun h => ⟨hi, h⟩⟩
  rw [List.filter_congr this, hms]
end Go.AM.SD
set_option linter.unusedSimpArgs false
set_option linter.unusedVariables false
namespace Go.AM.SD
theorem pNext_all {n : Nat} {es : List Ed} {ms : List Nat} {left : Nat → Bool} {forb unc : List Nat} {rank : Int} {all : Bool} (hin : InN n es ms) (hnd : ms.Nodup) (hs : es.Pairwise fun a b => a.1 ≤ b.1) (hr : Rgt n es ms forb unc left) : pNext n es ms left unc rank all = [] := by
  cases hp : pNext n es ms left unc rank all with
  | nil => rfl
  | cons r l =>
    have h1 := (pNext_st (left := left) (unc := unc) (rank := rank) (all := all) hin hnd hs).2 r (by rw [hp]; simp)
    have h2 := pNext_keeps (left := left) (rank := rank) (all := all) hin hnd hs hr (fun x hx => hx) r (by rw [hp]; simp)
    rw [h1.2] at h2; cases h2
theorem fin_all {n : Nat} {es : List Ed} {ms : List Nat} {forb unc : List Nat} {all : Bool} (hin : InN n es ms) (hnd : ms.Nodup) (hs : es.Pairwise fun a b => a.1 ≤ b.1) (hr : Rgt n es ms forb unc (lf (left0 n forb))) :
    fin n es ms forb unc all = (left0 n forb, forb.map rm0, if forb.length = 0 then 0 else 1) := by
  unfold fin pRounds
  rw [pNext_all hin hnd hs hr]; rfl
theorem rch_restr {a : Aut} {left : Nat → Bool} (h : WfA a) : ∀ (d v : Nat), Rch a.es a.ms left d v → ∀ i, (sAll a left).1[i]? = some v → Rch (restr a left).es (restr a left).ms (fun x => decide (x < (restr a left).n)) d i := by
  obtain ⟨hs, _⟩ := sAll_ok (left := left) h
  intro d
  induction d with
  | zero =>
    intro v hv i hi
    have hil : i < (sAll a left).1.length := (List.getElem?_eq_some_iff.1 hi).1
    refine ⟨decide_eq_true hil, List.mem_filter.2 ⟨List.mem_range.2 hil, ?_⟩⟩
    rw [List.getD_eq_getElem?_getD, hi]
    simpa using hv.2
  | succ d ih =>
    intro v hv i hi
    rcases hv with hv | ⟨hl, e, he, h1, h2⟩
    · exact .inl (ih v hv i hi)
    · have hil : i < (sAll a left).1.length := (List.getElem?_eq_some_iff.1 hi).1
      have hso : e ∈ sOut a.es left v := mem_sOut.2 ⟨he, h1, Rch.left h2⟩
      have hm : e.2.2 ∈ (sAll a left).1 := hs.cl i v hil hi e hso
      have hx : num (sAll a left).1 i e ∈ sOut (restr a left).es (fun _ => true) i := by
        rw [sOut_restr h hi]; exact List.mem_map.2 ⟨e, hso, rfl⟩
      exact .inr ⟨decide_eq_true hil, _, (mem_sOut.1 hx).1, rfl, ih e.2.2 h2 _ (idx_get hm)⟩
theorem left0_nil {n : Nat} : lf (left0 n []) = fun x => decide (x < n) := by
  funext x
  rw [Bool.eq_iff_iff, lf_left0]; simp
theorem again_rgt {a : Aut} {forb unc : List Nat} (h : WfA a) : Rgt (restr a (lf (fin a.n a.es a.ms forb unc true).1)).n (restr a (lf (fin a.n a.es a.ms forb unc true).1)).es (restr a (lf (fin a.n a.es a.ms forb unc true).1)).ms [] unc (fun x => decide (x < (restr a (lf (fin a.n a.es a.ms forb unc true).1)).n)) := by
  have hk := fin_rgt (forb := forb) (unc := unc) h.inN h.nd h.srt
  have hw := restr_wf (left := lf (fin a.n a.es a.ms forb unc true).1) h
  obtain ⟨hs, _⟩ := sAll_ok (left := lf (fin a.n a.es a.ms forb unc true).1) h
  refine ⟨fun x hx => of_decide_eq_true hx, (fun x _ hm => by cases hm), fun e he _ _ => decide_eq_true (hw.esn e he).2, fun x hx => ?_⟩
  have hx : x < (sAll a (lf (fin a.n a.es a.ms forb unc true).1)).1.length := of_decide_eq_true hx
  have hg := List.getElem?_eq_getElem hx
  obtain ⟨d, hd⟩ := hk.nb _ (hs.lft _ (List.getElem_mem hx))
  exact ⟨d, rch_restr h d _ hd x hg⟩
theorem again_fin {a : Aut} {forb unc : List Nat} (h : WfA a) : fin (restr a (lf (fin a.n a.es a.ms forb unc true).1)).n (restr a (lf (fin a.n a.es a.ms forb unc true).1)).es (restr a (lf (fin a.n a.es a.ms forb unc true).1)).ms [] unc true = (left0 (restr a (lf (fin a.n a.es a.ms forb unc true).1)).n [], [], 0) := by
  have hw := restr_wf (left := lf (fin a.n a.es a.ms forb unc true).1) h
  exact fin_all hw.inN hw.nd hw.srt (by rw [left0_nil]; exact again_rgt h)
theorem sAll_congr {a : Aut} {l1 l2 : Nat → Bool} (h : WfA a) (he : ∀ x, x < a.n → l1 x = l2 x) : sAll a l1 = sAll a l2 := by
  have h1 : ∀ v, sOut a.es l1 v = sOut a.es l2 v := fun v => by
    unfold sOut
    refine List.filter_congr fun e hm => ?_
    rw [he _ (h.esn e hm).2]
  have h2 : ∀ (k i : Nat) (s : OE), sQ a.es l1 k i s = sQ a.es l2 k i s := by
    intro k
    induction k with
    | zero => intro i s; rfl
    | succ k ih =>
      intro i s
      unfold sQ
      cases s.1[i]? with
      | none => rfl
      | some v => dsimp only; rw [ih]; unfold sRow; rw [h1]
  unfold sAll
  rw [h2]
  by_cases h0 : 0 < a.n
  · rw [he 0 h0]
  · simp [h0]
theorem again_restr {a : Aut} {left : Nat → Bool} (h : WfA a) : restr (restr a left) (lf (left0 (restr a left).n [])) = restr a left ∧ (sAll (restr a left) (lf (left0 (restr a left).n []))).1.length = (restr a left).n := by
  have hw := restr_wf (left := left) h
  have e : sAll (restr a left) (lf (left0 (restr a left).n [])) = sAll (restr a left) (fun _ => true) := sAll_congr hw fun x hx => by rw [left0_nil]; exact decide_eq_true hx
  have gen : ∀ (b : Aut) (l1 l2 : Nat → Bool), sAll b l1 = sAll b l2 → restr b l1 = restr b l2 := fun b l1 l2 h => by unfold restr; rw [h]
  have e2 : restr (restr a left) (lf (left0 (restr a left).n [])) = restr (restr a left) (fun _ => true) := gen _ _ _ e
  rw [e2, restr_again h, e, sAll_again h]
  exact ⟨rfl, by simp⟩
theorem pNext_marked {n : Nat} {es : List Ed} {ms : List Nat} {left : Nat → Bool} {unc : List Nat} {rank : Int} (hin : ∀ e ∈ es, e.1 < n ∧ e.2.2 < n) : pNext n es (List.range n) left unc rank true = pNext n es ms left unc rank false := by
  unfold pNext
  have hin' : InN n es (List.range n) := ⟨hin, fun x hx => List.mem_range.1 hx⟩
  by_cases h : 0 < (pLost es left unc).length
  · simp [h]
  · have h0 : pLost es left unc = [] := List.eq_nil_of_length_eq_zero (by omega)
    simp only [h0, List.length_nil, Nat.lt_irrefl, decide_false, Bool.not_true, Bool.or_false, Bool.false_eq_true, if_false, Bool.not_false, Bool.or_true, if_true]
    have hd : (pDist n es (List.range n) left).length = n := (bQ_dst hin' (n + 1) 0 _ (bMks_bh (left := left) hin' List.nodup_range) (by omega)).1
    unfold blkF lostF
    rw [hd]
    refine List.filterMap_eq_nil_iff.2 fun i hi => ?_
    have hi' := List.mem_range.1 hi
    rw [if_neg]
    simp only [Bool.and_eq_true, decide_eq_true_eq, not_and]
    intro hl
    have := (pDist_rch (left := left) hin' List.nodup_range hi').2 ⟨0, hl, hi⟩
    omega
theorem fin_marked {n : Nat} {es : List Ed} {ms : List Nat} {forb unc : List Nat} (hin : ∀ e ∈ es, e.1 < n ∧ e.2.2 < n) : fin n es (List.range n) forb unc true = fin n es ms forb unc false := by
  have h : ∀ (f rank : Nat) (l : LB) (rs : List Rm) (k : Nat), pRounds n es (List.range n) unc true f rank l rs k = pRounds n es ms unc false f rank l rs k := by
    intro f
    induction f with
    | zero => intro rank l rs k; rfl
    | succ f ih =>
      intro rank l rs k
      unfold pRounds
      rw [pNext_marked (ms := ms) hin]
      split
      · rfl
      · exact ih _ _ _ _
  exact h _ _ _ _ _
end Go.AM.SD
set_option linter.unusedSimpArgs false
set_option linter.unusedVariables false
namespace Go.AM.SD
def part (n bits : Nat) : List Nat := (List.range n).filter fun i => bits.testBit i
theorem mem_part {n bits x : Nat} : x ∈ part n bits ↔ x < n ∧ bits.testBit x = true := by simp [part]
theorem part_sorted (n bits : Nat) : (part n bits).Pairwise (· < ·) := List.pairwise_lt_range.filter _
def kept (n : Nat) (l : LB) : List Nat := (List.range n).filter (lf l)
theorem mem_kept {n : Nat} {l : LB} {x : Nat} : x ∈ kept n l ↔ x < n ∧ lf l x = true := by simp [kept]
end Go.AM.SD
set_option linter.unusedSimpArgs false
set_option linter.unusedVariables false
namespace Go.AM
open Go.RowKit
variable {P : Program}
def WR (P : Program) (base : Nat) : Nat → List SOper → Tmps → Heap → (Tmps → Heap → Prop) → Prop
  | _, [], T, h, K => K T h
  | i, s :: r, T, h, K => ∃ f v h1, StepV P (base + i) s T h v h1 f ∧ WR P base (i + 1) r (putD T s.dst v) h1 K
theorem WR.toF {base : Nat} : ∀ {r : List SOper} {i : Nat} {T : Tmps} {h : Heap} {K : Tmps → Heap → Prop}, WR P base i r T h K → ∃ fs T' h', RunF P base i r fs ⟨T, h⟩ ⟨T', h'⟩ ∧ K T' h'
  | [], i, T, h, K, hk => ⟨[], T, h, ⟨rfl, rfl⟩, hk⟩
  | s :: r, i, T, h, K, ⟨f, v, h1, hs, hr⟩ => by
    obtain ⟨fs, T', h', h2, hk⟩ := WR.toF hr
    exact ⟨f :: fs, T', h', ⟨f, fs, v, h1, rfl, hs, h2⟩, hk⟩
theorem W.regionR {N : Nat} {Q : SX → St → Prop} {T : Tmps} {h : Heap} {sops : List SOper} {dead : List Nat} (base : Nat)
    (hr : WR P base 0 sops T h fun T h => Q .normal ⟨rm T dead, h⟩) : W P N (.region sops [] dead) Q ⟨T, h⟩ := by
  obtain ⟨fs, T', h', h1, h2⟩ := WR.toF hr
  exact W.regionF base fs h1 (by simp) h2
section
variable {base i : Nat} {d : Option Nat} {s : SOp} {af : List Nat} {r : List SOper} {T : Tmps} {h h1 : Heap} {K : Tmps → Heap → Prop} {v : AV}
theorem WR.val (hm : (aop (base + i) T s).run h = some (.val v, h1)) (k : WR P base (i + 1) r (putD T d v) h1 K) : WR P base i (⟨d, s, af, none⟩ :: r) T h K :=
  ⟨_, v, h1, ⟨_, h1, hm, rfl, rfl, rfl⟩, k⟩
theorem WR.pure {f : Nat} {args : List AV} (hm : (aop (base + i) T s).run h = some (.call .pure f args, h1)) (hp : PSpec P f args v) (k : WR P base (i + 1) r (putD T d v) h1 K) :
    WR P base i (⟨d, s, af, none⟩ :: r) T h K :=
  ⟨_, v, h1, ⟨_, h1, hm, hp, rfl, rfl⟩, k⟩
theorem WR.heap {f : Nat} {args : List AV} {h2 : Heap} (hm : (aop (base + i) T s).run h = some (.call .heap f args, h2)) (hp : HSpec P f args h2 v h1) (k : WR P base (i + 1) r (putD T d v) h1 K) :
    WR P base i (⟨d, s, af, none⟩ :: r) T h K :=
  ⟨_, v, h1, ⟨_, h2, hm, hp, rfl⟩, k⟩
end
end Go.AM
set_option linter.unusedSimpArgs false
set_option linter.unusedVariables false
namespace Go.AM
variable {P : Program}
structure NM where
  n : Nat
  m : Nat
structure Evo2 (m : Nat) (c : Ctx) (w : World) (c' : Ctx) (w' : World) : Prop where
  os : w'.os = w.os
  tape : w'.tape = w.tape
  output : w'.output = w.output
  size : w.heap.size ≤ w'.heap.size
  shape : ∀ (cb : Nat) (C : Array Value) (e : TypeId) (fr : Nat × Nat), w.heap[cb]? = some (.cells C e fr) → ∃ (C' : Array Value) (fr' : Nat × Nat), w'.heap[cb]? = some (.cells C' e fr') ∧ C'.size = C.size
  keep : ∀ cb, cb < w.heap.size → ¬ c.O cb → w'.heap[cb]? = w.heap[cb]?
  rho : ∀ b g p, b < m → c.ρ b g = some p → c'.ρ b g = some p
  frz : ∀ cb, c.F cb → c'.F cb
  frzNew : ∀ cb, c'.F cb → c.F cb ∨ c.O cb ∨ w.heap.size ≤ cb
  own : ∀ cb, c'.O cb → c.O cb ∨ w.heap.size ≤ cb
theorem Evo.to2 {m : Nat} {c c' : Ctx} {w w' : World} (E : Evo c w c' w') : Evo2 m c w c' w' :=
  ⟨E.os, E.tape, E.output, E.size, E.shape, E.keep, fun b g p _ h => E.rho b g p h, E.frz, E.frzNew, E.own⟩
theorem Evo2.refl {m : Nat} (c : Ctx) (w : World) : Evo2 m c w c w := (Evo.refl c w).to2
theorem Evo2.trans {m : Nat} {c1 c2 c3 : Ctx} {w1 w2 w3 : World} (a : Evo2 m c1 w1 c2 w2) (b : Evo2 m c2 w2 c3 w3) : Evo2 m c1 w1 c3 w3 where
  os := b.os.trans a.os
  tape := b.tape.trans a.tape
  output := b.output.trans a.output
  size := Nat.le_trans a.size b.size
  shape := fun cb C e fr h => by
    obtain ⟨C', fr', h', e'⟩ := a.shape cb C e fr h
    obtain ⟨C'', fr'', h'', e''⟩ := b.shape cb C' e fr' h'
    exact ⟨C'', fr'', h'', e''.trans e'⟩
  keep := fun cb hlt hO => by
    rw [b.keep cb (Nat.lt_of_lt_of_le hlt a.size) (fun h => (a.own cb h).elim hO (by omega)), a.keep cb hlt hO]
  rho := fun b' g p hb h => b.rho _ _ _ hb (a.rho _ _ _ hb h)
  frz := fun cb h => b.frz _ (a.frz _ h)
  frzNew := fun cb h => by
    rcases b.frzNew cb h with h | h | h
    · exact a.frzNew cb h
    · rcases a.own cb h with h | h
      · exact .inr (.inl h)
      · exact .inr (.inr h)
    · exact .inr (.inr (Nat.le_trans a.size h))
  own := fun cb h => by
    rcases b.own cb h with h | h
    · exact a.own cb h
    · exact .inr (Nat.le_trans a.size h)
def W2 (P : Program) (N : NM) (sc : SCode) (Q : SX → St → Prop) (A : St) : Prop :=
  ∀ code, okCode P N.n code sc = true → ∀ (c : Ctx) (a : Act) (w : World), SRel N.n c A a w → ∀ (Q' : Exit → Act → World → Prop),
    (∀ e B c' a' w', Q e B → SRel N.n c' B a' w' → Evo2 N.m c w c' w' → Q' e.toExit a' w') → code.wp P Q' a w
section rules
variable {N : NM} {Q : SX → St → Prop} {A : St}
theorem W2.of_W {sc : SCode} (h : W P N.n sc Q A) : W2 P N sc Q A :=
  fun code hok c a w S R hR => h code hok c a w S R fun e B c' a' w' hQ S' E' => hR e B c' a' w' hQ S' E'.to2
theorem W2.mono {sc : SCode} {Q' : SX → St → Prop} (h : W2 P N sc Q A) (hq : ∀ e B, Q e B → Q' e B) : W2 P N sc Q' A :=
  fun code hok c a w S R hR => h code hok c a w S R fun e B c' a' w' hQ S' E' => hR e B c' a' w' (hq e B hQ) S' E'
theorem W2.congr {sc : SCode} {B : St} (h : W2 P N sc Q A) (e : SEq B A) : W2 P N sc Q B :=
  fun code hok c a w S R hR => h code hok c a w (S.congr e) R hR
theorem W2.skip (h : Q .normal A) : W2 P N .skip Q A := .of_W (.skip h)
theorem W2.ret (h : Q .ret A) : W2 P N .ret Q A := .of_W (.ret h)
theorem W2.exit {i : Nat} (h : Q (.exit i) A) : W2 P N (.exit i) Q A := .of_W (.exit h)
theorem W2.seq {x y : SCode} (h : W2 P N x (fun e B => match e with | .normal => W2 P N y Q B | e => Q e B) A) : W2 P N (.seq x y) Q A := by
  intro code hok c a w S Q' hQ
  cases code <;> simp only [okCode, Bool.false_eq_true, Bool.and_eq_true] at hok
  rename_i cx cy
  refine wp_seq (h cx hok.1 c a w S _ ?_)
  intro e B c' a' w' hq S' E'
  cases e with
  | normal => exact hq cy hok.2 c' a' w' S' Q' fun e2 B2 c2 a2 w2 h2 S2 E2 => hQ e2 B2 c2 a2 w2 h2 S2 (E'.trans E2)
  | exit i => exact hQ (.exit i) B c' a' w' hq S' E'
  | ret => exact hQ .ret B c' a' w' hq S' E'
theorem W2.cond {x : Opd} {y z : SCode} {t : Bool} (hx : ev A.T x = .bool t) (h1 : t = true → W2 P N y Q A) (h2 : t = false → W2 P N z Q A) : W2 P N (.cond x y z) Q A := by
  intro code hok c a w S Q' hQ
  cases code <;> simp only [okCode, Bool.false_eq_true, Bool.and_eq_true] at hok
  rename_i o cy cz
  have hr := okOpd_rel S.tmps hok.1.1
  rw [hx] at hr
  simp only [VRel] at hr
  refine wp_cond hr ?_
  cases t with
  | true => exact h1 rfl cy hok.1.2 c a w S Q' hQ
  | false => exact h2 rfl cz hok.2 c a w S Q' hQ
theorem W2.block {i : Nat} {b : SCode} (h : W2 P N b (fun e B => match e with | .exit j => if j = i then Q .normal B else Q (.exit j) B | e => Q e B) A) : W2 P N (.block i b) Q A := by
  intro code hok c a w S Q' hQ
  cases code <;> simp only [okCode, Bool.false_eq_true, Bool.and_eq_true, beq_iff_eq] at hok
  rename_i j cb
  obtain ⟨rfl, hok⟩ := hok
  refine wp_block (h cb hok c a w S _ ?_)
  intro e B c' a' w' hq S' E'
  cases e with
  | normal => exact hQ .normal B c' a' w' hq S' E'
  | ret => exact hQ .ret B c' a' w' hq S' E'
  | exit k =>
    simp only at hq
    show (if k = j then Q' .normal a' w' else Q' (.exit k) a' w')
    split
    · rename_i e; rw [if_pos e] at hq; exact hQ .normal B c' a' w' hq S' E'
    · rename_i e; rw [if_neg e] at hq; exact hQ (.exit k) B c' a' w' hq S' E'
def WL2 (P : Program) (N : NM) (b : SCode) (Q : SX → St → Prop) (A : St) : Prop :=
  ∀ cb, okCode P N.n cb b = true → ∀ (c : Ctx) (a : Act) (w : World), SRel N.n c A a w → ∀ (Q' : Exit → Act → World → Prop),
    (∀ e B c' a' w', Q e B → SRel N.n c' B a' w' → Evo2 N.m c w c' w' → Q' e.toExit a' w') → ∀ bf k cs,
      ∃ e a' w', Q' e a' w' ∧ Arrives P (lone (bf.at a (.code cb :: .inLoop cb :: k)) cs w) bf k cs e a' w'
theorem WL2.loop {b : SCode} (h : WL2 P N b Q A) : W2 P N (.loop b) Q A := by
  intro code hok c a w S Q' hQ
  cases code <;> simp only [okCode, Bool.false_eq_true] at hok
  intro bf k cs
  obtain ⟨e, a', w', hq, harr⟩ := h _ hok c a w S Q' hQ bf k cs
  exact ⟨e, a', w', hq, .of_steps (.one step_loop) harr⟩
theorem WL2.round {b : SCode} (h : W2 P N b (fun e B => match e with | .normal => WL2 P N b Q B | e => Q e B) A) : WL2 P N b Q A := by
  intro cb hok c a w S Q' hQ bf k cs
  obtain ⟨e, a', w', hq, harr⟩ := h cb hok c a w S (fun e a' w' => match e with
    | .normal => ∃ e2 a2 w2, Q' e2 a2 w2 ∧ Arrives P (lone (bf.at a' (.code cb :: .inLoop cb :: k)) cs w') bf k cs e2 a2 w2
    | e => Q' e a' w') (by
      intro e B c2 a2 w2 hq S2 E2
      cases e with
      | normal => exact hq cb hok c2 a2 w2 S2 Q' (fun e3 B3 c3 a3 w3 h3 S3 E3 => hQ e3 B3 c3 a3 w3 h3 S3 (E2.trans E3)) bf k cs
      | ret => exact hQ .ret B c2 a2 w2 hq S2 E2
      | exit i => exact hQ (.exit i) B c2 a2 w2 hq S2 E2) bf (.inLoop cb :: k) cs
  cases e with
  | normal =>
    obtain ⟨e3, a3, w3, hq3, harr3⟩ := hq
    exact ⟨e3, a3, w3, hq3, .of_steps (Steps.trans harr (.one step_inLoop)) harr3⟩
  | exit i => exact ⟨_, a', w', hq, .pass (x := .inLoop cb) rfl (fun _ _ => .inl (by simp)) harr⟩
  | goto l => exact ⟨_, a', w', hq, .pass (x := .inLoop cb) rfl (fun _ _ => .inl (by simp)) harr⟩
  | ret => exact ⟨_, a', w', hq, .pass (x := .inLoop cb) rfl (fun _ _ => .inl (by simp)) harr⟩
  | panic ch => exact ⟨_, a', w', hq, .pass (x := .inLoop cb) rfl (fun _ _ => .inl (by simp)) harr⟩
  | outgrown => exact ⟨_, a', w', hq, .pass (x := .inLoop cb) rfl (fun _ _ => .inl (by simp)) harr⟩
theorem W2.loop {b : SCode} (I : Nat → St → Prop) (n : Nat) (h0 : I n A)
    (round : ∀ n B, I n B → W2 P N b (fun e C => match e with | .normal => ∃ m, m < n ∧ I m C | e => Q e C) B) : W2 P N (.loop b) Q A := by
  refine WL2.loop ?_
  have key : ∀ n B, I n B → WL2 P N b Q B := by
    intro n
    induction n using Nat.strongRecOn with
    | _ n ih =>
      intro B hI
      refine WL2.round ((round n B hI).mono ?_)
      intro e C hq
      cases e with
      | normal => obtain ⟨m, hm, hIm⟩ := hq; exact ih m hm C hIm
      | exit i => exact hq
      | ret => exact hq
  exact key n A h0
end rules
inductive Src where
  | nil
  | blk (b g : Nat)
def Mapped (m : Nat) (π : Nat → Option Src) (h : Heap) (c : Ctx) (k : Nat) : Prop :=
  (∃ b g base, b < m ∧ Live h b g ∧ c.ρ b g = some (.loc k base)) ∨ ∃ b' b g base, m ≤ b' ∧ π b' = some (.blk b g) ∧ c.ρ b g = some (.loc k base)
def nctx (m : Nat) (π : Nat → Option Src) (h : Heap) (c : Ctx) : Ctx where
  ρ := fun b' g' => if b' < m then c.ρ b' g' else if g' = 0 then (match π b' with | some .nil => some .nil | some (.blk b g) => c.ρ b g | none => none) else none
  F := fun k => c.F k ∨ (c.O k ∧ ¬ Mapped m π h c k)
  O := fun k => c.O k ∧ Mapped m π h c k
structure Maps (m : Nat) (π : Nat → Option Src) (h : Heap) : Prop where
  live : ∀ b' b g, m ≤ b' → π b' = some (.blk b g) → Live h b g ∧ m ≤ b
  inj : ∀ b1 b2 b g g2, m ≤ b1 → m ≤ b2 → π b1 = some (.blk b g) → π b2 = some (.blk b g2) → b1 = b2
def Rn (m : Nat) (π : Nat → Option Src) (h : Heap) (x y : AV) : Prop := ∀ (c : Ctx) (w : World) (v : Value), HRel c h w → Maps m π h → VRel c w y v → VRel (nctx m π h c) w x v
def RnL (m : Nat) (π : Nat → Option Src) (h : Heap) : List AV → List AV → Prop
  | [], [] => True
  | x :: xs, y :: ys => Rn m π h x y ∧ RnL m π h xs ys
  | _, _ => False
def RnM (m : Nat) (π : Nat → Option Src) (h : Heap) : List (AV × AV) → List (AV × AV) → Prop
  | [], [] => True
  | x :: xs, y :: ys => (Rn m π h x.1 y.1 ∧ Rn m π h x.2 y.2) ∧ RnM m π h xs ys
  | _, _ => False
section
variable {m : Nat} {π : Nat → Option Src} {h : Heap}
theorem nctx_base {c : Ctx} {b g : Nat} (hm : b < m) : (nctx m π h c).ρ b g = c.ρ b g := if_pos hm
theorem nctx_blk {c : Ctx} {b' b g : Nat} (hm : m ≤ b') (hp : π b' = some (.blk b g)) : (nctx m π h c).ρ b' 0 = c.ρ b g := by
  show (if b' < m then c.ρ b' 0 else if 0 = 0 then (match π b' with | some .nil => some .nil | some (.blk b g) => c.ρ b g | none => none) else none) = _
  rw [if_neg (by omega), if_pos rfl, hp]
theorem nctx_nil {c : Ctx} {b' : Nat} (hm : m ≤ b') (hp : π b' = some .nil) : (nctx m π h c).ρ b' 0 = some .nil := by
  show (if b' < m then c.ρ b' 0 else if 0 = 0 then (match π b' with | some .nil => some .nil | some (.blk b g) => c.ρ b g | none => none) else none) = _
  rw [if_neg (by omega), if_pos rfl, hp]
theorem nctx_none {c : Ctx} {b' g : Nat} (hm : m ≤ b') (hp : π b' = none) : (nctx m π h c).ρ b' g = none := by
  show (if b' < m then c.ρ b' g else if g = 0 then (match π b' with | some .nil => some .nil | some (.blk b g) => c.ρ b g | none => none) else none) = _
  rw [if_neg (by omega), hp]; simp
theorem nctx_later {c : Ctx} {b' g : Nat} (hm : m ≤ b') (hg : g ≠ 0) : (nctx m π h c).ρ b' g = none := by
  show (if b' < m then c.ρ b' g else if g = 0 then (match π b' with | some .nil => some .nil | some (.blk b g) => c.ρ b g | none => none) else none) = _
  rw [if_neg (by omega), if_neg hg]
theorem Rn.any {y : AV} : Rn m π h .any y := fun c w v _ _ _ => by simp [VRel]
theorem Rn.same {x : AV} (hn : noRef x = true) : Rn m π h x x := fun c w v _ _ hv => VRel.noRef (c := c) (c' := nctx m π h c) (fun _ hk => .inl hk) _ _ hn hv
theorem Rn.ptr {b' b g off : Nat} (hm : m ≤ b') (hp : π b' = some (.blk b g)) : Rn m π h (.ptr b' 0 off) (.ptr b g off) := fun c w v _ _ hv => by
  simp only [VRel] at hv ⊢
  obtain ⟨cb, base, h1, h2⟩ := hv
  exact ⟨cb, base, (nctx_blk hm hp).trans h1, h2⟩
theorem Rn.map {b' b g : Nat} (hm : m ≤ b') (hp : π b' = some (.blk b g)) : Rn m π h (.map b' 0) (.map b g) := fun c w v _ _ hv => by
  simp only [VRel] at hv ⊢
  obtain ⟨cb, h1, h2⟩ := hv
  exact ⟨cb, (nctx_blk hm hp).trans h1, h2⟩
theorem Rn.sl {b' b g off len sz : Nat} (hm : m ≤ b') (hp : π b' = some (.blk b g)) : Rn m π h (.sl b' 0 off len sz) (.sl b g off len sz) := fun c w v _ _ hv => by
  have e : (nctx m π h c).ρ b' 0 = c.ρ b g := nctx_blk hm hp
  simp only [VRel] at hv ⊢
  rw [e]
  exact hv
theorem Rn.slnil {b' sz : Nat} (hm : m ≤ b') (hp : π b' = some .nil) : Rn m π h (.sl b' 0 0 0 sz) .nilsl := fun c w v _ _ hv => by
  simp only [VRel] at hv ⊢
  exact .inl ⟨nctx_nil hm hp, by simp, by simp, hv⟩
theorem Rn.ptrB {b g off : Nat} (hm : b < m) : Rn m π h (.ptr b g off) (.ptr b g off) := fun c w v _ _ hv => by
  have e : (nctx m π h c).ρ b g = c.ρ b g := nctx_base hm
  simp only [VRel] at hv ⊢
  rw [e]; exact hv
theorem Rn.mapB {b g : Nat} (hm : b < m) : Rn m π h (.map b g) (.map b g) := fun c w v _ _ hv => by
  have e : (nctx m π h c).ρ b g = c.ρ b g := nctx_base hm
  simp only [VRel] at hv ⊢
  rw [e]; exact hv
theorem Rn.slB {b g off len sz : Nat} (hm : b < m) : Rn m π h (.sl b g off len sz) (.sl b g off len sz) := fun c w v _ _ hv => by
  have e : (nctx m π h c).ρ b g = c.ρ b g := nctx_base hm
  simp only [VRel] at hv ⊢
  rw [e]; exact hv
theorem RnL.same : ∀ {xs : List AV}, noRefs xs = true → RnL m π h xs xs
  | [], _ => trivial
  | x :: xs, hn => by
    simp only [noRefs, Bool.and_eq_true] at hn
    exact ⟨Rn.same hn.1, RnL.same hn.2⟩
theorem RnL.eq {xs ys : List AV} (e : xs = ys) (hn : noRefs xs = true) : RnL m π h xs ys := e ▸ RnL.same hn
theorem RnL.length : ∀ {xs ys : List AV}, RnL m π h xs ys → xs.length = ys.length
  | [], [], _ => rfl
  | [], _ :: _, hh => hh.elim
  | _ :: _, [], hh => hh.elim
  | x :: xs, y :: ys, hh => by simp [RnL.length hh.2]
theorem RnL.append : ∀ {xs ys us vs : List AV}, RnL m π h xs ys → RnL m π h us vs → RnL m π h (xs ++ us) (ys ++ vs)
  | [], [], _, _, _, h2 => h2
  | [], _ :: _, _, _, hh, _ => hh.elim
  | _ :: _, [], _, _, hh, _ => hh.elim
  | x :: xs, y :: ys, _, _, hh, h2 => ⟨hh.1, RnL.append hh.2 h2⟩
theorem RnL.one {x y : AV} (hh : Rn m π h x y) : RnL m π h [x] [y] := ⟨hh, trivial⟩
theorem RnL.pre {c : Ctx} {w : World} (H : HRel c h w) (M : Maps m π h) : ∀ {xs ys : List AV} {vs : List Value}, RnL m π h xs ys → VPre c w ys vs → VPre (nctx m π h c) w xs vs
  | [], [], _, _, _ => by simp [VPre]
  | [], _ :: _, _, hh, _ => hh.elim
  | _ :: _, [], _, hh, _ => hh.elim
  | x :: xs, y :: ys, vs, hh, hv => by
    simp only [VPre] at hv ⊢
    obtain ⟨v, vs', rfl, g1, g2⟩ := hv
    exact ⟨v, vs', rfl, hh.1 c w v H M g1, RnL.pre H M hh.2 g2⟩
theorem RnL.rels {c : Ctx} {w : World} (H : HRel c h w) (M : Maps m π h) : ∀ {xs ys : List AV} {vs : List Value}, RnL m π h xs ys → VRels c w ys vs → VRels (nctx m π h c) w xs vs
  | [], [], _, _, hv => by simpa [VRels] using hv
  | [], _ :: _, _, hh, _ => hh.elim
  | _ :: _, [], _, hh, _ => hh.elim
  | x :: xs, y :: ys, vs, hh, hv => by
    simp only [VRels] at hv ⊢
    obtain ⟨v, vs', rfl, g1, g2⟩ := hv
    exact ⟨v, vs', rfl, hh.1 c w v H M g1, RnL.rels H M hh.2 g2⟩
theorem Rn.agg {xs ys : List AV} (hL : RnL m π h xs ys) : Rn m π h (.agg xs) (.agg ys) := fun c w v H M hv => by
  simp only [VRel] at hv ⊢
  obtain ⟨vs, rfl, hv⟩ := hv
  exact ⟨vs, rfl, hL.rels H M hv⟩
theorem Rn.tup {xs ys : List AV} (hL : RnL m π h xs ys) : Rn m π h (.tup xs) (.tup ys) := fun c w v H M hv => by
  simp only [VRel] at hv ⊢
  obtain ⟨vs, rfl, hv⟩ := hv
  exact ⟨vs, rfl, hL.rels H M hv⟩
theorem Rn.fn {f : Nat} {xs ys us vs : List AV} (hL : RnL m π h xs ys) (hK : RnL m π h us vs) : Rn m π h (.fn f xs us) (.fn f ys vs) := fun c w v H M hv => by
  simp only [VRel] at hv ⊢
  obtain ⟨x', y', rfl, h1, h2⟩ := hv
  exact ⟨x', y', rfl, hL.rels H M h1, hK.rels H M h2⟩
theorem Rn.ifc {t : Nat} {x y : AV} (hh : Rn m π h x y) : Rn m π h (.ifc t x) (.ifc t y) := fun c w v H M hv => by
  simp only [VRel] at hv ⊢
  obtain ⟨x', rfl, h1⟩ := hv
  exact ⟨x', rfl, hh c w _ H M h1⟩
theorem Maps.out {c : Ctx} {w : World} (H : HRel c h w) (M : Maps m π h) {b g cb base : Nat} (hl : Live h b g) (hp : c.ρ b g = some (.loc cb base)) (hm : m ≤ b) (hn : ∀ b' g', m ≤ b' → π b' ≠ some (.blk b g')) : ¬ Mapped m π h c cb := by
  rintro (⟨b1, g1, base1, h1, hl1, h2⟩ | ⟨b', b1, g1, base1, h0, h1, h2⟩)
  · have := H.inj _ _ _ _ _ _ _ hl hl1 hp h2
    omega
  · obtain ⟨l1, l2⟩ := M.live _ _ _ h0 h1
    have := H.inj _ _ _ _ _ _ _ hl l1 hp h2
    subst this
    exact hn _ _ h0 h1
theorem Rn.frz {b g off len sz : Nat} {cs ds : List AV} (hb : h.get b = some (.cells g ds)) (hm : m ≤ b) (hn : ∀ b' g', m ≤ b' → π b' ≠ some (.blk b g')) (hl : off + len * sz ≤ ds.length)
    (hL : RnL m π h cs ((ds.drop off).take (len * sz))) : Rn m π h (.fsl cs len sz) (.sl b g off len sz) := fun c w v H M hv => by
  have hlen := hL.length
  simp only [VRel] at hv
  rcases hv with ⟨hp, rfl, rfl, rfl⟩ | ⟨cb, base, o, cap, C, e, fr, hp, rfl, hlc, hC, hcap⟩
  · have hys : cs = [] := by
      apply List.eq_nil_of_length_eq_zero
      rw [hlen]; simp
    subst hys
    simp only [VRel]; exact .inl (by simp)
  · obtain ⟨C', e', fr', hO, hC', hfr, hbs, hpre⟩ := H.here hb hp
    have hout := M.out H ⟨_, hb, rfl, fun k => by simp⟩ hp hm hn
    rw [hC] at hC'; cases hC'
    by_cases h0 : cap = 0
    · have hl0 : len = 0 := by omega
      subst hl0
      have hys : cs = [] := by
        apply List.eq_nil_of_length_eq_zero
        rw [hlen]; simp
      subst hys
      simp only [VRel]
      exact .inr ⟨cb, o, cap, C, e, fr, rfl, hlc, by simp, .inr ⟨hO, hout⟩, hC, by simp [VPre]⟩
    · obtain ⟨rfl, hbd⟩ := hcap.resolve_left h0
      have hp2 := VPre_take (len * sz) (VPre_drop off hpre)
      rw [List.drop_drop] at hp2
      simp only [VRel]
      exact .inr ⟨cb, base + off, cap, C, e, fr, rfl, hlc, by rw [hlen]; simp; omega, .inr ⟨hO, hout⟩, hC, hL.pre H M hp2⟩
def BRn (m : Nat) (π : Nat → Option Src) (h : Heap) : Option Src → Blk → Prop
  | some .nil, .cells _ cs => cs = []
  | some (.blk b g), .cells _ cs => ∃ ds k, h.get b = some (.cells g ds) ∧ RnL m π h cs (ds.take k)
  | some (.blk b g), .map _ es => ∃ fs, h.get b = some (.map g fs) ∧ RnM m π h es fs
  | some (.blk b g), .dead _ => h.get b = some (.dead g)
  | _, _ => False
def RH (m : Nat) (π : Nat → Option Src) (h h' : Heap) : Prop := ∀ b' x', h'.get b' = some x' → (b' < m ∧ BRn m π h (some (.blk b' x'.gen)) x') ∨ (m ≤ b' ∧ x'.gen = 0 ∧ (∀ g, x' ≠ .dead g) ∧ BRn m π h (π b') x')
def RD (m : Nat) (π : Nat → Option Src) (h h' : Heap) : Prop := ∀ b', h'.get b' = none → (b' < m → h.get b' = none) ∧ (m ≤ b' → π b' = none)
def RT (m : Nat) (π : Nat → Option Src) (h : Heap) (T' T : Tmps) : Prop := ∀ i, Rn m π h (lk T' i) (lk T i)
theorem RnM.rel {c : Ctx} {w : World} (H : HRel c h w) (M : Maps m π h) : ∀ {xs ys : List (AV × AV)} {es : List MapEntry} {k : Nat}, RnM m π h xs ys → MRel c w ys es k → MRel (nctx m π h c) w xs es k
  | [], [], _, _, _, hv => by simpa [MRel] using hv
  | [], _ :: _, _, _, hh, _ => hh.elim
  | _ :: _, [], _, _, hh, _ => hh.elim
  | (k1, x1) :: xs, (k2, x2) :: ys, es, k, hh, hv => by
    simp only [MRel] at hv ⊢
    obtain ⟨e, es', rfl, h2, h3, h4, h5, h6⟩ := hv
    have hl : xs.length = ys.length := by
      have : ∀ {xs ys : List (AV × AV)}, RnM m π h xs ys → xs.length = ys.length := by
        intro xs
        induction xs with
        | nil => intro ys hh; cases ys with | nil => rfl | cons => exact hh.elim
        | cons x xs ih => intro ys hh; cases ys with | nil => exact hh.elim | cons y ys => simp [ih hh.2]
      exact this hh.2
    exact ⟨e, es', rfl, hh.1.1 c w _ H M h2, hh.1.2 c w _ H M h3, h4, by rw [hl]; exact h5, RnM.rel H M hh.2 h6⟩
theorem RnM.length : ∀ {xs ys : List (AV × AV)}, RnM m π h xs ys → xs.length = ys.length
  | [], [], _ => rfl
  | [], _ :: _, hh => hh.elim
  | _ :: _, [], hh => hh.elim
  | x :: xs, y :: ys, hh => by simp [RnM.length hh.2]
theorem RH.hrel {h' : Heap} {c : Ctx} {w : World} (hb : RH m π h h') (hd : RD m π h h') (M : Maps m π h) (H : HRel c h w) : HRel (nctx m π h c) h' w := by
  have base : ∀ b' x', b' < m → BRn m π h (some (.blk b' x'.gen)) x' → ∃ x, h.get b' = some x ∧ x.gen = x'.gen ∧ ((∀ k, x' ≠ .dead k) → ∀ k, x ≠ .dead k) := by
    intro b' x' _ hx
    cases x' with
    | cells g cs => obtain ⟨ds, _, h1, _⟩ := hx; exact ⟨_, h1, rfl, fun _ k => by simp⟩
    | map g es => obtain ⟨ds, h1, _⟩ := hx; exact ⟨_, h1, rfl, fun _ k => by simp⟩
    | dead g => exact ⟨_, hx, rfl, fun hh => absurd rfl (hh g)⟩
  refine ⟨?_, ?_, ?_, ?_, ?_, ?_, ?_⟩
  · intro b' hg g
    obtain ⟨d1, d2⟩ := hd b' hg
    rcases Nat.lt_or_ge b' m with hlt | hlt
    · rw [nctx_base hlt]; exact H.fresh b' (d1 hlt) g
    · exact nctx_none hlt (d2 hlt)
  · intro b' x' hg g hlt
    rcases hb b' x' hg with ⟨hm, hx⟩ | ⟨hm, h0, _, hx⟩
    · obtain ⟨x, h1, h2, _⟩ := base b' x' hm hx
      rw [nctx_base hm]
      exact H.later b' x h1 g (by omega)
    · exact nctx_later hm (by omega)
  · intro b' x' hg
    have own : ∀ (b g : Nat), (b < m ∧ Live h b g) ∨ (m ≤ b' ∧ π b' = some (.blk b g)) → ∀ cb base, c.ρ b g = some (.loc cb base) → c.O cb → (nctx m π h c).O cb := by
      intro b g hs cb base hp hO
      refine ⟨hO, ?_⟩
      rcases hs with ⟨h1, h2⟩ | ⟨h1, h2⟩
      · exact .inl ⟨b, g, base, h1, h2, hp⟩
      · exact .inr ⟨b', b, g, base, h1, h2, hp⟩
    have main : ∀ (b g : Nat), ((b < m ∧ Live h b g) ∨ (m ≤ b' ∧ π b' = some (.blk b g))) ∨ (∃ k, x' = .dead k) → (nctx m π h c).ρ b' x'.gen = c.ρ b g → BRn m π h (some (.blk b g)) x' → BRel (nctx m π h c) w b' x' := by
      intro b g hs hr hx
      cases x' with
      | dead k => trivial
      | cells g' cs =>
        have hs := hs.resolve_right (by simp)
        obtain ⟨ds, kk, h1, h2⟩ := hx
        change (nctx m π h c).ρ b' g' = _ at hr
        rcases H.blk b _ h1 with ⟨k1, rfl⟩ | ⟨cb, bs, C, e, fr, k1, k2, k3, k4, k5, k6⟩
        · left
          refine ⟨hr.trans k1, ?_⟩
          rw [List.take_nil] at h2
          cases cs with
          | nil => rfl
          | cons => exact h2.elim
        · right
          exact ⟨cb, bs, C, e, fr, hr.trans k1, own b g hs cb bs k1 k2, k3, k4, k5, h2.pre H M (VPre_take kk k6)⟩
      | map g' es =>
        have hs := hs.resolve_right (by simp)
        obtain ⟨fs, h1, h2⟩ := hx
        change (nctx m π h c).ρ b' g' = _ at hr
        obtain ⟨cb, es', clock, k1, k2, k3, k4⟩ := H.blk b _ h1
        exact ⟨cb, es', clock, hr.trans k1, own b g hs cb 0 k1 k2, k3, h2.rel H M k4.1, by rw [h2.length]; exact k4.2⟩
    rcases hb b' x' hg with ⟨hm, hx⟩ | ⟨hm, h0, hnd, hx⟩
    · obtain ⟨x, h1, h2, h3⟩ := base b' x' hm hx
      refine main b' x'.gen ?_ (nctx_base hm) hx
      by_cases hdead : ∃ k, x' = .dead k
      · exact .inr hdead
      · exact .inl (.inl ⟨hm, x, h1, h2, h3 fun k e => hdead ⟨k, e⟩⟩)
    · rcases hp : π b' with _ | _ | ⟨b, g⟩
      · rw [hp] at hx; exact hx.elim
      · rw [hp] at hx
        cases x' with
        | dead k => trivial
        | map g' es => exact hx.elim
        | cells g' cs =>
          have hx : cs = [] := hx
          have h0 : g' = 0 := h0
          subst h0
          left
          exact ⟨nctx_nil hm hp, hx⟩
      · rw [hp] at hx
        refine main b g (.inl (.inr ⟨hm, hp⟩)) ?_ hx
        rw [h0]; exact nctx_blk hm hp
  · intro b1 g1 b2 g2 cb base1 base2 l1 l2 p1 p2
    have key : ∀ b1 g1 base1, Live h' b1 g1 → (nctx m π h c).ρ b1 g1 = some (.loc cb base1) → (b1 < m ∧ Live h b1 g1 ∧ c.ρ b1 g1 = some (.loc cb base1)) ∨ (m ≤ b1 ∧ ∃ b g, π b1 = some (.blk b g) ∧ c.ρ b g = some (.loc cb base1)) := by
      rintro b1 g1 base1 ⟨x1, hx1, rfl, hd1⟩ p1
      rcases hb b1 x1 hx1 with ⟨hm, hx⟩ | ⟨hm, h0, hnd, hx⟩
      · rw [nctx_base hm] at p1
        obtain ⟨x, k1, k2, k3⟩ := base b1 x1 hm hx
        exact .inl ⟨hm, ⟨x, k1, k2, k3 hd1⟩, p1⟩
      · rw [h0] at p1
        rcases hp : π b1 with _ | _ | ⟨b, g⟩
        · rw [nctx_none hm hp] at p1; cases p1
        · rw [nctx_nil hm hp] at p1; cases p1
        · rw [nctx_blk hm hp] at p1; exact .inr ⟨hm, b, g, rfl, p1⟩
    rcases key b1 g1 base1 l1 p1 with ⟨k1, k2, k3⟩ | ⟨k1, b, g, k2, k3⟩ <;> rcases key b2 g2 base2 l2 p2 with ⟨j1, j2, j3⟩ | ⟨j1, b', g', j2, j3⟩
    · exact H.inj _ _ _ _ _ _ _ k2 j2 k3 j3
    · obtain ⟨q1, q2⟩ := M.live _ _ _ j1 j2
      have := H.inj _ _ _ _ _ _ _ k2 q1 k3 j3
      omega
    · obtain ⟨q1, q2⟩ := M.live _ _ _ k1 k2
      have := H.inj _ _ _ _ _ _ _ q1 j2 k3 j3
      omega
    · obtain ⟨q1, q2⟩ := M.live _ _ _ j1 j2
      obtain ⟨r1, r2⟩ := M.live _ _ _ k1 k2
      have := H.inj _ _ _ _ _ _ _ r1 q1 k3 j3
      subst this
      exact M.inj _ _ _ _ _ k1 j1 k2 j2
  · intro k hF hO
    rcases hF with hF | hF
    · exact H.disj k hF hO.1
    · exact hF.2 hO.2
  · intro k hF
    rcases hF with hF | hF
    · exact H.inF k hF
    · exact H.inO k hF.1
  · intro k hO; exact H.inO k hO.1
theorem nctx_evo (c : Ctx) (w : World) : Evo2 m c w (nctx m π h c) w :=
  ⟨rfl, rfl, rfl, Nat.le_refl _, fun _ C _ fr hh => ⟨C, fr, hh, rfl⟩, fun _ _ _ => rfl, fun b g p hb hp => (nctx_base hb).trans hp, fun _ hk => .inl hk,
    fun k hk => hk.elim .inl fun hk => .inr (.inl hk.1), fun k hk => .inl hk.1⟩
theorem W2.recast {N : NM} {sc : SCode} {Q : SX → St → Prop} {T T' : Tmps} {h' : Heap} (M : Maps N.m π h) (hb : RH N.m π h h') (hd : RD N.m π h h') (ht : RT N.m π h T' T) (hw : W2 P N sc Q ⟨T', h'⟩) : W2 P N sc Q ⟨T, h⟩ := by
  intro code hok c a w S Q' hQ
  refine hw code hok (nctx N.m π h c) a w ⟨hb.hrel hd M S.heap, fun i => ht i c w _ S.heap M (S.tmps i), S.size, S.defers⟩ Q' ?_
  intro e B c' a' w' hq S' E'
  exact hQ e B c' a' w' hq S' ((nctx_evo c w).trans E')
end
theorem call_of_W2 {f m : Nat} {sf : SFn} {args : List AV} {h : Heap} {R : List AV → Heap → Prop} (hok : okFn P f sf = true) (hl : args.length ≤ sf.n)
    (hw : W2 P ⟨sf.n, m⟩ sf.body (fun e B => (e = .normal ∨ e = .ret) ∧ ∃ vs, resV B.T B.h sf.res = some vs ∧ R vs B.h) ⟨argT 0 args, h⟩)
    {c : Ctx} {w : World} {cargs : Array Value} (H : HRel c h w) (ha : VRels c w args cargs.toList) :
    Calls P f cargs w fun e w' => ∃ cv c' vs h', e = .returned cv ∧ Evo2 m c w c' w' ∧ HRel c' h' w' ∧ VRel c' w' (resOf vs) cv ∧ R vs h' := by
  obtain ⟨fn, code, hf, hb, hc, hn, hr, _⟩ := okFn_spec hok
  have hlen := VRels_length ha
  have hlen : args.length = cargs.size := by simpa using hlen
  refine calls_of_wp hf hb ?_
  refine hw code hc c _ w ⟨H, ?_, ?_, rfl⟩ _ ?_
  · intro i
    by_cases hi : i < args.length
    · have := argT_rel args cargs.toList 0 [] i ha rfl
      simp only [List.nil_append] at this
      have e : (cargs ++ Array.replicate (fn.ntmps - cargs.size) undef).getD i undef = cargs.toList.getD i undef := by
        rw [Array.getD_eq_getD_getElem?, Array.getElem?_append_left (by omega)]
        simp [List.getD_eq_getElem?_getD]
      rw [e]; exact this
    · rw [argT_any args 0 i (by omega)]; simp [VRel]
  · simp; omega
  · intro e B c' a' w' hq S' E'
    obtain ⟨he, vs, hvs, hR⟩ := hq
    obtain ⟨cv, k1, k2⟩ := results_sound S'.heap S'.tmps hr hvs
    rcases he with rfl | rfl
    · exact ⟨S'.defers, cv, k1, cv, c', vs, B.h, rfl, E', S'.heap, k2, hR⟩
    · exact ⟨S'.defers, cv, k1, cv, c', vs, B.h, rfl, E', S'.heap, k2, hR⟩
abbrev π0 : Nat → Option Src := fun _ => none
theorem maps0 {h : Heap} : Maps 0 π0 h := ⟨fun b' b g _ hh => by simp [π0] at hh, fun b1 b2 b g g2 _ _ hh _ => by simp [π0] at hh⟩
theorem Rn.of_frz {h : Heap} {x y : AV} (hv : noRef x = true) (hf : ∀ (c : Ctx) (w : World) (v : Value), HRel c h w → VRel c w y v → VRel (lent c) w x v) : Rn 0 π0 h x y := fun c w v H M hy =>
  VRel.noRef (c := lent c) (c' := nctx 0 π0 h c) (fun k hk => hk.elim .inl fun hO => .inr ⟨hO, by
    rintro (⟨b, g, base, h1, _⟩ | ⟨b', b, g, base, _, h1, _⟩)
    · omega
    · simp [π0] at h1⟩) _ _ hv (hf c w v H hy)
theorem PSpec.of_W2 {f : Nat} {sf : SFn} {args : List AV} {v : AV} (hok : okFn P f sf = true) (hl : args.length ≤ sf.n) (ha : noRefs args = true) (hv : noRef v = true)
    (hw : W2 P ⟨sf.n, 0⟩ sf.body (fun e B => (e = .normal ∨ e = .ret) ∧ ∃ vs, resV B.T B.h sf.res = some vs ∧ Rn 0 π0 B.h v (resOf vs)) ⟨argT 0 args, .e⟩) : PSpec P f args v := by
  obtain ⟨_, _, _, _, _, _, _, hc⟩ := okFn_spec hok
  refine ⟨ha, hv, .e, hc, fun c w cargs H ha => (call_of_W2 (R := fun vs k => Rn 0 π0 k v (resOf vs)) hok hl hw H ha).mono ?_⟩
  rintro e w' ⟨cv, c', vs, k, rfl, E, H', V, hk⟩
  have V' := hk c' w' cv H' maps0 V
  have hF : ∀ b, c'.F b ∨ c'.O b → b < w'.heap.size := fun b hb => hb.elim (H'.inF b) (H'.inO b)
  refine ⟨cv, only fun b => c'.F b ∨ c'.O b, rfl, ?_, HRel.only hF, VRel.noRef (c := nctx 0 π0 k c') (c' := only fun b => c'.F b ∨ c'.O b) (fun _ h => h.elim .inl fun h => .inr h.1) _ _ hv V'⟩
  refine ⟨E.os, E.tape, E.output, E.size, E.shape, E.keep, fun b g p hp => ?_, fun b hb => .inl (E.frz b hb), fun b hb => ?_, fun b hb => hb.elim⟩
  · rw [H.fresh b rfl g] at hp; cases hp
  · rcases hb with hb | hb
    · exact E.frzNew b hb
    · rcases E.own b hb with h1 | h1
      · exact .inr (.inl h1)
      · exact .inr (.inr h1)
theorem HSpec.of_W2 {f m : Nat} {sf : SFn} {args : List AV} {h h' : Heap} {v : AV} (hok : okFn P f sf = true) (hl : args.length ≤ sf.n) (hm : ∀ b, m ≤ b → h.get b = none)
    (hw : W2 P ⟨sf.n, m⟩ sf.body (fun e B => (e = .normal ∨ e = .ret) ∧ ∃ vs π, resV B.T B.h sf.res = some vs ∧ Maps m π B.h ∧ RH m π B.h h' ∧ RD m π B.h h' ∧ Rn m π B.h v (resOf vs)) ⟨argT 0 args, h⟩) : HSpec P f args h v h' := by
  obtain ⟨_, _, _, _, _, _, _, hc⟩ := okFn_spec hok
  refine ⟨hc, fun c w cargs H ha => (call_of_W2 (R := fun vs k => ∃ π, Maps m π k ∧ RH m π k h' ∧ RD m π k h' ∧ Rn m π k v (resOf vs)) hok hl (hw.mono fun e B ⟨h1, vs, π, h2, h3⟩ => ⟨h1, vs, h2, π, h3⟩) H ha).mono ?_⟩
  rintro e w' ⟨cv, c', vs, k, rfl, E, H', V, π, M, hb, hd, hk⟩
  have E2 := E.trans (nctx_evo (m := m) (π := π) (h := k) c' w')
  refine ⟨cv, nctx m π k c', rfl, ?_, hb.hrel hd M H', hk c' w' cv H' M V⟩
  refine ⟨E2.os, E2.tape, E2.output, E2.size, E2.shape, E2.keep, fun b g p hp => ?_, E2.frz, E2.frzNew, E2.own⟩
  rcases Nat.lt_or_ge b m with h1 | h1
  · exact E2.rho b g p h1 hp
  · rw [H.fresh b (hm b h1) g] at hp; cases hp
end Go.AM
set_option linter.unusedSimpArgs false
set_option linter.unusedVariables false
namespace Go.AM
variable {P : Program}
def wpOp (P : Program) (i : Nat) (s : SOp) (T : Tmps) (h : Heap) (K : AV → Heap → Prop) : Prop := ∃ v h1 f, StepX P i s T h v h1 f ∧ K v h1
def wpR (P : Program) : Nat → List SOper → Tmps → Heap → (Tmps → Heap → Nat → Prop) → Prop
  | n, [], T, h, K => K T h n
  | n, s :: r, T, h, K => ∃ v h1 f, StepV P n s T h v h1 f ∧ wpR P (n + 1) r (putD T s.dst v) h1 K
theorem wpR.toWR : ∀ {r : List SOper} {n i : Nat} {T : Tmps} {h : Heap} {K : Tmps → Heap → Nat → Prop}, wpR P (n + i) r T h K → WR P n i r T h fun T h => K T h (n + i + r.length)
  | [], n, i, T, h, K, hk => hk
  | s :: r, n, i, T, h, K, ⟨v, h1, f, hs, hr⟩ => by
    refine ⟨f, v, h1, hs, ?_⟩
    have := wpR.toWR (i := i + 1) hr
    have e : n + (i + 1) + r.length = n + i + (s :: r).length := by simp; omega
    rw [e] at this
    exact this
def wpRF (P : Program) : Nat → List SOper → Tmps → Heap → (List FP → Tmps → Heap → Nat → Prop) → Prop
  | n, [], T, h, K => K [] T h n
  | n, s :: r, T, h, K => ∃ v h1 f, StepV P n s T h v h1 f ∧ wpRF P (n + 1) r (putD T s.dst v) h1 fun fs T h n => K (f :: fs) T h n
theorem wpRF.toF : ∀ {r : List SOper} {n i : Nat} {T : Tmps} {h : Heap} {K : List FP → Tmps → Heap → Nat → Prop}, wpRF P (n + i) r T h K →
    ∃ fs T' h', RunF P n i r fs ⟨T, h⟩ ⟨T', h'⟩ ∧ K fs T' h' (n + i + r.length)
  | [], n, i, T, h, K, hk => ⟨[], T, h, ⟨rfl, rfl⟩, hk⟩
  | s :: r, n, i, T, h, K, ⟨v, h1, f, hs, hr⟩ => by
    obtain ⟨fs, T', h', h2, hk⟩ := wpRF.toF (i := i + 1) hr
    refine ⟨f :: fs, T', h', ⟨f, fs, v, h1, rfl, hs, h2⟩, ?_⟩
    have e : n + i + (s :: r).length = n + (i + 1) + r.length := by simp; omega
    rw [e]; exact hk
abbrev QC := SX → Tmps → Heap → Nat → Prop
def wpC (P : Program) (N : NM) : SCode → Nat → Tmps → Heap → QC → Prop
  | .skip, n, T, h, Q => Q .normal T h n
  | .ret, n, T, h, Q => Q .ret T h n
  | .exit i, n, T, h, Q => Q (.exit i) T h n
  | .bad, _, _, _, _ => False
  | .mloop pre x it nx ok en b1 b2 rest body, n, T, h, Q => W2 P N (.mloop pre x it nx ok en b1 b2 rest body) (fun e B => ∃ n, Q e B.T B.h n) ⟨T, h⟩
  | .region ops [] dead, n, T, h, Q => wpR P n ops T h fun T h n => Q .normal (rm T dead) h n
  | .region ops (p :: ps) dead, n, T, h, Q => wpRF P n ops T h fun fs T h n => ((p :: ps).all fun p => (fs.getD p.1 ⟨false, [], []⟩).apart (fs.getD p.2 ⟨false, [], []⟩)) = true ∧ Q .normal (rm T dead) h n
  | .seq a b, n, T, h, Q => wpC P N a n T h fun e T h n => match e with
    | .normal => wpC P N b n T h Q
    | e => Q e T h n
  | .cond x a b, n, T, h, Q => ∃ t, ev T x = .bool t ∧ if t = true then wpC P N a n T h Q else wpC P N b n T h Q
  | .block i b, n, T, h, Q => wpC P N b n T h fun e T h n => match e with
    | .exit j => if j = i then Q .normal T h n else Q (.exit j) T h n
    | e => Q e T h n
  | .loop b, n, T, h, Q => W2 P N (.loop b) (fun e B => ∃ n, Q e B.T B.h n) ⟨T, h⟩
theorem wpC.toW {N : NM} : ∀ {c : SCode} {n : Nat} {T : Tmps} {h : Heap} {Q : QC}, wpC P N c n T h Q → W2 P N c (fun e B => ∃ n, Q e B.T B.h n) ⟨T, h⟩
  | .skip, n, T, h, Q, hk => W2.skip ⟨n, hk⟩
  | .ret, n, T, h, Q, hk => W2.ret ⟨n, hk⟩
  | .exit i, n, T, h, Q, hk => W2.exit ⟨n, hk⟩
  | .bad, _, _, _, _, hk => hk.elim
  | .mloop .., n, T, h, Q, hk => hk
  | .region ops [] dead, n, T, h, Q, hk => by
    have := wpR.toWR (i := 0) hk
    exact W2.of_W <| W.regionR n (this |> fun h => by simpa using (show _ from (wr_mono h)))
  | .region ops (p :: ps) dead, n, T, h, Q, hk => by
    obtain ⟨fs, T', h', h1, h2, h3⟩ := wpRF.toF (i := 0) hk
    exact W2.of_W <| W.regionF n fs h1 h2 ⟨_, h3⟩
  | .seq a b, n, T, h, Q, hk => by
    simp only [wpC] at hk
    refine W2.seq ((wpC.toW (c := a) hk).mono ?_)
    rintro e B ⟨n', hq⟩
    cases e with
    | normal => exact wpC.toW hq
    | exit i => exact ⟨n', hq⟩
    | ret => exact ⟨n', hq⟩
  | .cond x a b, n, T, h, Q, ⟨t, hx, hk⟩ => by
    refine W2.cond hx ?_ ?_
    · intro e; rw [if_pos e] at hk; exact wpC.toW hk
    · intro e; rw [if_neg (by simp [e])] at hk; exact wpC.toW hk
  | .block i b, n, T, h, Q, hk => by
    simp only [wpC] at hk
    refine W2.block ((wpC.toW (c := b) hk).mono ?_)
    rintro e B ⟨n', hq⟩
    cases e with
    | normal => exact ⟨n', hq⟩
    | ret => exact ⟨n', hq⟩
    | exit j =>
      simp only at hq ⊢
      split
      · rename_i e; rw [if_pos e] at hq; exact ⟨n', hq⟩
      · rename_i e; rw [if_neg e] at hq; exact ⟨n', hq⟩
  | .loop b, n, T, h, Q, hk => hk
where
  wr_mono {ops : List SOper} {n : Nat} {T : Tmps} {h : Heap} {dead : List Nat} {Q : QC} {m : Nat} (hk : WR P n 0 ops T h fun T h => Q .normal (rm T dead) h m) : WR P n 0 ops T h fun T h => ∃ n, Q .normal (rm T dead) h n := by
    have : ∀ {r : List SOper} {i : Nat} {T : Tmps} {h : Heap} {K K' : Tmps → Heap → Prop}, WR P n i r T h K → (∀ T h, K T h → K' T h) → WR P n i r T h K' := by
      intro r
      induction r with
      | nil => intro i T h K K' hk hK; exact hK _ _ hk
      | cons s r ih =>
        intro i T h K K' ⟨f, v, h1, hs, hr⟩ hK
        exact ⟨f, v, h1, hs, ih hr hK⟩
    exact this hk fun T h hq => ⟨m, hq⟩
end Go.AM
set_option linter.unusedSimpArgs false
set_option linter.unusedVariables false
namespace Go.AM
variable {P : Program}
inductive Fr where
  | sq (b : SCode)
  | blk (i : Nat)
def ct (P : Program) (N : NM) : List Fr → QC → QC
  | [], Q => Q
  | .sq b :: fs, Q => fun e T h n => match e with
    | .normal => wpC P N b n T h (ct P N fs Q)
    | e => ct P N fs Q e T h n
  | .blk i :: fs, Q => fun e T h n => match e with
    | .exit j => if j = i then ct P N fs Q .normal T h n else ct P N fs Q (.exit j) T h n
    | e => ct P N fs Q e T h n
def wS (P : Program) (N : NM) (c : SCode) (fs : List Fr) (n : Nat) (T : Tmps) (h : Heap) (Q : QC) : Prop := wpC P N c n T h (ct P N fs Q)
def wR (P : Program) (N : NM) (ops : List SOper) (dead : List Nat) (fs : List Fr) (n : Nat) (T : Tmps) (h : Heap) (Q : QC) : Prop := wpR P n ops T h fun T h n => ct P N fs Q .normal (rm T dead) h n
def wX (P : Program) (N : NM) (e : SX) (fs : List Fr) (n : Nat) (T : Tmps) (h : Heap) (Q : QC) : Prop := ct P N fs Q e T h n
def wO (P : Program) (N : NM) (o : Option AV) (d : Option Nat) (ops : List SOper) (dead : List Nat) (fs : List Fr) (n : Nat) (T : Tmps) (h : Heap) (Q : QC) : Prop :=
  ∃ v, o = some v ∧ wR P N ops dead fs (n + 1) (putD T d v) h Q
def wM (P : Program) (N : NM) (m : HM AV) (d : Option Nat) (ops : List SOper) (dead : List Nat) (fs : List Fr) (n : Nat) (T : Tmps) (h : Heap) (Q : QC) : Prop :=
  ∃ v h1, m.run h = some (v, h1) ∧ wR P N ops dead fs (n + 1) (putD T d v) h1 Q
def wG (P : Program) (N : NM) (o : Option Bool) (d : Option Nat) (op : SOp) (ops : List SOper) (dead : List Nat) (fs : List Fr) (n : Nat) (T : Tmps) (h : Heap) (Q : QC) : Prop :=
  match o with
  | some true => wR P N (⟨d, op, [], none⟩ :: ops) dead fs n T h Q
  | some false => wR P N ops dead fs (n + 1) (putD T d (.tup [])) h Q
  | none => False
def wC (P : Program) (N : NM) (x : AV) (a b : SCode) (fs : List Fr) (n : Nat) (T : Tmps) (h : Heap) (Q : QC) : Prop :=
  ∃ t, x = .bool t ∧ if t = true then wS P N a fs n T h Q else wS P N b fs n T h Q
def wCall (P : Program) (N : NM) (m : CallM) (x : AV) (args : List AV) (d : Option Nat) (ops : List SOper) (dead : List Nat) (fs : List Fr) (n : Nat) (T : Tmps) (h : Heap) (Q : QC) : Prop :=
  match x with
  | .fn f a c => match m with
    | .pure => ∃ v, PSpec P f (a ++ args ++ c) v ∧ wR P N ops dead fs (n + 1) (putD T d v) h Q
    | .heap => ∃ v h1, HSpec P f (a ++ args ++ c) h v h1 ∧ wR P N ops dead fs (n + 1) (putD T d v) h1 Q
    | .borrow => ∃ asx h1 v, (mapH (frzH 4) (a ++ args ++ c)).run h = some (asx, h1) ∧ PSpec P f asx v ∧ flatV v = true ∧ wR P N ops dead fs (n + 1) (putD T d v) h1 Q
  | _ => False
section
variable {N : NM} {n : Nat} {T : Tmps} {h : Heap} {Q : QC} {fs : List Fr}
theorem wS_skip : wS P N .skip fs n T h Q = wX P N .normal fs n T h Q := rfl
theorem wS_ret : wS P N .ret fs n T h Q = wX P N .ret fs n T h Q := rfl
theorem wS_exit {i : Nat} : wS P N (.exit i) fs n T h Q = wX P N (.exit i) fs n T h Q := rfl
theorem wS_region {ops : List SOper} {dead : List Nat} : wS P N (.region ops [] dead) fs n T h Q = wR P N ops dead fs n T h Q := rfl
theorem wS_seq {a b : SCode} : wS P N (.seq a b) fs n T h Q = wS P N a (.sq b :: fs) n T h Q := rfl
theorem wS_cond {x : Opd} {a b : SCode} : wS P N (.cond x a b) fs n T h Q = wC P N (ev T x) a b fs n T h Q := rfl
theorem wS_block {i : Nat} {b : SCode} : wS P N (.block i b) fs n T h Q = wS P N b (.blk i :: fs) n T h Q := rfl
theorem wC_true {a b : SCode} : wC P N (.bool true) a b fs n T h Q = wS P N a fs n T h Q := by simp [wC]
theorem wC_false {a b : SCode} : wC P N (.bool false) a b fs n T h Q = wS P N b fs n T h Q := by simp [wC]
theorem wC_bool {t : Bool} {a b : SCode} : wC P N (.bool t) a b fs n T h Q = if t = true then wS P N a fs n T h Q else wS P N b fs n T h Q := by cases t <;> simp [wC]
theorem wX_nil {e : SX} : wX P N e [] n T h Q = Q e T h n := rfl
theorem wX_sq {b : SCode} : wX P N .normal (.sq b :: fs) n T h Q = wS P N b fs n T h Q := rfl
theorem wX_sq_ret {b : SCode} : wX P N .ret (.sq b :: fs) n T h Q = wX P N .ret fs n T h Q := rfl
theorem wX_sq_exit {b : SCode} {i : Nat} : wX P N (.exit i) (.sq b :: fs) n T h Q = wX P N (.exit i) fs n T h Q := rfl
theorem wX_blk {i : Nat} : wX P N .normal (.blk i :: fs) n T h Q = wX P N .normal fs n T h Q := rfl
theorem wX_blk_ret {i : Nat} : wX P N .ret (.blk i :: fs) n T h Q = wX P N .ret fs n T h Q := rfl
theorem wX_blk_exit {i j : Nat} : wX P N (.exit j) (.blk i :: fs) n T h Q = if j = i then wX P N .normal fs n T h Q else wX P N (.exit j) fs n T h Q := rfl
end
theorem ev_t (T : Tmps) (i : Nat) : ev T (.t i) = lk T i := rfl
theorem ev_c (T : Tmps) (v : AV) : ev T (.c v) = v := rfl
theorem ev_f (T : Tmps) (n : Nat) : ev T (.f n) = .fn n [] [] := rfl
theorem lk_nil (i : Nat) : lk [] i = .any := rfl
theorem lk_cons (j : Nat) (v : AV) (r : Tmps) (i : Nat) : lk ((j, v) :: r) i = if j = i then v else lk r i := by
  simp only [lk]; by_cases h : j = i
  · subst h; simp
  · have : Nat.beq j i = false := by rw [Bool.eq_false_iff]; simpa using h
    rw [this, if_neg h]; rfl
theorem up_cons (j : Nat) (u : AV) (r : Tmps) (i : Nat) (v : AV) : up ((j, u) :: r) i v = if j = i then (j, v) :: r else (j, u) :: up r i v := by
  simp only [up]; by_cases h : j = i
  · subst h; simp
  · have : Nat.beq j i = false := by rw [Bool.eq_false_iff]; simpa using h
    rw [this, if_neg h]; rfl
theorem up_nil (i : Nat) (v : AV) : up [] i v = [(i, v)] := rfl
theorem rm_nil (l : List Nat) : rm [] l = [] := rfl
theorem rm_no (T : Tmps) : rm T [] = T := by
  induction T with
  | nil => rfl
  | cons p T ih => obtain ⟨j, u⟩ := p; simp [rm, ih]
theorem rm_cons (j : Nat) (u : AV) (r : Tmps) (l : List Nat) : rm ((j, u) :: r) l = if l.elem j = true then rm r l else (j, u) :: rm r l := by
  simp only [rm]
  by_cases h : j ∈ l
  · have : l.any (Nat.beq j) = true := List.any_eq_true.2 ⟨j, h, by simp⟩
    rw [this, if_pos (by simpa using h)]; rfl
  · have : l.any (Nat.beq j) = false := by
      rw [Bool.eq_false_iff]; intro h'
      obtain ⟨x, hx, e⟩ := List.any_eq_true.1 h'
      have : j = x := by simpa using e
      exact h (this ▸ hx)
    rw [this, if_neg (by simpa using h)]; rfl
theorem putD_some (T : Tmps) (d : Nat) (v : AV) : putD T (some d) v = up T d v := rfl
theorem putD_none (T : Tmps) (v : AV) : putD T none v = T := rfl
theorem argT_nil (k : Nat) : argT k [] = [] := rfl
theorem argT_cons (k : Nat) (x : AV) (xs : List AV) : argT k (x :: xs) = (k, x) :: argT (k + 1) xs := rfl
theorem evs_nil (T : Tmps) : evs T [] = [] := rfl
theorem evs_cons (T : Tmps) (x : Opd) (r : List Opd) : evs T (x :: r) = ev T x :: evs T r := rfl
theorem evo_none (T : Tmps) : evo T none = none := rfl
theorem evo_some (T : Tmps) (x : Opd) : evo T (some x) = some (ev T x) := rfl
theorem evParts_nil (T : Tmps) : evParts T [] = [] := rfl
theorem evParts_cons (T : Tmps) (a b : Nat) (x : Opd) (r : List (Nat × Nat × Opd)) : evParts T ((a, b, x) :: r) = (a, b, ev T x) :: evParts T r := rfl
section
variable {N : NM} {n : Nat} {d : Option Nat} {af dead : List Nat} {r : List SOper} {T : Tmps} {h : Heap} {Q : QC} {fs : List Fr}
theorem wR_nil : wR P N [] dead fs n T h Q = wX P N .normal fs n (rm T dead) h Q := rfl
theorem wR_guard {op : SOp} {g : Nat} {w : Bool} : wR P N (⟨d, op, af, some (g, w)⟩ :: r) dead fs n T h Q = wG P N (wantedA (lk T g) w) d op r dead fs n T h Q := by
  apply propext
  unfold wG
  constructor
  · rintro ⟨v, h1, f, ⟨b, hw, hb⟩, hk⟩
    rw [hw]
    cases b with
    | true => rw [if_pos rfl] at hb; exact ⟨v, h1, f, hb, hk⟩
    | false =>
      rw [if_neg (by simp)] at hb
      obtain ⟨rfl, rfl, rfl⟩ := hb
      exact hk
  · intro hk
    cases hw : wantedA (lk T g) w with
    | none => rw [hw] at hk; exact hk.elim
    | some b =>
      rw [hw] at hk
      cases b with
      | true =>
        obtain ⟨v, h1, f, hs, hk⟩ := hk
        exact ⟨v, h1, f, ⟨true, hw, by rw [if_pos rfl]; exact hs⟩, hk⟩
      | false => exact ⟨.tup [], h, ⟨false, [], []⟩, ⟨false, hw, by simp⟩, hk⟩
theorem wG_bool {b w : Bool} {op : SOp} : wG P N (wantedA (.bool b) w) d op r dead fs n T h Q = if b = w then wR P N (⟨d, op, [], none⟩ :: r) dead fs n T h Q else wR P N r dead fs (n + 1) (putD T d (.tup [])) h Q := by
  cases b <;> cases w <;> simp [wG, wantedA]
theorem wG_skip {w : Bool} {op : SOp} : wG P N (wantedA (.tup []) w) d op r dead fs n T h Q = wR P N r dead fs (n + 1) (putD T d (.tup [])) h Q := by simp [wG, wantedA]
theorem wR_lift {op : SOp} {o : Option AV} (e : aop n T op = lift o) : wR P N (⟨d, op, af, none⟩ :: r) dead fs n T h Q = wO P N o d r dead fs n T h Q := by
  apply propext
  constructor
  · rintro ⟨v, h1, f, ⟨out, h2, hm, ho⟩, hk⟩
    rw [e] at hm
    obtain ⟨u, hu, he⟩ := run_lift hm
    cases he
    obtain ⟨rfl, rfl, _⟩ := ho
    exact ⟨_, hu, hk⟩
  · rintro ⟨v, hv, hk⟩
    refine ⟨v, h, _, ⟨.val v, h, ?_, rfl, rfl, rfl⟩, hk⟩
    rw [e, hv]; rfl
theorem run_hval' {v : AV} {h1 : Heap} : ∀ (m : HM AV) (h : Heap), m.run h = some (v, h1) → (hval m).run h = some (.val v, h1) := by
  intro m
  induction m with
  | ret a => intro h hm; simp only [HM.run, Option.some.injEq, Prod.mk.injEq] at hm; obtain ⟨rfl, rfl⟩ := hm; rfl
  | fail => intro h hm; simp [HM.run] at hm
  | look b k ih => intro h hm; exact ih _ h hm
  | put b x k ih =>
    intro h hm
    obtain ⟨hl, hm⟩ := run_put hm
    have := ih _ hm
    simp only [hval, HM.bind, HM.run]
    have hl' : Nat.blt b lim = true := by simp [Nat.blt]; omega
    rw [hl']; exact this
theorem wR_hval {op : SOp} {m : HM AV} (e : aop n T op = hval m) : wR P N (⟨d, op, af, none⟩ :: r) dead fs n T h Q = wM P N m d r dead fs n T h Q := by
  apply propext
  constructor
  · rintro ⟨v, h1, f, ⟨out, h2, hm, ho⟩, hk⟩
    rw [e] at hm
    obtain ⟨u, h3, hu, he⟩ := run_hval hm
    cases he
    obtain ⟨rfl, rfl, _⟩ := ho
    exact ⟨_, _, hu, hk⟩
  · rintro ⟨v, h1, hv, hk⟩
    exact ⟨v, h1, _, ⟨.val v, h1, by rw [e]; exact run_hval' m h hv, rfl, rfl, rfl⟩, hk⟩
theorem wR_mov {x : Opd} : wR P N (⟨d, .mov x, af, none⟩ :: r) dead fs n T h Q = wR P N r dead fs (n + 1) (putD T d (ev T x)) h Q := by
  rw [wR_lift (o := some (ev T x)) rfl]; simp [wO]
theorem wR_mkfn {f : Nat} {xs ys : List Opd} : wR P N (⟨d, .mkfn f xs ys, af, none⟩ :: r) dead fs n T h Q = wR P N r dead fs (n + 1) (putD T d (.fn f (evs T xs) (evs T ys))) h Q := by
  rw [wR_lift (o := some (.fn f (evs T xs) (evs T ys))) rfl]; simp [wO]
theorem wR_pick {c a b : Opd} : wR P N (⟨d, .pick c a b, af, none⟩ :: r) dead fs n T h Q = wO P N (aPick (ev T c) (ev T a) (ev T b)) d r dead fs n T h Q := wR_lift rfl
theorem wR_build {z : List AV} {ps : List (Nat × Nat × Opd)} : wR P N (⟨d, .build z ps, af, none⟩ :: r) dead fs n T h Q = wO P N (aBuild z (evParts T ps)) d r dead fs n T h Q := wR_lift rfl
theorem wR_nilchk {x : Opd} : wR P N (⟨d, .nilchk x, af, none⟩ :: r) dead fs n T h Q = wO P N (aNil (ev T x)) d r dead fs n T h Q := wR_lift rfl
theorem wR_bin {op : BinOp} {x y : Opd} : wR P N (⟨d, .bin op x y, af, none⟩ :: r) dead fs n T h Q = wO P N (aBin op (ev T x) (ev T y)) d r dead fs n T h Q := wR_lift rfl
theorem wR_eq {k : EqK} {neg : Bool} {x y : Opd} : wR P N (⟨d, .eq k neg x y, af, none⟩ :: r) dead fs n T h Q = wO P N (aEq k neg (ev T x) (ev T y)) d r dead fs n T h Q := wR_lift rfl
theorem wR_un {op : UnOp} {x : Opd} : wR P N (⟨d, .un op x, af, none⟩ :: r) dead fs n T h Q = wO P N (aUn op (ev T x)) d r dead fs n T h Q := wR_lift rfl
theorem wR_conv {k : IntKind} {x : Opd} : wR P N (⟨d, .conv k x, af, none⟩ :: r) dead fs n T h Q = wO P N (aConv k (ev T x)) d r dead fs n T h Q := wR_lift rfl
theorem wR_convS {x : Opd} : wR P N (⟨d, .convS x, af, none⟩ :: r) dead fs n T h Q = wO P N (aConvS (ev T x)) d r dead fs n T h Q := wR_lift rfl
theorem wR_slice {sz : Option Nat} {x : Opd} {l hh m : Option Opd} : wR P N (⟨d, .slice sz x l hh m, af, none⟩ :: r) dead fs n T h Q = wO P N (aSliceC sz (ev T x) (evo T l) (evo T hh) (evo T m)) d r dead fs n T h Q := wR_lift rfl
theorem wR_faddr {o : Nat} {x : Opd} : wR P N (⟨d, .faddr o x, af, none⟩ :: r) dead fs n T h Q = wO P N (aFAddr o (ev T x)) d r dead fs n T h Q := wR_lift rfl
theorem wR_field {k : Option Nat} {o : Nat} {x : Opd} : wR P N (⟨d, .field k o x, af, none⟩ :: r) dead fs n T h Q = wO P N (aField k o (ev T x)) d r dead fs n T h Q := wR_lift rfl
theorem wR_iaddr {a : Option Nat} {sz : Nat} {x j : Opd} : wR P N (⟨d, .iaddr a sz x j, af, none⟩ :: r) dead fs n T h Q = wO P N (aIAddr a sz (ev T x) (ev T j)) d r dead fs n T h Q := wR_lift rfl
theorem wR_index {a : Option (Nat × Nat × Bool)} {x j : Opd} : wR P N (⟨d, .index a x j, af, none⟩ :: r) dead fs n T h Q = wO P N (aIndex a (ev T x) (ev T j)) d r dead fs n T h Q := wR_lift rfl
theorem wR_extract {j : Nat} {x : Opd} : wR P N (⟨d, .extract j x, af, none⟩ :: r) dead fs n T h Q = wO P N (aExtract j (ev T x)) d r dead fs n T h Q := wR_lift rfl
theorem wR_maxmin {mn : Bool} {xs : List Opd} : wR P N (⟨d, .maxmin mn xs, af, none⟩ :: r) dead fs n T h Q = wO P N (aMax mn (evs T xs)) d r dead fs n T h Q := wR_lift rfl
theorem wR_alloc {s : Site} {z : AV} : wR P N (⟨d, .alloc s z, af, none⟩ :: r) dead fs n T h Q = wM P N (aBox s n z) d r dead fs n T h Q := wR_hval rfl
theorem wR_box {s : Site} {x : Opd} : wR P N (⟨d, .box s x, af, none⟩ :: r) dead fs n T h Q = wM P N (aBox s n (ev T x)) d r dead fs n T h Q := wR_hval rfl
theorem wR_bslice {fz : Bool} {s : Site} {sz len : Nat} {z : List AV} {ps : List (Nat × Nat × Opd)} : wR P N (⟨d, .bslice fz s sz len z ps, af, none⟩ :: r) dead fs n T h Q = wM P N (aBuildSlice fz s n sz len z (evParts T ps)) d r dead fs n T h Q := wR_hval rfl
theorem wR_load {k : Option Nat} {x : Opd} : wR P N (⟨d, .load k x, af, none⟩ :: r) dead fs n T h Q = wM P N (aLoad k (ev T x)) d r dead fs n T h Q := wR_hval rfl
theorem wR_store {k : Nat} {x v : Opd} : wR P N (⟨d, .store k x v, af, none⟩ :: r) dead fs n T h Q = wM P N (aStore k (ev T x) (ev T v)) d r dead fs n T h Q := wR_hval rfl
theorem wR_mkmap {s : Site} : wR P N (⟨d, .mkmap s, af, none⟩ :: r) dead fs n T h Q = wM P N (aMakeMap s n) d r dead fs n T h Q := wR_hval rfl
theorem wR_mkslice {s : Site} {sz b : Nat} {z : List AV} {l c : Opd} : wR P N (⟨d, .mkslice s sz b z l c, af, none⟩ :: r) dead fs n T h Q = wM P N (aMakeSlice s n sz b z (ev T l) (ev T c)) d r dead fs n T h Q := wR_hval rfl
theorem wR_lookup {row : Bool} {ks : List LK} {z : AV} {ok : Bool} {x k : Opd} : wR P N (⟨d, .lookup row ks z ok x k, af, none⟩ :: r) dead fs n T h Q = wM P N (aLookup row ks z ok (ev T x) (ev T k)) d r dead fs n T h Q := wR_hval rfl
theorem wR_mupd {row : Bool} {ks : List LK} {x k v : Opd} : wR P N (⟨d, .mupd row ks x k v, af, none⟩ :: r) dead fs n T h Q = wM P N (aMapUpd row ks (ev T x) (ev T k) (ev T v)) d r dead fs n T h Q := wR_hval rfl
theorem wR_len {k : Nat} {x : Opd} : wR P N (⟨d, .len k x, af, none⟩ :: r) dead fs n T h Q = wM P N (aLenC k (ev T x)) d r dead fs n T h Q := wR_hval rfl
theorem wR_append {s : Site} {sz b : Nat} {x y : Opd} : wR P N (⟨d, .append s sz b x y, af, none⟩ :: r) dead fs n T h Q = wM P N (aAppend s n sz b (ev T x) (ev T y)) d r dead fs n T h Q := wR_hval rfl
theorem wR_copy {sz : Nat} {x y : Opd} : wR P N (⟨d, .copy sz x y, af, none⟩ :: r) dead fs n T h Q = wM P N (aCopy sz (ev T x) (ev T y)) d r dead fs n T h Q := wR_hval rfl
theorem wR_call {m : CallM} {x : Opd} {args : List Opd} : wR P N (⟨d, .call m x args, af, none⟩ :: r) dead fs n T h Q = wCall P N m (ev T x) (evs T args) d r dead fs n T h Q := by
  apply propext
  have e : aop n T (.call m x args) = aCall m (ev T x) (evs T args) := rfl
  constructor
  · rintro ⟨v, h1, f, ⟨out, h2, hm, ho⟩, hk⟩
    rw [e] at hm
    unfold aCall at hm
    unfold wCall
    cases hx : ev T x <;> rw [hx] at hm <;> first | (simp [HM.run] at hm; done) | skip
    simp only at hm
    rename_i g a c
    cases m
    · simp only [HM.run, Option.some.injEq, Prod.mk.injEq] at hm
      obtain ⟨rfl, rfl⟩ := hm
      exact ⟨_, _, ho.1, hk⟩
    · simp only [HM.run, Option.some.injEq, Prod.mk.injEq] at hm
      obtain ⟨rfl, rfl⟩ := hm
      obtain ⟨hp, rfl, _⟩ := ho
      exact ⟨_, hp, hk⟩
    · obtain ⟨asx, h3, k1, k2⟩ := run_bind hm
      simp only [HM.run, Option.some.injEq, Prod.mk.injEq] at k2
      obtain ⟨rfl, rfl⟩ := k2
      obtain ⟨hp, hf, rfl, _⟩ := ho
      exact ⟨_, _, _, k1, hp, hf, hk⟩
  · intro hk
    unfold wCall at hk
    cases hx : ev T x <;> rw [hx] at hk <;> first | exact hk.elim | skip
    rename_i g a c
    cases m
    · obtain ⟨v, h1, hs, hk⟩ := hk
      exact ⟨v, h1, _, ⟨.call .heap g (a ++ evs T args ++ c), h, by rw [e, hx]; rfl, hs, rfl⟩, hk⟩
    · obtain ⟨v, hs, hk⟩ := hk
      exact ⟨v, h, _, ⟨.call .pure g (a ++ evs T args ++ c), h, by rw [e, hx]; rfl, hs, rfl, rfl⟩, hk⟩
    · obtain ⟨asx, h1, v, hm, hs, hf, hk⟩ := hk
      refine ⟨v, h1, _, ⟨.call .borrow g asx, h1, ?_, hs, hf, rfl, rfl⟩, hk⟩
      rw [e, hx]
      have : ∀ (m : HM (List AV)) (h : Heap) (k : List AV → AOut), m.run h = some (asx, h1) → (m.bind fun asx => .ret (k asx)).run h = some (k asx, h1) := by
        intro m
        induction m with
        | ret a => intro h k hm; simp only [HM.run, Option.some.injEq, Prod.mk.injEq] at hm; obtain ⟨rfl, rfl⟩ := hm; rfl
        | fail => intro h k hm; simp [HM.run] at hm
        | look b k' ih => intro h k hm; exact ih _ h k hm
        | put b x k' ih =>
          intro h k hm
          obtain ⟨hl, hm⟩ := run_put hm
          have := ih _ k hm
          simp only [HM.bind, HM.run]
          have hl' : Nat.blt b lim = true := by simp [Nat.blt]; omega
          rw [hl']; exact this
      exact this _ h (fun asx => .call .borrow g asx) hm
theorem wO_some {v : AV} : wO P N (some v) d r dead fs n T h Q = wR P N r dead fs (n + 1) (putD T d v) h Q := by simp [wO]
theorem wO_none : wO P N none d r dead fs n T h Q = False := by simp [wO]
theorem wO_pos {c : Prop} [Decidable c] {a b : Option AV} (hc : c) : wO P N (if c then a else b) d r dead fs n T h Q = wO P N a d r dead fs n T h Q := by rw [if_pos hc]
theorem wO_neg {c : Prop} [Decidable c] {a b : Option AV} (hc : ¬ c) : wO P N (if c then a else b) d r dead fs n T h Q = wO P N b d r dead fs n T h Q := by rw [if_neg hc]
theorem wO_ite {c : Prop} [Decidable c] {a : Option AV} : wO P N (if c then a else none) d r dead fs n T h Q = (c ∧ wO P N a d r dead fs n T h Q) := by by_cases hc : c <;> simp [hc, wO_none]
theorem cp {f : Nat} {args : List AV} {v : AV} (hp : PSpec P f args v) (k : wR P N r dead fs (n + 1) (putD T d v) h Q) : wCall P N .pure (.fn f [] []) args d r dead fs n T h Q := ⟨v, by simpa using hp, k⟩
theorem ch {f : Nat} {args : List AV} {v : AV} {h1 : Heap} (hp : HSpec P f args h v h1) (k : wR P N r dead fs (n + 1) (putD T d v) h1 Q) : wCall P N .heap (.fn f [] []) args d r dead fs n T h Q := ⟨v, h1, by simpa using hp, k⟩
def ldB (o : Option Blk) (g off : Nat) (m : Option Nat) : Option AV :=
  match o with
  | some (.cells g' cs) => if g' = g then (match m with | none => cs[off]? | some m => if off + m ≤ cs.length then some (.agg ((cs.drop off).take m)) else none) else none
  | _ => none
def stB (o : Option Blk) (g off m : Nat) (v : AV) : Option Blk :=
  match o with
  | some (.cells g' cs) => if g' = g ∧ v.cells.length = m ∧ off + m ≤ cs.length ∧ v.cells.all AV.one = true then some (.cells g (putR cs off v.cells)) else none
  | _ => none
def wB (P : Program) (N : NM) (o : Option Blk) (b : Nat) (v : AV) (d : Option Nat) (ops : List SOper) (dead : List Nat) (fs : List Fr) (n : Nat) (T : Tmps) (h : Heap) (Q : QC) : Prop :=
  ∃ x, o = some x ∧ b < lim ∧ wR P N ops dead fs (n + 1) (putD T d v) (h.set b x) Q
def wN (P : Program) (N : NM) (x : List AV) (v : AV) (d : Option Nat) (ops : List SOper) (dead : List Nat) (fs : List Fr) (n : Nat) (T : Tmps) (h : Heap) (Q : QC) : Prop :=
  h.get n = none ∧ n < lim ∧ wR P N ops dead fs (n + 1) (putD T d v) (h.set n (.cells 0 x)) Q
theorem wM_ret {v : AV} : wM P N (.ret v) d r dead fs n T h Q = wR P N r dead fs (n + 1) (putD T d v) h Q := by
  apply propext; constructor
  · rintro ⟨v', h1, hm, k⟩; simp only [HM.run, Option.some.injEq, Prod.mk.injEq] at hm; obtain ⟨rfl, rfl⟩ := hm; exact k
  · intro k; exact ⟨v, h, rfl, k⟩
theorem wM_fail : wM P N .fail d r dead fs n T h Q = False := by simp [wM, HM.run]
theorem wM_opt {o : Option AV} : wM P N (.opt o) d r dead fs n T h Q = wO P N o d r dead fs n T h Q := by
  cases o with
  | none => simp [HM.opt, wM_fail, wO_none]
  | some v => simp [HM.opt, wM_ret, wO_some]
theorem wM_ite {c : Prop} [Decidable c] {m : HM AV} : wM P N (if c then m else .fail) d r dead fs n T h Q = (c ∧ wM P N m d r dead fs n T h Q) := by
  by_cases hc : c <;> simp [hc, wM_fail]
theorem wM_put {b : Nat} {x : Blk} {v : AV} : wM P N (.put b x (.ret v)) d r dead fs n T h Q = wB P N (some x) b v d r dead fs n T h Q := by
  apply propext; constructor
  · rintro ⟨v', h1, hm, k⟩
    obtain ⟨hl, hm⟩ := run_put hm
    simp only [HM.run, Option.some.injEq, Prod.mk.injEq] at hm
    obtain ⟨rfl, rfl⟩ := hm
    exact ⟨x, rfl, hl, k⟩
  · rintro ⟨x', hx, hl, k⟩
    cases hx
    refine ⟨v, _, ?_, k⟩
    simp only [HM.run]
    have hl' : Nat.blt b lim = true := by simp [Nat.blt]; omega
    rw [hl']; rfl
theorem wB_some {x : Blk} {b : Nat} {v : AV} (hl : b < lim) : wB P N (some x) b v d r dead fs n T h Q = wR P N r dead fs (n + 1) (putD T d v) (h.set b x) Q := by simp [wB, hl]
theorem wM_cells {b g : Nat} {k : List AV → HM AV} : wM P N (.cells b g k) d r dead fs n T h Q = ∃ cs, h.get b = some (.cells g cs) ∧ wM P N (k cs) d r dead fs n T h Q := by
  apply propext; constructor
  · rintro ⟨v', h1, hm, hk⟩
    obtain ⟨cs, hb, hm⟩ := run_cells hm
    exact ⟨cs, hb, v', h1, hm, hk⟩
  · rintro ⟨cs, hb, v', h1, hm, hk⟩
    refine ⟨v', h1, ?_, hk⟩
    unfold HM.cells
    simp only [HM.run, hb]
    have : Nat.beq g g = true := by simp
    rw [this]; exact hm
theorem ldB_some1 {g g' off : Nat} {cs : List AV} : ldB (some (.cells g' cs)) g off none = if g' = g then cs[off]? else none := rfl
theorem ldB_someN {g g' off m : Nat} {cs : List AV} : ldB (some (.cells g' cs)) g off (some m) = if g' = g then (if off + m ≤ cs.length then some (.agg ((cs.drop off).take m)) else none) else none := rfl
theorem aLoad_ptr {m : Option Nat} {b g off : Nat} : wM P N (aLoad m (.ptr b g off)) d r dead fs n T h Q = wO P N (ldB (h.get b) g off m) d r dead fs n T h Q := by
  simp only [aLoad, wM_cells]
  apply propext; constructor
  · rintro ⟨cs, hb, hk⟩
    rw [hb]
    cases m with
    | none => simpa [ldB, wM_opt] using hk
    | some m =>
      simp only [wM_ite, wM_ret] at hk
      simp only [ldB, if_true]
      rw [wO_pos hk.1, wO_some]; exact hk.2
  · rintro ⟨v, hv, hk⟩
    unfold ldB at hv
    split at hv
    · rename_i g' cs hb
      split at hv
      · rename_i e
        subst e
        refine ⟨cs, hb, ?_⟩
        cases m with
        | none => simp only at hv; simp only [wM_opt, hv, wO_some]; exact hk
        | some m =>
          simp only at hv
          split at hv
          · rename_i hl
            cases hv
            simp only [wM_ite, wM_ret]
            exact ⟨hl, hk⟩
          · cases hv
      · cases hv
    · cases hv
theorem aLoad_fptr1 {cs : List AV} : wM P N (aLoad none (.fptr cs)) d r dead fs n T h Q = wO P N cs.head? d r dead fs n T h Q := by simp only [aLoad, wM_opt]
theorem aLoad_fptrN {m : Nat} {cs : List AV} : wM P N (aLoad (some m) (.fptr cs)) d r dead fs n T h Q = wO P N (if m ≤ cs.length then some (.agg (cs.take m)) else none) d r dead fs n T h Q := by
  simp only [aLoad, wM_ite, wM_ret, wO_ite, wO_some]
theorem stB_some {g g' off m : Nat} {cs : List AV} {v : AV} : stB (some (.cells g' cs)) g off m v = if g' = g ∧ v.cells.length = m ∧ off + m ≤ cs.length ∧ v.cells.all AV.one = true then some (.cells g (putR cs off v.cells)) else none := rfl
theorem aStore_ptr {m b g off : Nat} {v : AV} : wM P N (aStore m (.ptr b g off) v) d r dead fs n T h Q = wB P N (stB (h.get b) g off m v) b .any d r dead fs n T h Q := by
  simp only [aStore, wM_cells]
  apply propext; constructor
  · rintro ⟨cs, hb, hk⟩
    simp only [wM_ite, wM_put] at hk
    rw [hb, stB_some, if_pos ⟨rfl, hk.1⟩]
    exact hk.2
  · rintro ⟨x, hx, hl, hk⟩
    unfold stB at hx
    split at hx
    · rename_i g' cs hb
      split at hx
      · rename_i e
        obtain ⟨rfl, e⟩ := e
        cases hx
        refine ⟨cs, hb, ?_⟩
        simp only [wM_ite, wM_put]
        exact ⟨e, _, rfl, hl, hk⟩
      · cases hx
    · cases hx
theorem aBox_dyn {x : AV} (hx : x.boxable = true) : wM P N (aBox .dyn n x) d r dead fs n T h Q = wN P N x.cells (.ptr n 0 0) d r dead fs n T h Q := by
  simp only [aBox, if_pos hx]
  apply propext; constructor
  · rintro ⟨v', h1, hm, hk⟩
    unfold HM.new at hm
    simp only [HM.run] at hm
    cases hn : h.get n with
    | none =>
      rw [hn] at hm
      obtain ⟨hl, hm⟩ := run_put hm
      simp only [HM.run, Option.some.injEq, Prod.mk.injEq] at hm
      obtain ⟨rfl, rfl⟩ := hm
      exact ⟨hn, hl, hk⟩
    | some z => rw [hn] at hm; cases hm
  · rintro ⟨hn, hl, hk⟩
    refine ⟨_, _, ?_, hk⟩
    unfold HM.new
    simp only [HM.run, hn]
    have hl' : Nat.blt n lim = true := by simp [Nat.blt]; omega
    rw [hl']; rfl
theorem wN_new {x : List AV} {v : AV} (hn : h.get n = none) (hl : n < lim) : wN P N x v d r dead fs n T h Q = wR P N r dead fs (n + 1) (putD T d v) (h.set n (.cells 0 x)) Q := by simp [wN, hn, hl]
theorem aLenC_str {s : List UInt8} : wM P N (aLenC 0 (.str s)) d r dead fs n T h Q = wR P N r dead fs (n + 1) (putD T d (.int .i64 s.length)) h Q := by simp [aLenC, lenKind, aLen, wM_ret]
theorem aLenC_sl {b g off len sz : Nat} : wM P N (aLenC 1 (.sl b g off len sz)) d r dead fs n T h Q = wR P N r dead fs (n + 1) (putD T d (.int .i64 len)) h Q := by simp [aLenC, lenKind, aLen, wM_ret]
theorem aLenC_fsl {cs : List AV} {len sz : Nat} : wM P N (aLenC 1 (.fsl cs len sz)) d r dead fs n T h Q = wR P N r dead fs (n + 1) (putD T d (.int .i64 len)) h Q := by simp [aLenC, lenKind, aLen, wM_ret]
theorem aLenC_nilsl : wM P N (aLenC 1 .nilsl) d r dead fs n T h Q = wR P N r dead fs (n + 1) (putD T d (.int .i64 0)) h Q := by simp [aLenC, lenKind, aLen, wM_ret]
theorem aLenC_esl : wM P N (aLenC 1 .esl) d r dead fs n T h Q = wR P N r dead fs (n + 1) (putD T d (.int .i64 0)) h Q := by simp [aLenC, lenKind, aLen, wM_ret]
end
section
variable {k : IntKind} {a b : Int}
theorem aBin_add : aBin .add (.int k a) (.int k b) = some (.int k (wr k (a + b))) := by simp [aBin]
theorem aBin_sub : aBin .sub (.int k a) (.int k b) = some (.int k (wr k (a - b))) := by simp [aBin]
theorem aBin_mul : aBin .mul (.int k a) (.int k b) = some (.int k (wr k (a * b))) := by simp [aBin]
theorem aBin_quo : aBin .quo (.int k a) (.int k b) = if b = 0 then none else some (.int k (wr k (a.tdiv b))) := by simp [aBin]
theorem aBin_rem : aBin .rem (.int k a) (.int k b) = if b = 0 then none else some (.int k (a.tmod b)) := by simp [aBin]
theorem aBin_eql : aBin .eql (.int k a) (.int k b) = some (.bool (decide (a = b))) := by simp [aBin]
theorem aBin_neq : aBin .neq (.int k a) (.int k b) = some (.bool (!decide (a = b))) := by simp [aBin]
theorem aBin_lss : aBin .lss (.int k a) (.int k b) = some (.bool (decide (a < b))) := by simp [aBin]
theorem aBin_leq : aBin .leq (.int k a) (.int k b) = some (.bool (decide (a ≤ b))) := by simp [aBin]
theorem aBin_gtr : aBin .gtr (.int k a) (.int k b) = some (.bool (decide (b < a))) := by simp [aBin]
theorem aBin_geq : aBin .geq (.int k a) (.int k b) = some (.bool (decide (b ≤ a))) := by simp [aBin]
theorem aUn_not {b : Bool} : aUn .not (.bool b) = some (.bool (!b)) := rfl
theorem aUn_neg : aUn .neg (.int k a) = some (.int k (wr k (0 - a))) := rfl
theorem aConv_int {k' : IntKind} : aConv k (.int k' a) = some (.int k (wr k a)) := rfl
theorem aPick_bool {t : Bool} {x y : AV} : aPick (.bool t) x y = some (if t then x else y) := rfl
theorem aPick_true {x y : AV} : aPick (.bool true) x y = some x := rfl
theorem aPick_false {x y : AV} : aPick (.bool false) x y = some y := rfl
theorem aExtract_tup {j : Nat} {vs : List AV} : aExtract j (.tup vs) = vs[j]? := rfl
theorem get_zero {v : AV} {vs : List AV} : (v :: vs)[0]? = some v := rfl
theorem get_succ {v : AV} {vs : List AV} {j : Nat} : (v :: vs)[j + 1]? = vs[j]? := rfl
theorem wr_i64 {n : Int} (h1 : -9223372036854775808 ≤ n) (h2 : n ≤ 9223372036854775807) : wr .i64 n = n := wr_of h1 h2
theorem wr_u64 {n : Int} (h1 : 0 ≤ n) (h2 : n ≤ 18446744073709551615) : wr .u64 n = n := wr_of h1 h2
theorem wr_u8 {n : Int} (h1 : 0 ≤ n) (h2 : n ≤ 255) : wr .u8 n = n := wr_of h1 h2
theorem wr_u16 {n : Int} (h1 : 0 ≤ n) (h2 : n ≤ 65535) : wr .u16 n = n := wr_of h1 h2
theorem wr_u32 {n : Int} (h1 : 0 ≤ n) (h2 : n ≤ 4294967295) : wr .u32 n = n := wr_of h1 h2
theorem wr_i32 {n : Int} (h1 : -2147483648 ≤ n) (h2 : n ≤ 2147483647) : wr .i32 n = n := wr_of h1 h2
theorem aIAddr_fsl {sz len s : Nat} {cs : List AV} : aIAddr none sz (.fsl cs len s) (.int k a) = if 0 ≤ a ∧ a < len ∧ s = sz then some (.fptr (cs.drop (a.toNat * sz))) else none := rfl
theorem aIAddr_sl {sz len s b g off : Nat} : aIAddr none sz (.sl b g off len s) (.int k a) = if 0 ≤ a ∧ a < len ∧ s = sz then some (.ptr b g (off + a.toNat * sz)) else none := rfl
theorem aIAddr_ptr {m sz b g off : Nat} : aIAddr (some m) sz (.ptr b g off) (.int k a) = if 0 ≤ a ∧ a < m then some (.ptr b g (off + a.toNat * sz)) else none := rfl
theorem aIAddr_fptr {m sz : Nat} {cs : List AV} : aIAddr (some m) sz (.fptr cs) (.int k a) = if 0 ≤ a ∧ a < m then some (.fptr (cs.drop (a.toNat * sz))) else none := rfl
theorem aFAddr_ptr {o off b g : Nat} : aFAddr off (.ptr b g o) = some (.ptr b g (o + off)) := rfl
theorem aFAddr_fptr {off : Nat} {cs : List AV} : aFAddr off (.fptr cs) = some (.fptr (cs.drop off)) := rfl
theorem aIndex_arr {m sz : Nat} {cs : List AV} : aIndex (some (m, sz, false)) (.agg cs) (.int k a) = if 0 ≤ a ∧ a < m then cs[a.toNat * sz]? else none := by simp [aIndex]
theorem aField_none {off : Nat} {cs : List AV} : aField none off (.agg cs) = cs[off]? := rfl
theorem aField_some {m off : Nat} {cs : List AV} : aField (some m) off (.agg cs) = if off + m ≤ cs.length then some (.agg ((cs.drop off).take m)) else none := rfl
end
def Sub (L T : Tmps) : Prop := ∀ i, lk L i = .any ∨ lk L i = lk T i
theorem Sub.nil {T : Tmps} : Sub [] T := fun _ => .inl rfl
theorem Sub.cons {T L : Tmps} {j : Nat} {v : AV} (hv : lk T j = v) (h : Sub L T) : Sub ((j, v) :: L) T := by
  intro i
  rw [lk_cons]
  split
  · rename_i e; subst e; exact .inr hv.symm
  · exact h i
theorem W2.weak {N : NM} {c : SCode} {Q : SX → St → Prop} {T L : Tmps} {h : Heap} (hT : Sub L T) (hw : W2 P N c Q ⟨L, h⟩) : W2 P N c Q ⟨T, h⟩ := by
  intro code hok ctx a w S Q' hQ
  refine hw code hok ctx a w ⟨S.heap, fun i => ?_, S.size, S.defers⟩ Q' hQ
  rcases hT i with e | e
  · show VRel ctx w (lk L i) _
    rw [e]; simp [VRel]
  · show VRel ctx w (lk L i) _
    rw [e]; exact S.tmps i
def loopQ (P : Program) (N : NM) {α : Type} (env : α → Tmps) (H : α → Heap → Nat → Prop) (μ : α → Nat) (a : α) (fs : List Fr) (Q : QC) : QC := fun e T h n =>
  match e with
  | .normal => ∃ a', μ a' < μ a ∧ Sub (env a') T ∧ H a' h n
  | e => wX P N e fs n T h Q
section
variable {N : NM} {n : Nat} {T : Tmps} {h : Heap} {Q : QC} {fs : List Fr} {α : Type} {env : α → Tmps} {H : α → Heap → Nat → Prop} {μ : α → Nat} {a : α}
theorem loopQ_normal : loopQ P N env H μ a fs Q .normal T h n = ∃ a', μ a' < μ a ∧ Sub (env a') T ∧ H a' h n := rfl
theorem loopQ_exit {i : Nat} : loopQ P N env H μ a fs Q (.exit i) T h n = wX P N (.exit i) fs n T h Q := rfl
theorem loopQ_ret : loopQ P N env H μ a fs Q .ret T h n = wX P N .ret fs n T h Q := rfl
end
def wLp (P : Program) (N : NM) (b : SCode) (fs : List Fr) (n : Nat) (T : Tmps) (h : Heap) (Q : QC) : Prop := WL2 P N b (fun e B => ∃ n, ct P N fs Q e B.T B.h n) ⟨T, h⟩
def unQ (P : Program) (N : NM) (b : SCode) (fs : List Fr) (Q : QC) : QC := fun e T h n =>
  match e with
  | .normal => wLp P N b fs n T h Q
  | e => wX P N e fs n T h Q
section
variable {N : NM} {n : Nat} {T : Tmps} {h : Heap} {Q : QC} {fs : List Fr} {b : SCode}
theorem unQ_normal : unQ P N b fs Q .normal T h n = wLp P N b fs n T h Q := rfl
theorem unQ_exit {i : Nat} : unQ P N b fs Q (.exit i) T h n = wX P N (.exit i) fs n T h Q := rfl
theorem unQ_ret : unQ P N b fs Q .ret T h n = wX P N .ret fs n T h Q := rfl
end
theorem PSpec.of_wS {f : Nat} {sf : SFn} {args : List AV} {v : AV} (d n : Nat) (hok : okFn P f sf = true) (hl : Nat.ble args.length sf.n = true) (ha : noRefs args = true) (hv : noRef v = true)
    (hw : wS P ⟨sf.n, 0⟩ sf.body [] n (argT 0 args) .e fun e T h _ => (e = .normal ∨ e = .ret) ∧ ∃ vs, resV T h sf.res = some vs ∧ ∃ k, (frzH d (resOf vs)).run h = some (v, k)) : PSpec P f args v :=
  PSpec.of_W2 hok (Nat.le_of_ble_eq_true hl) ha hv ((wpC.toW hw).mono fun e B ⟨_, h1, vs, h2, k, h3⟩ => ⟨h1, vs, h2, Rn.of_frz hv fun c w u H hu => (frz_sound H d _ _ _ _ hu h3).2⟩)
theorem PSpec.of_rn {f : Nat} {sf : SFn} {args : List AV} {v : AV} (n : Nat) (hok : okFn P f sf = true) (hl : Nat.ble args.length sf.n = true) (ha : noRefs args = true) (hv : noRef v = true)
    (hw : wS P ⟨sf.n, 0⟩ sf.body [] n (argT 0 args) .e fun e T h _ => (e = .normal ∨ e = .ret) ∧ ∃ vs, resV T h sf.res = some vs ∧ Rn 0 π0 h v (resOf vs)) : PSpec P f args v :=
  PSpec.of_W2 hok (Nat.le_of_ble_eq_true hl) ha hv ((wpC.toW hw).mono fun e B ⟨_, h⟩ => h)
theorem HSpec.of_wS {f m : Nat} {sf : SFn} {args : List AV} {h h' : Heap} {v : AV} (n : Nat) (hok : okFn P f sf = true) (hl : Nat.ble args.length sf.n = true) (hm : ∀ b, m ≤ b → h.get b = none)
    (hw : wS P ⟨sf.n, m⟩ sf.body [] n (argT 0 args) h fun e T k _ => (e = .normal ∨ e = .ret) ∧ ∃ vs π, resV T k sf.res = some vs ∧ Maps m π k ∧ RH m π k h' ∧ RD m π k h' ∧ Rn m π k v (resOf vs)) : HSpec P f args h v h' :=
  HSpec.of_W2 hok (Nat.le_of_ble_eq_true hl) hm ((wpC.toW hw).mono fun e B ⟨_, h⟩ => h)
open Go.RowKit in
theorem below_of_evo2 {F : Nat → Prop} {m : Nat} {c' : Ctx} {w w' : World} (E : Evo2 m (only F) w c' w') : Go.RowKit.Below w.heap.size w w' :=
  ⟨E.os, E.tape, E.output, E.size, fun k hk => E.keep k hk (fun h => h)⟩
open Go.RowKit in
theorem law_of_W2 {f : Nat} {sf : SFn} {args : List AV} (hok : okFn P f sf = true) (hl : Nat.ble args.length sf.n = true)
    (hw : W2 P ⟨sf.n, 0⟩ sf.body (fun e B => (e = .normal ∨ e = .ret) ∧ resV B.T B.h sf.res = some [.bool true]) ⟨argT 0 args, .e⟩)
    {F : Nat → Prop} {w : World} {cargs : Array Value} (hF : ∀ k, F k → k < w.heap.size) (ha : VRels (only F) w args cargs.toList) :
    Calls P f cargs w fun e w' => e = .returned (.bool true) ∧ Below w.heap.size w w' := by
  refine (call_of_W2 (R := fun vs _ => vs = [.bool true]) hok (Nat.le_of_ble_eq_true hl) (hw.mono ?_) (HRel.only hF) ha).mono ?_
  · rintro e B ⟨h1, h2⟩
    exact ⟨h1, _, h2, rfl⟩
  · rintro e w' ⟨cv, c', vs, h', rfl, E, H, V, rfl⟩
    simp only [resOf, VRel] at V
    subst V
    exact ⟨rfl, below_of_evo2 E⟩
theorem PSpec.of_flat {f : Nat} {sf : SFn} {args : List AV} {v : AV} (n : Nat) (hok : okFn P f sf = true) (hl : Nat.ble args.length sf.n = true) (ha : noRefs args = true) (hv : noRef v = true)
    (hw : wS P ⟨sf.n, 0⟩ sf.body [] n (argT 0 args) .e fun e T h _ => (e = .normal ∨ e = .ret) ∧ ∃ vs, resV T h sf.res = some vs ∧ resOf vs = v) : PSpec P f args v :=
  PSpec.of_W2 hok (Nat.le_of_ble_eq_true hl) ha hv ((wpC.toW hw).mono fun e B ⟨_, he, vs, h1, h2⟩ => ⟨he, vs, h1, by rw [h2]; exact Rn.same hv⟩)
end Go.AM
