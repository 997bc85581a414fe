/- A part of the proof of CatalogueCellsCardSaid: lemmas on the way (AmL, AmM, AmN). Conditions: none of ours. -/
import Derived.RangeFuncLeaves
import Derived.Test.YtnjlnnbepabfcaaGreatDoorAmZ5
set_option linter.unusedSectionVars false
set_option linter.unusedSimpArgs false
set_option linter.unusedVariables false
namespace Go.AM
variable {P : Program}
inductive SRes where
  | tmp (t : Nat)
  | cell (a : Nat) (n : Option Nat)
  deriving Inhabited
structure SFn where
  n : Nat
  res : List SRes
  body : SCode
def argT : Nat → List AV → Tmps
  | _, [] => []
  | k, x :: xs => (k, x) :: argT (k + 1) xs
def resV (T : Tmps) (h : Heap) : List SRes → Option (List AV)
  | [] => some []
  | .tmp t :: r => match resV T h r with
    | some vs => some (lk T t :: vs)
    | none => none
  | .cell a n :: r => match (aLoad n (lk T a)).run h, resV T h r with
    | some (v, _), some vs => some (v :: vs)
    | _, _ => none
def resOf : List AV → AV
  | [v] => v
  | vs => .tup vs
def okRes (P : Program) : List ResultVar → List SRes → Bool
  | [], [] => true
  | .tmp t :: r, .tmp t' :: r' => t == t' && okRes P r r'
  | .cell a t :: r, .cell a' n :: r' => a == a' && rowT P t n && okRes P r r'
  | _, _ => false
def okFn (P : Program) (f : Nat) (sf : SFn) : Bool :=
  match P.funcs[f]? with
  | some fn => (match fn.body with
    | some code => okCode P fn.ntmps code sf.body && fn.ntmps == sf.n && okRes P fn.results.toList sf.res && !(fn.name == "runtime.NumGoroutine")
    | none => false)
  | none => false
theorem loadVar_sound {c : Ctx (okc P)} {w : World} {h : Heap} {t : TypeId} {n : Option Nat} {x v : AV} {cx : Value} {h' : Heap} (H : HRel c h w) (hx : VRel c w x cx) (ht : rowT P t n = true)
    (hm : (aLoad n x).run h = some (v, h')) : ∃ a cv, cx = .pointer (some a) ∧ (loadVar t a).run P w = .ok cv w ∧ VRel c w v cv := by
  cases x <;> simp only [aLoad, HM.run] at hm <;> try (cases hm; done)
  case ptr b g off =>
    obtain ⟨cs, hb, hm⟩ := run_cells hm
    simp only [VRel] at hx
    obtain ⟨cb, base, hp, rfl⟩ := hx
    obtain ⟨C, e, fr, hO, hC, hfr, hbs, hpre⟩ := H.here hb hp
    cases n with
    | none =>
      cases hv : cs[off]? with
      | none => simp [hv, HM.opt, HM.run] at hm
      | some u =>
        simp only [hv, HM.opt, HM.run, Option.some.injEq, Prod.mk.injEq] at hm
        obtain ⟨rfl, rfl⟩ := hm
        obtain ⟨cv, hcv, hr⟩ := VPre_get off hpre hv
        rw [List.getElem?_drop, Array.getElem?_toList] at hcv
        exact ⟨_, cv, rfl, by simp [loadVar, rowT_none ht, cell_of hC, hcv], hr⟩
    | some n =>
      simp only at hm
      split at hm
      · rename_i hl
        simp only [HM.run, Option.some.injEq, Prod.mk.injEq] at hm
        obtain ⟨rfl, rfl⟩ := hm
        obtain ⟨t1, t2⟩ := rowT_some ht w
        have hlen := VPre_length hpre
        simp at hlen
        refine ⟨_, .agg ((C.toList.drop (base + off)).take n).toArray, rfl, by simp [loadVar, t1, t2, run_loadCells_at (P := P) (n := n) (o := base + off) hC (by omega)], ?_⟩
        simp only [VRel]
        refine ⟨_, rfl, ?_⟩
        have := VRels_take_drop hpre off n hl
        simpa [List.drop_drop] using this
      · simp [HM.run] at hm
  case fptr cs =>
    simp only [VRel] at hx
    obtain ⟨cb, off, C, e, fr, rfl, hF, hC, hpre⟩ := hx
    cases n with
    | none =>
      cases cs with
      | nil => simp [HM.opt, HM.run] at hm
      | cons u cs =>
        simp only [HM.opt, List.head?_cons, HM.run, Option.some.injEq, Prod.mk.injEq] at hm
        obtain ⟨rfl, rfl⟩ := hm
        obtain ⟨cv, hcv, hr⟩ := VPre_get 0 hpre (x := u) rfl
        rw [List.getElem?_drop, Array.getElem?_toList] at hcv
        exact ⟨_, cv, rfl, by simp [loadVar, rowT_none ht, cell_of hC]; simpa using hcv ▸ rfl, hr⟩
    | some n =>
      simp only at hm
      split at hm
      · rename_i hl
        simp only [HM.run, Option.some.injEq, Prod.mk.injEq] at hm
        obtain ⟨rfl, rfl⟩ := hm
        obtain ⟨t1, t2⟩ := rowT_some ht w
        have hlen := VPre_length hpre
        simp at hlen
        refine ⟨_, .agg ((C.toList.drop off).take n).toArray, rfl, by simp [loadVar, t1, t2, run_loadCells_at (P := P) (n := n) (o := off) hC (by omega)], ?_⟩
        simp only [VRel]
        refine ⟨_, rfl, ?_⟩
        have := VRels_take_drop hpre 0 n (by simpa using hl)
        simpa using this
      · simp [HM.run] at hm
def resM (tmps : Array Value) : ResultVar → Sem Value
  | .tmp t => pure (tmps.getD t undef)
  | .cell a t => do loadVar t (← asAddr (tmps.getD a undef))
theorem resV_sound {c : Ctx (okc P)} {w : World} {T : Tmps} {h : Heap} {a : Act} (H : HRel c h w) (hT : TRel c w T a) : ∀ {rs : List ResultVar} {ss : List SRes} {vs : List AV}, okRes P rs ss = true → resV T h ss = some vs →
    ∃ cvs, (rs.mapM (resM a.tmps)).run P w = .ok cvs w ∧ VRels c w vs cvs
  | [], [], vs, _, hr => by
    simp only [resV, Option.some.injEq] at hr; subst hr
    exact ⟨[], by simp [List.mapM_nil], by simp [VRels]⟩
  | [], _ :: _, _, ho, _ => by simp [okRes] at ho
  | .tmp t :: rs, [], _, ho, _ => by simp [okRes] at ho
  | .cell a t :: rs, [], _, ho, _ => by simp [okRes] at ho
  | .tmp t :: rs, .cell _ _ :: ss, _, ho, _ => by simp [okRes] at ho
  | .cell a t :: rs, .tmp _ :: ss, _, ho, _ => by simp [okRes] at ho
  | .tmp t :: rs, .tmp t' :: ss, vs, ho, hr => by
    simp only [okRes, Bool.and_eq_true, beq_iff_eq] at ho
    obtain ⟨rfl, ho⟩ := ho
    simp only [resV] at hr
    split at hr
    · rename_i us hu
      cases hr
      obtain ⟨cvs, h1, h2⟩ := resV_sound H hT ho hu
      exact ⟨a.tmps.getD t undef :: cvs, by simp [List.mapM_cons, resM, h1], by simp only [VRels]; exact ⟨_, _, rfl, hT t, h2⟩⟩
    · cases hr
  | .cell p t :: rs, .cell p' n :: ss, vs, ho, hr => by
    simp only [okRes, Bool.and_eq_true, beq_iff_eq] at ho
    obtain ⟨⟨rfl, ht⟩, ho⟩ := ho
    simp only [resV] at hr
    split at hr
    · rename_i v h' us hl hu
      cases hr
      obtain ⟨cvs, h1, h2⟩ := resV_sound H hT ho hu
      obtain ⟨ad, cv, e, k1, k2⟩ := loadVar_sound H (hT p) ht hl
      exact ⟨cv :: cvs, by simp [List.mapM_cons, resM, h1, e, asAddr, k1], by simp only [VRels]; exact ⟨_, _, rfl, k2, h2⟩⟩
    · cases hr
theorem results_sound {c : Ctx (okc P)} {w : World} {T : Tmps} {h : Heap} {a : Act} (H : HRel c h w) (hT : TRel c w T a) {fn : Func} {ss : List SRes} {vs : List AV} (ho : okRes P fn.results.toList ss = true) (hr : resV T h ss = some vs) :
    ∃ cv, (results fn a.tmps).run P w = .ok cv w ∧ VRel c w (resOf vs) cv := by
  obtain ⟨cvs, h1, h2⟩ := resV_sound H hT ho hr
  have e : results fn a.tmps = (fn.results.toList.mapM (resM a.tmps)) >>= fun vs => pure (if h : vs.toArray.size = 1 then vs.toArray[0] else Value.tuple vs.toArray) := by
    unfold results
    rw [Array.mapM_eq_mapM_toList]
    simp only [bind_map_left]
    rfl
  rw [e]
  refine ⟨_, by simp only [Sem.run_bind, h1, Result.andThen_ok, Sem.run_pure]; rfl, ?_⟩
  match vs, h2 with
  | [], h2 => simp only [VRels] at h2; subst h2; simp [resOf, VRel, VRels]
  | [v], h2 =>
    simp only [VRels] at h2
    obtain ⟨cv, _, rfl, h3, rfl⟩ := h2
    simpa [resOf] using h3
  | v :: u :: vs, h2 =>
    have h2' := h2
    simp only [VRels] at h2'
    obtain ⟨cv, _, rfl, _, cu, _, rfl, _⟩ := h2'
    simp only [resOf]
    rw [dif_neg (by simp)]
    simp only [VRel]
    exact ⟨_, rfl, h2⟩
theorem argT_rel {c : Ctx (okc P)} {w : World} : ∀ (xs : List AV) (vs : List Value) (k : Nat) (us : List Value) (i : Nat), VRels c w xs vs → us.length = k →
    VRel c w (lk (argT k xs) i) ((us ++ vs).getD i undef)
  | [], vs, k, us, i, _, _ => by simp [argT, lk, VRel]
  | x :: xs, vs, k, us, i, h, hk => by
    simp only [VRels] at h
    obtain ⟨v, vs', rfl, h1, h2⟩ := h
    simp only [argT, lk]
    by_cases e : k = i
    · subst e
      have : Nat.beq k k = true := by simp
      rw [this]
      simpa [List.getD_eq_getElem?_getD, hk] using h1
    · have : Nat.beq k i = false := by rw [Bool.eq_false_iff]; simpa using e
      rw [this]
      have := argT_rel xs vs' (k + 1) (us ++ [v]) i h2 (by simp [hk])
      simpa using this
theorem argT_any : ∀ (xs : List AV) (k i : Nat), k + xs.length ≤ i → lk (argT k xs) i = .any
  | [], _, _, _ => rfl
  | x :: xs, k, i, h => by
    simp only [List.length_cons] at h
    simp only [argT, lk]
    have : Nat.beq k i = false := by rw [Bool.eq_false_iff]; simp; omega
    rw [this]
    exact argT_any xs (k + 1) i (by omega)
theorem okFn_spec {f : Nat} {sf : SFn} (h : okFn P f sf = true) : ∃ fn code, P.funcs[f]? = some fn ∧ fn.body = some code ∧ okCode P sf.n code sf.body = true ∧ fn.ntmps = sf.n ∧ okRes P fn.results.toList sf.res = true ∧ Callable P f := by
  unfold okFn at h
  split at h
  · rename_i fn hf
    split at h
    · rename_i code hc
      simp only [Bool.and_eq_true, beq_iff_eq, Bool.not_eq_true'] at h
      obtain ⟨⟨⟨h1, h2⟩, h3⟩, h4⟩ := h
      exact ⟨fn, code, hf, hc, h2 ▸ h1, h2, h3, fn, hf, by simp [hc], h4⟩
    · cases h
  · cases h
abbrev Ctx.rb {ok : Okc} (c : Ctx ok) (n : Nat) : Ctx ok := { c with base := n }
theorem Ext.base {ok : Okc} (c : Ctx ok) (w : World) (n : Nat) : Ext c w (c.rb n) w :=
  ⟨fun _ _ _ h => h, fun _ h => h, fun _ _ _ h => h, fun _ C _ fr h => ⟨C, fr, h, rfl⟩⟩
theorem HRel.rebase {ok : Okc} {c : Ctx ok} {h : Heap} {w : World} (H : HRel c h w) (n : Nat) : HRel (c.rb n) h w :=
  ⟨H.fresh, H.later, fun b x hx => BRel.mono (c := c) (c' := (c.rb n)) (Ext.base c w n) (fun cb base hd hp => ⟨H.owned ⟨x, hx, rfl, hd⟩ hp, rfl⟩) (H.blk b x hx), H.inj, H.disj, H.inF, H.inO⟩
theorem VRel.rebase {ok : Okc} {c : Ctx ok} {w : World} {x : AV} {v : Value} (n : Nat) (h : VRel c w x v) : VRel (c.rb n) w x v := VRel.mono (Ext.base c w n) _ _ h
theorem VRels.rebase {ok : Okc} {c : Ctx ok} {w : World} {x : List AV} {v : List Value} (n : Nat) (h : VRels c w x v) : VRels (c.rb n) w x v := VRels.mono (Ext.base c w n) _ _ h
theorem Evo.rebase {ok : Okc} {c c' : Ctx ok} {w w' : World} {n : Nat} (E : Evo (c.rb n) w c' w') : Evo c w (c'.rb (c.base)) w' :=
  ⟨E.os, E.tape, E.output, E.size, E.shape, E.keep, E.rho, E.frz, E.frzNew, E.own, rfl⟩
theorem HRel.mark {ok : Okc} {c : Ctx ok} {h : Heap} {w : World} (H : HRel c h w) {D : Nat} {o : Obj} (hO : ¬ c.O D) (hF : ¬ c.F D) (hD : w.heap[D]? = some (.deferred (some []))) :
    HRel c h (w.putObj D o) ∧ Ext c w c (w.putObj D o) := by
  have other : ∀ k, k ≠ D → (w.putObj D o).heap[k]? = w.heap[k]? := fun k hk => World.putObj_heap_other hk
  have E : Ext c w c (w.putObj D o) := by
    refine ⟨fun _ _ _ h => h, fun _ h => h, fun cb ob hf hc => ?_, fun cb C e fr hc => ⟨C, fr, ?_, rfl⟩⟩
    · rw [other cb (fun e => hF (e ▸ hf))]; exact hc
    · rw [other cb (fun e => by subst e; rw [hD] at hc; cases hc)]; exact hc
  refine ⟨⟨H.fresh, H.later, fun b x hx => BRel.mono E (fun cb base hd hp => ?_) (H.blk b x hx), H.inj, H.disj, fun k hk => by rw [World.putObj_size]; exact H.inF k hk, fun k hk => by rw [World.putObj_size]; exact H.inO k hk⟩, E⟩
  have hO' := H.owned ⟨x, hx, rfl, hd⟩ hp
  exact ⟨hO', other cb (fun e => hO (e ▸ hO'))⟩
theorem marks_out {c0 : Ctx (okc P)} {w0 : World} {fn : Func} {a : Act} {T : Tmps} {h : Heap} {c : Ctx (okc P)} {R : Ending → World → Prop} (hb : w0.heap.size ≤ c.base)
    (fin : ∀ w, HRel c h w → TRel c w T a → Evo c0 w0 c w → ∃ v, (results fn a.tmps).run P w = .ok v w ∧ R (.returned v) w) :
    ∀ (ds : List Deferred) (w : World), Marks c w ds → HRel c h w → TRel c w T a → Evo c0 w0 c w → LeavesInM Fence.wide 0 P fn a.tmps R ds .returning w
  | [], w, _, H, ht, E => fin w H ht E
  | d :: ds, w, ⟨⟨D, h1, h2, h3, h4, h5, h6⟩, hr⟩, H, ht, E => by
    obtain ⟨H', X⟩ := H.mark (o := .deferred none) h3 h4 h5
    have other : ∀ k, k ≠ D → (w.putObj D (.deferred none)).heap[k]? = w.heap[k]? := fun k hk => World.putObj_heap_other hk
    refine ⟨by simp, .inl ⟨D, w.putObj D (.deferred none), by rw [h1], run_takeDeferred h5, ?_⟩⟩
    refine marks_out hb fin ds _ ?_ H' (fun i => VRel.mono X _ _ (ht i)) ?_
    · clear fin
      induction ds with
      | nil => show c.base ≤ _; rw [World.putObj_size]; exact hr
      | cons d2 ds ih =>
        obtain ⟨⟨D2, k1, k2, k3, k4, k5, k6⟩, kr⟩ := hr
        refine ⟨⟨D2, k1, k2, k3, k4, ?_, k6⟩, ih (fun d' hd' => h6 d' (List.mem_cons_of_mem _ hd')) kr⟩
        rw [other D2 (fun e => ?_)]
        · exact k5
        · have := h6 d2 (List.mem_cons_self ..)
          rw [k1, e] at this; exact this rfl
    · refine ⟨E.os, E.tape, E.output, by rw [World.putObj_size]; exact E.size, fun cb C e fr hc => ?_, fun cb hlt hO => ?_, E.rho, E.frz, E.frzNew, E.own, E.base⟩
      · obtain ⟨C', fr', g1, g2⟩ := E.shape cb C e fr hc
        exact ⟨C', fr', by rw [other cb (fun e => by subst e; rw [h5] at g1; cases g1)]; exact g1, g2⟩
      · rw [other cb (by omega)]; exact E.keep cb hlt hO
theorem call_of_W {f : Nat} {sf : SFn} {args : List AV} {h : Heap} {R : List AV → Heap → Prop} (hok : okFn P f sf = true) (hl : args.length ≤ sf.n)
    (hw : W P sf.n sf.body (fun e B => (e = .normal ∨ e = .ret) ∧ ∃ vs, resV B.T B.h sf.res = some vs ∧ R vs B.h) ⟨argT 0 args, h⟩)
    {c : Ctx (okc P)} {w : World} {cargs : Array Value} (H : HRel c h w) (ha : VRels c w args cargs.toList) :
    Calls P f cargs w fun e w' => ∃ cv c' vs h', e = .returned cv ∧ Evo c w c' w' ∧ HRel c' h' w' ∧ VRel c' w' (resOf vs) cv ∧ R vs h' := by
  obtain ⟨fn, code, hf, hb, hc, hn, hr, _⟩ := okFn_spec hok
  have hlen := VRels_length ha
  have hlen : args.length = cargs.size := by simpa using hlen
  refine (callsIn_wide (n := 0)).1 (callsIn_of_wp_marks hf hb trivial ?_)
  refine hw code hc (c.rb (w.heap.size)) _ w ⟨H.rebase _, ?_, ?_, Nat.le_refl _⟩ none (fun _ => rfl) _ ?_
  · intro i
    refine VRel.rebase _ ?_
    by_cases hi : i < args.length
    · have := argT_rel args cargs.toList 0 [] i ha rfl
      simp only [List.nil_append] at this
      have e : (cargs ++ Array.replicate (fn.ntmps - cargs.size) undef).getD i undef = cargs.toList.getD i undef := by
        rw [Array.getD_eq_getD_getElem?, Array.getElem?_append_left (by omega)]
        simp [List.getD_eq_getElem?_getD]
      rw [e]; exact this
    · rw [argT_any args 0 i (by omega)]; simp [VRel]
  · simp; omega
  · intro e B c' a' w' hq S' E'
    obtain ⟨he, vs, hvs, hR⟩ := hq
    have out : LeavesInM Fence.wide 0 P fn a'.tmps (fun e w' => ∃ cv c' vs h', e = .returned cv ∧ Evo c w c' w' ∧ HRel c' h' w' ∧ VRel c' w' (resOf vs) cv ∧ R vs h') a'.defers .returning w' := by
      refine marks_out (c0 := (c.rb (w.heap.size))) (w0 := w) (T := B.T) (h := B.h) (c := c') (by rw [E'.base]; exact Nat.le_refl _) ?_ a'.defers w' S'.defers S'.heap S'.tmps E'
      intro w2 H2 ht2 E2
      obtain ⟨cv, k1, k2⟩ := results_sound H2 ht2 hr hvs
      exact ⟨cv, k1, cv, (c'.rb (c.base)), vs, B.h, rfl, E2.rebase, H2.rebase _, k2.rebase _, hR⟩
    rcases he with rfl | rfl
    · exact out
    · exact out
theorem HSpec.of_W {f : Nat} {sf : SFn} {args : List AV} {h : Heap} {v : AV} {h' : Heap} (hok : okFn P f sf = true) (hl : args.length ≤ sf.n)
    (hw : W P sf.n sf.body (fun e B => (e = .normal ∨ e = .ret) ∧ ∃ vs, resV B.T B.h sf.res = some vs ∧ resOf vs = v ∧ ∀ b, B.h.get b = h'.get b) ⟨argT 0 args, h⟩) : HSpec P f args h v h' := by
  obtain ⟨_, _, _, _, _, _, _, hc⟩ := okFn_spec hok
  refine ⟨hc, fun c w cargs H ha => (call_of_W (R := fun vs k => resOf vs = v ∧ ∀ b, k.get b = h'.get b) hok hl hw H ha).mono ?_⟩
  rintro e w' ⟨cv, c', vs, k, rfl, E, H', V, rfl, hk⟩
  exact ⟨cv, c', rfl, E, HRel_congr hk H', V⟩
theorem PSpec.of_W {f : Nat} {sf : SFn} {args : List AV} {v : AV} (d : Nat) (hok : okFn P f sf = true) (hl : args.length ≤ sf.n) (ha : noRefs args = true) (hv : noRef v = true)
    (hw : W P sf.n sf.body (fun e B => (e = .normal ∨ e = .ret) ∧ ∃ vs, resV B.T B.h sf.res = some vs ∧ ∃ k, (frzH d (resOf vs)).run B.h = some (v, k)) ⟨argT 0 args, .e⟩) : PSpec P f args v := by
  obtain ⟨_, _, _, _, _, _, _, hc⟩ := okFn_spec hok
  refine ⟨ha, hv, .e, hc, fun c w cargs H ha => (call_of_W (R := fun vs k => ∃ k', (frzH d (resOf vs)).run k = some (v, k')) hok hl hw H ha).mono ?_⟩
  rintro e w' ⟨cv, c', vs, k, rfl, E, H', V, k', hk⟩
  obtain ⟨_, V'⟩ := frz_sound H' d _ _ _ _ V hk
  have hF : ∀ b, c'.F b ∨ c'.O b → b < w'.heap.size := fun b hb => hb.elim (H'.inF b) (H'.inO b)
  refine ⟨cv, only (fun b => c'.F b ∨ c'.O b) c.base, rfl, ?_, HRel.only hF, VRel.noRef (c := lent c') (c' := only (fun b => c'.F b ∨ c'.O b) c.base) (fun _ h => h) _ _ hv V'⟩
  refine ⟨E.os, E.tape, E.output, E.size, E.shape, E.keep, fun b g p hp => ?_, fun b hb => .inl (E.frz b hb), fun b hb => ?_, fun b hb => hb.elim, rfl⟩
  · rw [H.fresh b rfl g] at hp; cases hp
  · rcases hb with hb | hb
    · exact E.frzNew b hb
    · rcases E.own b hb with h1 | h1
      · exact .inr (.inl h1)
      · exact .inr (.inr h1)
end Go.AM
set_option linter.unusedSimpArgs false
set_option linter.unusedVariables false
namespace Go.AM
variable {P : Program}
abbrev Ke := Tmps → Heap → Nat → Bool
def force (v : AV) (k : AV → Bool) : Bool :=
  match v with
  | .int t n => (match n with | .ofNat m => k (.int t (.ofNat m)) | .negSucc m => k (.int t (.negSucc m)))
  | .bool true => k (.bool true)
  | .bool false => k (.bool false)
  | .any => k .any
  | .str s => k (.str s)
  | .agg cs => k (.agg cs)
  | .tup cs => k (.tup cs)
  | .nilptr => k .nilptr
  | .ptr b g o => k (.ptr b g o)
  | .fptr cs => k (.fptr cs)
  | .nilsl => k .nilsl
  | .sl b g o l s => k (.sl b g o l s)
  | .fsl cs l s => k (.fsl cs l s)
  | .esl => k .esl
  | .nsl => k .nsl
  | .nilmap => k .nilmap
  | .map b g => k (.map b g)
  | .fmap x y => k (.fmap x y)
  | .nilfn => k .nilfn
  | .fn f x y => k (.fn f x y)
  | .yld b g => k (.yld b g)
  | .nilif => k .nilif
  | .ifc t v => k (.ifc t v)
theorem force_eq (v : AV) (k : AV → Bool) : force v k = k v := by
  unfold force
  split <;> (try split) <;> rfl
def upK : Tmps → Nat → AV → (Tmps → Bool) → Bool
  | [], i, v, k => k [(i, v)]
  | (j, u) :: r, i, v, k => bif Nat.beq j i then k ((j, v) :: r) else upK r i v fun r' => k ((j, u) :: r')
theorem upK_eq : ∀ (T : Tmps) (i : Nat) (v : AV) (k : Tmps → Bool), upK T i v k = k (up T i v)
  | [], _, _, _ => rfl
  | (j, u) :: r, i, v, k => by
    simp only [upK, up]
    cases Nat.beq j i with
    | true => rfl
    | false => simp [upK_eq r]
def rmK : Tmps → List Nat → (Tmps → Bool) → Bool
  | [], _, k => k []
  | (j, u) :: r, l, k => bif l.any (Nat.beq j) then rmK r l k else rmK r l fun r' => k ((j, u) :: r')
theorem rmK_eq : ∀ (T : Tmps) (l : List Nat) (k : Tmps → Bool), rmK T l k = k (rm T l)
  | [], _, _ => rfl
  | (j, u) :: r, l, k => by
    simp only [rmK, rm]
    cases l.any (Nat.beq j) with
    | true => simp [rmK_eq r]
    | false => simp [rmK_eq r]
def putK (T : Tmps) (dst : Option Nat) (v : AV) (k : Tmps → Bool) : Bool :=
  match dst with
  | some d => force v fun v => upK T d v k
  | none => k T
theorem putK_eq (T : Tmps) (dst : Option Nat) (v : AV) (k : Tmps → Bool) : putK T dst v k = k (putD T dst v) := by
  unfold putK putD
  cases dst with
  | none => rfl
  | some d => simp [force_eq, upK_eq]
def Tr.setK {α : Type} : Nat → Tr α → Nat → α → (Tr α → Bool) → Bool
  | 0, t, _, _, k => k t
  | f + 1, t, b, x, k =>
    match t with
    | .e => bif Nat.beq b 0 then k (.n .e (some x) .e) else bif Nat.beq (b % 2) 1 then Tr.setK f .e (b / 2) x fun l => k (.n l none .e) else Tr.setK f .e (b / 2 - 1) x fun r => k (.n .e none r)
    | .n l v r => bif Nat.beq b 0 then k (.n l (some x) r) else bif Nat.beq (b % 2) 1 then Tr.setK f l (b / 2) x fun l => k (.n l v r) else Tr.setK f r (b / 2 - 1) x fun r => k (.n l v r)
theorem Tr.setK_eq {α : Type} : ∀ (f : Nat) (t : Tr α) (b : Nat) (x : α) (k : Tr α → Bool), Tr.setK f t b x k = k (Tr.setF f t b x)
  | 0, _, _, _, _ => rfl
  | f + 1, t, b, x, k => by
    cases t <;> simp only [Tr.setK, Tr.setF] <;> cases Nat.beq b 0 <;> cases Nat.beq (b % 2) 1 <;> simp [Tr.setK_eq f]
def forceL : List AV → (List AV → Bool) → Bool
  | [], k => k []
  | x :: r, k => force x fun x => forceL r fun r => k (x :: r)
theorem forceL_eq : ∀ (l : List AV) (k : List AV → Bool), forceL l k = k l
  | [], _ => rfl
  | x :: r, k => by simp [forceL, force_eq, forceL_eq r]
def force2 (v : AV) (k : AV → Bool) : Bool :=
  match v with
  | .agg cs => forceL cs fun cs => k (.agg cs)
  | .tup cs => forceL cs fun cs => k (.tup cs)
  | .fn f x y => forceL x fun x => forceL y fun y => k (.fn f x y)
  | v => force v k
theorem force2_eq (v : AV) (k : AV → Bool) : force2 v k = k v := by
  unfold force2
  split <;> simp [force_eq, forceL_eq]
def forceB (x : Blk) (k : Blk → Bool) : Bool :=
  match x with
  | .cells g cs => forceL cs fun cs => k (.cells g cs)
  | x => k x
theorem forceB_eq (x : Blk) (k : Blk → Bool) : forceB x k = k x := by
  unfold forceB
  split <;> simp [forceL_eq]
def HM.runK {α : Type} : HM α → Heap → (α → Heap → Bool) → Bool
  | .ret a, h, k => k a h
  | .fail, _, _ => false
  | .look b m, h, k => (m (h.get b)).runK h k
  | .put b x m, h, k => bif Nat.blt b lim then forceB x fun x => Tr.setK 40 h b x fun h => m.runK h k else false
theorem HM.runK_eq {α : Type} (m : HM α) : ∀ (h : Heap) (k : α → Heap → Bool), m.runK h k = match m.run h with | some (a, h') => k a h' | none => false := by
  induction m with
  | ret a => intro h k; rfl
  | fail => intro h k; rfl
  | look b m ih => intro h k; simp only [HM.runK, HM.run, ih]
  | put b x m ih =>
    intro h k
    simp only [HM.runK, HM.run, forceB_eq, Tr.setK_eq]
    cases Nat.blt b lim with
    | true => simp only [cond_true, ih]; rfl
    | false => rfl
def RunF (P : Program) (base : Nat) : Nat → List SOper → List FP → St → St → Prop
  | _, [], fs, A, C => fs = [] ∧ A = C
  | i, s :: r, fs, A, C => ∃ f fs' v h1, fs = f :: fs' ∧ StepV P (base + i) s A.T A.h v h1 f ∧ RunF P base (i + 1) r fs' ⟨putD A.T s.dst v, h1⟩ C
theorem RunF.to_L {base : Nat} {sops : List SOper} : ∀ (r pre : List SOper) (fs fpre : List FP) (A C : St), sops = pre ++ r → fpre.length = pre.length → RunF P base pre.length r fs A C →
    RunL P base sops (fun i => (fpre ++ fs).getD i ⟨false, [], []⟩) (List.range' pre.length r.length) A C
  | [], pre, fs, fpre, A, C, hs, hl, h => by
    obtain ⟨rfl, rfl⟩ := h
    simp [RunL]
  | s :: r, pre, fs, fpre, A, C, hs, hl, h => by
    obtain ⟨f, fs', v, h1, rfl, hv, hr⟩ := h
    rw [List.length_cons, List.range'_succ]
    refine ⟨⟨putD A.T s.dst v, h1⟩, ⟨s, v, h1, by rw [hs]; simp, ?_, rfl⟩, ?_⟩
    · have : (fpre ++ f :: fs').getD pre.length ⟨false, [], []⟩ = f := by rw [← hl]; simp
      show StepV P (base + pre.length) s A.T A.h v h1 ((fpre ++ f :: fs').getD pre.length ⟨false, [], []⟩)
      rw [this]; exact hv
    · have := RunF.to_L (sops := sops) r (pre ++ [s]) fs' (fpre ++ [f]) _ C (by simp [hs]) (by simp [hl]) (by simpa using hr)
      simpa using this
theorem W.regionF {N : Nat} {Q : SX → St → Prop} {A C : St} {sops : List SOper} {pairs : List (Nat × Nat)} {dead : List Nat} (base : Nat) (fs : List FP) (hr : RunF P base 0 sops fs A C)
    (hp : (pairs.all fun p => (fs.getD p.1 ⟨false, [], []⟩).apart (fs.getD p.2 ⟨false, [], []⟩)) = true) (hQ : Q .normal ⟨rm C.T dead, C.h⟩) : W P N (.region sops pairs dead) Q A := by
  have h1 := RunF.to_L (P := P) (base := base) (sops := sops) sops [] fs [] A C (by simp) rfl hr
  refine W.region base _ (by simpa [List.range_eq_range'] using h1) ?_ hQ
  intro p hpm
  exact List.all_eq_true.1 hp p hpm
abbrev Kv := AV → Heap → Nat → Bool
abbrev Caller := CallM → Nat → List AV → Heap → Nat → Kv → Bool
def opX (call : Caller) (fp : Bool) (i : Nat) (s : SOp) (T : Tmps) (h : Heap) (n : Nat) (k : AV → Heap → Nat → FP → Bool) : Bool :=
  (aop i T s).runK h fun out h2 =>
    match out with
    | .val v => k v h2 n (bif fp then fpOf ((aop i T s).fp h) else ⟨false, [], []⟩)
    | .call .heap f args => call .heap f args h2 n fun v h1 n => k v h1 n ⟨true, [], []⟩
    | .call .pure f args => call .pure f args h2 n fun v _ n => k v h2 n (bif fp then fpOf ((aop i T s).fp h) else ⟨false, [], []⟩)
    | .call .borrow f args => call .borrow f args h2 n fun v _ n => bif flatV v then k v h2 n (bif fp then fpOf ((aop i T s).fp h) else ⟨false, [], []⟩) else false
    | .round _ _ _ => false
def operX (call : Caller) (fp : Bool) (i : Nat) (s : SOper) (T : Tmps) (h : Heap) (n : Nat) (k : AV → Heap → Nat → FP → Bool) : Bool :=
  match s.guard with
  | none => opX call fp i s.op T h n k
  | some (g, want) => match wantedA (lk T g) want with
    | some true => opX call fp i s.op T h n k
    | some false => k (.tup []) h n ⟨false, [], []⟩
    | none => false
def opsX (call : Caller) (fp : Bool) (base : Nat) : Nat → List SOper → Tmps → Heap → Nat → (Tmps → Heap → Nat → List FP → Bool) → Bool
  | _, [], T, h, n, k => k T h n []
  | i, s :: r, T, h, n, k => operX call fp (base + i) s T h n fun v h n f => putK T s.dst v fun T => opsX call fp base (i + 1) r T h n fun T h n fs => k T h n (bif fp then f :: fs else fs)
def opsY (call : Caller) (base : Nat) : Nat → List SOper → Tmps → Heap → Nat → Ke → Bool
  | _, [], T, h, n, k => k T h n
  | i, s :: r, T, h, n, k => operX call false (base + i) s T h n fun v h n f => putK T s.dst v fun T => opsY call base (i + 1) r T h n k
abbrev Kc := SX → Tmps → Heap → Nat → Bool
def argK : Nat → List AV → (Tmps → Bool) → Bool
  | _, [], k => k []
  | i, x :: r, k => force2 x fun x => argK (i + 1) r fun r => k ((i, x) :: r)
theorem argK_eq : ∀ (i : Nat) (l : List AV) (k : Tmps → Bool), argK i l k = k (argT i l)
  | _, [], _ => rfl
  | i, x :: r, k => by simp [argK, argT, force2_eq, argK_eq (i + 1) r]
def callX (fns : Nat → Option SFn) (run : SCode → Tmps → Heap → Nat → Kc → Bool) : Caller := fun m f args h n k =>
  match fns f with
  | none => false
  | some sf => bif Nat.ble args.length sf.n then
      (match m with
      | .heap => argK 0 args fun T => run sf.body T h n fun e T h n =>
        match e with
        | .exit _ => false
        | _ => match resV T h sf.res with
          | some vs => force2 (resOf vs) fun v => k v h n
          | none => false
      | _ => bif noRefs args then (argK 0 args fun T => run sf.body T .e 64 fun e T h' _ =>
        match e with
        | .exit _ => false
        | _ => match resV T h' sf.res with
          | some vs => (frzH 6 (resOf vs)).runK h' fun v _ => bif noRef v then force2 v fun v => k v h n else false
          | none => false) else false) else false
def ex (fns : Nat → Option SFn) : Nat → SCode → Tmps → Heap → Nat → Kc → Bool
  | 0, _, _, _, _, _ => false
  | d + 1, c, T, h, n, k =>
    match c with
    | .skip => k .normal T h n
    | .ret => k .ret T h n
    | .exit i => k (.exit i) T h n
    | .mloop .. => false
    | .rfunc .. => false
    | .bad => false
    | .region ops [] dead => opsY (callX fns (ex fns d)) n 0 ops T h (n + ops.length) fun T h n => rmK T dead fun T => k .normal T h n
    | .region ops pairs dead => opsX (callX fns (ex fns d)) true n 0 ops T h (n + ops.length) fun T h n fs =>
        bif pairs.all fun p => (fs.getD p.1 ⟨false, [], []⟩).apart (fs.getD p.2 ⟨false, [], []⟩) then rmK T dead fun T => k .normal T h n else false
    | .seq a b => ex fns d a T h n fun e T h n => match e with
      | .normal => ex fns d b T h n k
      | e => k e T h n
    | .cond x a b => match ev T x with
      | .bool true => ex fns d a T h n k
      | .bool false => ex fns d b T h n k
      | _ => false
    | .block i b => ex fns d b T h n fun e T h n => match e with
      | .exit j => bif Nat.beq j i then k .normal T h n else k (.exit j) T h n
      | e => k e T h n
    | .loop b => ex fns d b T h n fun e T h n => match e with
      | .normal => ex fns d (.loop b) T h n k
      | e => k e T h n
end Go.AM
set_option linter.unusedSimpArgs false
set_option linter.unusedVariables false
namespace Go.AM
variable {P : Program}
def CallOK (P : Program) (call : Caller) : Prop := ∀ (m : CallM) (f : Nat) (args : List AV) (h : Heap) (n : Nat) (k : Kv), call m f args h n k = true →
  ∃ v h' n', k v h' n' = true ∧ (m = .heap → HSpec P f args h v h') ∧ (m ≠ .heap → PSpec P f args v)
theorem opX_sound {call : Caller} (hc : CallOK P call) {fp : Bool} {i : Nat} {s : SOp} {T : Tmps} {h : Heap} {n : Nat} {k : AV → Heap → Nat → FP → Bool} (hx : opX call fp i s T h n k = true) :
    ∃ v h1 n' f f', k v h1 n' f = true ∧ StepX P i s T h v h1 f' ∧ (fp = true → f = f') := by
  unfold opX at hx
  rw [HM.runK_eq] at hx
  split at hx
  · rename_i out h2 hr
    cases out with
    | val v => exact ⟨v, h2, n, _, _, hx, ⟨_, h2, hr, rfl, rfl, rfl⟩, fun e => by rw [e]; rfl⟩
    | call m f args =>
      cases m with
      | heap =>
        obtain ⟨v, h1, n', hk, hs, _⟩ := hc _ _ _ _ _ _ hx
        exact ⟨v, h1, n', _, _, hk, ⟨_, h2, hr, hs rfl, rfl⟩, fun _ => rfl⟩
      | pure =>
        obtain ⟨v, h1, n', hk, _, hs⟩ := hc _ _ _ _ _ _ hx
        exact ⟨v, h2, n', _, _, hk, ⟨_, h2, hr, hs (by simp), rfl, rfl⟩, fun e => by rw [e]; rfl⟩
      | borrow =>
        obtain ⟨v, h1, n', hk, _, hs⟩ := hc _ _ _ _ _ _ hx
        cases hv : flatV v with
        | false => rw [hv] at hk; cases hk
        | true =>
          rw [hv] at hk
          exact ⟨v, h2, n', _, _, hk, ⟨_, h2, hr, hs (by simp), hv, rfl, rfl⟩, fun e => by rw [e]; rfl⟩
    | round b g args => cases hx
  · cases hx
theorem operX_sound {call : Caller} (hc : CallOK P call) {fp : Bool} {i : Nat} {s : SOper} {T : Tmps} {h : Heap} {n : Nat} {k : AV → Heap → Nat → FP → Bool} (hx : operX call fp i s T h n k = true) :
    ∃ v h1 n' f f', k v h1 n' f = true ∧ StepV P i s T h v h1 f' ∧ (fp = true → f = f') := by
  unfold operX at hx
  unfold StepV
  cases hg : s.guard with
  | none => rw [hg] at hx; exact opX_sound hc hx
  | some p =>
    obtain ⟨g, want⟩ := p
    rw [hg] at hx
    simp only at hx ⊢
    cases hw : wantedA (lk T g) want with
    | none => rw [hw] at hx; cases hx
    | some b =>
      rw [hw] at hx
      cases b with
      | true =>
        obtain ⟨v, h1, n', f, f', h2, h3, h4⟩ := opX_sound hc hx
        exact ⟨v, h1, n', f, f', h2, ⟨true, rfl, by simpa using h3⟩, h4⟩
      | false => exact ⟨.tup [], h, n, _, ⟨false, [], []⟩, hx, ⟨false, rfl, by simp⟩, fun _ => rfl⟩
theorem opsX_sound {call : Caller} (hc : CallOK P call) {base : Nat} : ∀ (r : List SOper) (i : Nat) (T : Tmps) (h : Heap) (n : Nat) (k : Tmps → Heap → Nat → List FP → Bool), opsX call true base i r T h n k = true →
    ∃ T' h' n' fs, k T' h' n' fs = true ∧ RunF P base i r fs ⟨T, h⟩ ⟨T', h'⟩
  | [], i, T, h, n, k, hx => ⟨T, h, n, [], hx, rfl, rfl⟩
  | s :: r, i, T, h, n, k, hx => by
    simp only [opsX] at hx
    obtain ⟨v, h1, n', f, f', hk, hs, hf⟩ := operX_sound hc hx
    rw [putK_eq] at hk
    obtain ⟨T', h', n2, fs, hk2, hr⟩ := opsX_sound hc r _ _ _ _ _ hk
    have := hf rfl
    subst this
    exact ⟨T', h', n2, f :: fs, hk2, f, fs, v, h1, rfl, hs, hr⟩
theorem opsY_sound {call : Caller} (hc : CallOK P call) {base : Nat} : ∀ (r : List SOper) (i : Nat) (T : Tmps) (h : Heap) (n : Nat) (k : Ke), opsY call base i r T h n k = true →
    ∃ T' h' n' fs, k T' h' n' = true ∧ RunF P base i r fs ⟨T, h⟩ ⟨T', h'⟩
  | [], i, T, h, n, k, hx => ⟨T, h, n, [], hx, rfl, rfl⟩
  | s :: r, i, T, h, n, k, hx => by
    simp only [opsY] at hx
    obtain ⟨v, h1, n', f, f', hk, hs, _⟩ := operX_sound hc hx
    rw [putK_eq] at hk
    obtain ⟨T', h', n2, fs, hk2, hr⟩ := opsY_sound hc r _ _ _ _ _ hk
    exact ⟨T', h', n2, f' :: fs, hk2, f', fs, v, h1, rfl, hs, hr⟩
def WL (P : Program) (N : Nat) (b : SCode) (Q : SX → St → Prop) (A : St) : Prop :=
  ∀ cb, okCode P N cb b = true → ∀ (c : Ctx (okc P)) (a : Act) (w : World), SRel N c A a w → ∀ (ro : Option Nat), (b.rf = true → ro = none) → ∀ (Q' : Exit → Act → World → Prop),
    (∀ e B c' a' w', Q e B → SRel N c' B a' w' → Evo c w c' w' → Q' e.toExit a' w') → Lp ro P cb Q' a w
theorem WL.loop {N : Nat} {b : SCode} {Q : SX → St → Prop} {A : St} (h : WL P N b Q A) : W P N (.loop b) Q A := by
  intro code hok c a w S ro hro Q' hQ
  cases code <;> simp only [okCode, Bool.false_eq_true] at hok
  exact (h _ hok c a w S ro (fun e => hro (by simp [SCode.rf, e])) Q' hQ).loop
theorem WL.round {N : Nat} {b : SCode} {Q : SX → St → Prop} {A : St} (h : W P N b (fun e B => match e with | .normal => WL P N b Q B | e => Q e B) A) : WL P N b Q A := by
  intro cb hok c a w S ro hro Q' hQ
  refine Lp.round (h cb hok c a w S ro hro _ ?_)
  intro e B c2 a2 w2 hq S2 E2
  cases e with
  | normal => exact hq cb hok c2 a2 w2 S2 ro hro Q' fun e3 B3 c3 a3 w3 h3 S3 E3 => hQ e3 B3 c3 a3 w3 h3 S3 (E2.trans E3)
  | ret => exact hQ .ret B c2 a2 w2 hq S2 E2
  | exit i => exact hQ (.exit i) B c2 a2 w2 hq S2 E2
def WX (P : Program) (N : Nat) (c : SCode) (Q : SX → St → Prop) (A : St) : Prop :=
  W P N c Q A ∧ ∀ b, c = .loop b → WL P N b Q A
theorem WX.of {N : Nat} {c : SCode} {Q : SX → St → Prop} {A : St} (h : W P N c Q A) (hc : ∀ b, c ≠ .loop b) : WX P N c Q A := ⟨h, fun b e => absurd e (hc b)⟩
def ExOK (P : Program) (run : SCode → Tmps → Heap → Nat → Kc → Bool) : Prop := ∀ (N : Nat) (c : SCode) (T : Tmps) (h : Heap) (n : Nat) (k : Kc), run c T h n k = true →
  ∃ e T' h' n', k e T' h' n' = true ∧ WX P N c (fun e' B => e' = e ∧ B = ⟨T', h'⟩) ⟨T, h⟩
theorem callX_sound {fns : Nat → Option SFn} (hf : ∀ f sf, fns f = some sf → okFn P f sf = true) {run : SCode → Tmps → Heap → Nat → Kc → Bool} (hr : ExOK P run) : CallOK P (callX fns run) := by
  intro m f args h n k hx
  unfold callX at hx
  cases hs : fns f with
  | none => rw [hs] at hx; cases hx
  | some sf =>
    rw [hs] at hx
    simp only at hx
    have hok := hf f sf hs
    cases hl : Nat.ble args.length sf.n with
    | false => rw [hl] at hx; cases hx
    | true =>
      rw [hl] at hx
      have hl : args.length ≤ sf.n := Nat.le_of_ble_eq_true hl
      simp only [cond_true] at hx
      have pureC : ∀ k' : AV → Bool, (bif noRefs args then (argK 0 args fun T => run sf.body T .e 64 fun e T h' _ =>
          match e with
          | .exit _ => false
          | _ => match resV T h' sf.res with
            | some vs => (frzH 6 (resOf vs)).runK h' fun v _ => bif noRef v then force2 v fun v => k v h n else false
            | none => false) else false) = true → ∃ v, k v h n = true ∧ PSpec P f args v := by
        intro _ hx
        cases ha : noRefs args with
        | false => rw [ha] at hx; cases hx
        | true =>
          rw [ha, cond_true, argK_eq] at hx
          obtain ⟨e, T', h', n', hk, hw, _⟩ := hr sf.n _ _ _ _ _ hx
          have he : e = .normal ∨ e = .ret := by cases e <;> first | (cases hk; done) | simp
          have hk : (match resV T' h' sf.res with
            | some vs => (frzH 6 (resOf vs)).runK h' fun v _ => bif noRef v then force2 v fun v => k v h n else false
            | none => false) = true := by rcases he with rfl | rfl <;> exact hk
          cases hv : resV T' h' sf.res with
          | none => rw [hv] at hk; cases hk
          | some vs =>
            rw [hv] at hk
            simp only [HM.runK_eq] at hk
            split at hk
            · rename_i v h2 hz
              cases hn : noRef v with
              | false => rw [hn] at hk; cases hk
              | true =>
                rw [hn, cond_true, force2_eq] at hk
                refine ⟨v, hk, PSpec.of_W 6 hok hl ha hn (hw.mono ?_)⟩
                rintro e' B ⟨rfl, rfl⟩
                exact ⟨he, vs, hv, h2, hz⟩
            · cases hk
      cases m with
      | heap =>
        simp only [argK_eq] at hx
        obtain ⟨e, T', h', n', hk, hw, _⟩ := hr sf.n _ _ _ _ _ hx
        have he : e = .normal ∨ e = .ret := by cases e <;> first | (cases hk; done) | simp
        have hk : (match resV T' h' sf.res with
            | some vs => force2 (resOf vs) fun v => k v h' n'
            | none => false) = true := by rcases he with rfl | rfl <;> exact hk
        cases hv : resV T' h' sf.res with
        | none => rw [hv] at hk; cases hk
        | some vs =>
          rw [hv] at hk
          simp only [force2_eq] at hk
          refine ⟨_, h', n', hk, fun _ => HSpec.of_W hok hl (hw.mono ?_), fun h => absurd rfl h⟩
          rintro e' B ⟨rfl, rfl⟩
          exact ⟨he, vs, hv, rfl, fun _ => rfl⟩
      | pure =>
        obtain ⟨v, hk, hp⟩ := pureC (fun _ => true) hx
        exact ⟨v, h, n, hk, fun h => (by cases h), fun _ => hp⟩
      | borrow =>
        obtain ⟨v, hk, hp⟩ := pureC (fun _ => true) hx
        exact ⟨v, h, n, hk, fun h => (by cases h), fun _ => hp⟩
theorem ex_sound {fns : Nat → Option SFn} (hf : ∀ f sf, fns f = some sf → okFn P f sf = true) : ∀ d, ExOK P (ex fns d) := by
  intro d
  induction d with
  | zero => intro N c T h n k hx; cases hx
  | succ d ih =>
    have hc := callX_sound hf ih
    intro N c T h n k hx
    cases c with
    | skip => exact ⟨_, _, _, _, hx, .of (W.skip ⟨rfl, rfl⟩) (by simp)⟩
    | ret => exact ⟨_, _, _, _, hx, .of (W.ret ⟨rfl, rfl⟩) (by simp)⟩
    | exit i => exact ⟨_, _, _, _, hx, .of (W.exit ⟨rfl, rfl⟩) (by simp)⟩
    | bad => cases hx
    | mloop => cases hx
    | rfunc => cases hx
    | region ops pairs dead =>
      cases pairs with
      | nil =>
        obtain ⟨T', h', n', fs, hk, hr⟩ := opsY_sound hc _ _ _ _ _ _ hx
        rw [rmK_eq] at hk
        exact ⟨_, _, _, _, hk, .of (W.regionF n fs hr (by simp) ⟨rfl, rfl⟩) (by simp)⟩
      | cons p ps =>
        obtain ⟨T', h', n', fs, hk, hr⟩ := opsX_sound hc _ _ _ _ _ _ hx
        cases hp : ((p :: ps).all fun p => (fs.getD p.1 ⟨false, [], []⟩).apart (fs.getD p.2 ⟨false, [], []⟩)) with
        | false => rw [hp] at hk; cases hk
        | true =>
          rw [hp, cond_true, rmK_eq] at hk
          exact ⟨_, _, _, _, hk, .of (W.regionF n fs hr hp ⟨rfl, rfl⟩) (by simp)⟩
    | seq a b =>
      obtain ⟨e, T', h', n', hk, hw, _⟩ := ih N _ _ _ _ _ hx
      cases e with
      | normal =>
        obtain ⟨e2, T2, h2, n2, hk2, hw2, _⟩ := ih N _ _ _ _ _ hk
        refine ⟨e2, T2, h2, n2, hk2, .of (W.seq (hw.mono ?_)) (by simp)⟩
        rintro e' B ⟨rfl, rfl⟩
        exact hw2
      | exit j =>
        refine ⟨_, _, _, _, hk, .of (W.seq (hw.mono ?_)) (by simp)⟩
        rintro e' B ⟨rfl, rfl⟩
        exact ⟨rfl, rfl⟩
      | ret =>
        refine ⟨_, _, _, _, hk, .of (W.seq (hw.mono ?_)) (by simp)⟩
        rintro e' B ⟨rfl, rfl⟩
        exact ⟨rfl, rfl⟩
    | cond x a b =>
      simp only [ex] at hx
      split at hx
      · rename_i hb
        obtain ⟨e, T', h', n', hk, hw, _⟩ := ih N _ _ _ _ _ hx
        exact ⟨e, T', h', n', hk, .of (W.cond hb (fun _ => hw) (fun h => by cases h)) (by simp)⟩
      · rename_i hb
        obtain ⟨e, T', h', n', hk, hw, _⟩ := ih N _ _ _ _ _ hx
        exact ⟨e, T', h', n', hk, .of (W.cond hb (fun h => by cases h) (fun _ => hw)) (by simp)⟩
      · cases hx
    | block i b =>
      obtain ⟨e, T', h', n', hk, hw, _⟩ := ih N _ _ _ _ _ hx
      cases e with
      | normal =>
        refine ⟨_, _, _, _, hk, .of (W.block (hw.mono ?_)) (by simp)⟩
        rintro e' B ⟨rfl, rfl⟩
        exact ⟨rfl, rfl⟩
      | ret =>
        refine ⟨_, _, _, _, hk, .of (W.block (hw.mono ?_)) (by simp)⟩
        rintro e' B ⟨rfl, rfl⟩
        exact ⟨rfl, rfl⟩
      | exit j =>
        simp only at hk
        cases hj : Nat.beq j i with
        | true =>
          rw [hj, cond_true] at hk
          have : j = i := by simpa using hj
          refine ⟨_, _, _, _, hk, .of (W.block (hw.mono ?_)) (by simp)⟩
          rintro e' B ⟨rfl, rfl⟩
          simp [this]
        | false =>
          rw [hj, cond_false] at hk
          have : j ≠ i := by rintro rfl; simp at hj
          refine ⟨_, _, _, _, hk, .of (W.block (hw.mono ?_)) (by simp)⟩
          rintro e' B ⟨rfl, rfl⟩
          simp [this]
    | loop b =>
      have key : ∃ e T' h' n', k e T' h' n' = true ∧ WL P N b (fun e' B => e' = e ∧ B = ⟨T', h'⟩) ⟨T, h⟩ := by
        obtain ⟨e, T', h', n', hk, hw, _⟩ := ih N _ _ _ _ _ hx
        cases e with
        | normal =>
          obtain ⟨e2, T2, h2, n2, hk2, _, hw2⟩ := ih N _ _ _ _ _ hk
          refine ⟨e2, T2, h2, n2, hk2, WL.round (hw.mono ?_)⟩
          rintro e' B ⟨rfl, rfl⟩
          exact hw2 b rfl
        | exit j =>
          refine ⟨_, _, _, _, hk, WL.round (hw.mono ?_)⟩
          rintro e' B ⟨rfl, rfl⟩
          exact ⟨rfl, rfl⟩
        | ret =>
          refine ⟨_, _, _, _, hk, WL.round (hw.mono ?_)⟩
          rintro e' B ⟨rfl, rfl⟩
          exact ⟨rfl, rfl⟩
      obtain ⟨e, T', h', n', hk, hw⟩ := key
      exact ⟨e, T', h', n', hk, hw.loop, fun b' e => by cases e; exact hw⟩
inductive FT where
  | z
  | l (k : Nat) (s : SFn)
  | n (k : Nat) (a b : FT)
def FT.get : FT → Nat → Option SFn
  | .z, _ => none
  | .l k s, i => bif Nat.beq i k then some s else none
  | .n k a b, i => bif Nat.blt i k then a.get i else b.get i
def FT.OK (P : Program) : FT → Prop
  | .z => True
  | .l k s => okFn P k s = true
  | .n _ a b => a.OK P ∧ b.OK P
theorem FT.ok : ∀ {t : FT}, t.OK P → ∀ f sf, t.get f = some sf → okFn P f sf = true
  | .z, _, f, sf, h => by cases h
  | .l k s, ho, f, sf, h => by
    simp only [FT.get] at h
    cases e : Nat.beq f k with
    | true =>
      rw [e] at h
      have : f = k := by simpa using e
      subst this
      cases h
      exact ho
    | false => rw [e] at h; cases h
  | .n k a b, ho, f, sf, h => by
    simp only [FT.get] at h
    cases e : Nat.blt f k with
    | true => rw [e] at h; exact FT.ok ho.1 f sf h
    | false => rw [e] at h; exact FT.ok ho.2 f sf h
end Go.AM
