/- The abstract machine, part L: whole functions. -/
import Derived.Test.YteaeobmbfhaklaaAmK
set_option linter.unusedSimpArgs false
set_option linter.unusedVariables false
namespace Go.AM
variable {P : Program}

/-- A result: the value of a slot, or what a slot points to. -/
inductive SRes where
  | tmp (t : Nat)
  | cell (a : Nat) (n : Option Nat)
  deriving Inhabited

structure SFn where
  n : Nat
  res : List SRes
  body : SCode

def argT : Nat → List AV → Tmps
  | _, [] => []
  | k, x :: xs => (k, x) :: argT (k + 1) xs

def resV (T : Tmps) (h : Heap) : List SRes → Option (List AV)
  | [] => some []
  | .tmp t :: r => match resV T h r with
    | some vs => some (lk T t :: vs)
    | none => none
  | .cell a n :: r => match (aLoad n (lk T a)).run h, resV T h r with
    | some (v, _), some vs => some (v :: vs)
    | _, _ => none

def resOf : List AV → AV
  | [v] => v
  | vs => .tup vs

def okRes (P : Program) : List ResultVar → List SRes → Bool
  | [], [] => true
  | .tmp t :: r, .tmp t' :: r' => t == t' && okRes P r r'
  | .cell a t :: r, .cell a' n :: r' => a == a' && rowT P t n && okRes P r r'
  | _, _ => false

def okFn (P : Program) (f : Nat) (sf : SFn) : Bool :=
  match P.funcs[f]? with
  | some fn => (match fn.body with
    | some code => okCode P fn.ntmps code sf.body && fn.ntmps == sf.n && okRes P fn.results.toList sf.res && !(fn.name == "runtime.NumGoroutine")
    | none => false)
  | none => false

theorem loadVar_sound {c : Ctx} {w : World} {h : Heap} {t : TypeId} {n : Option Nat} {x v : AV} {cx : Value} {h' : Heap} (H : HRel c h w) (hx : VRel c w x cx) (ht : rowT P t n = true)
    (hm : (aLoad n x).run h = some (v, h')) : ∃ a cv, cx = .pointer (some a) ∧ (loadVar t a).run P w = .ok cv w ∧ VRel c w v cv := by
  cases x <;> simp only [aLoad, HM.run] at hm <;> try (cases hm; done)
  case ptr b g off =>
    obtain ⟨cs, hb, hm⟩ := run_cells hm
    simp only [VRel] at hx
    obtain ⟨cb, base, hp, rfl⟩ := hx
    obtain ⟨C, e, fr, hO, hC, hfr, hbs, hpre⟩ := H.here hb hp
    cases n with
    | none =>
      cases hv : cs[off]? with
      | none => simp [hv, HM.opt, HM.run] at hm
      | some u =>
        simp only [hv, HM.opt, HM.run, Option.some.injEq, Prod.mk.injEq] at hm
        obtain ⟨rfl, rfl⟩ := hm
        obtain ⟨cv, hcv, hr⟩ := VPre_get off hpre hv
        rw [List.getElem?_drop, Array.getElem?_toList] at hcv
        exact ⟨_, cv, rfl, by simp [loadVar, rowT_none ht, cell_of hC, hcv], hr⟩
    | some n =>
      simp only at hm
      split at hm
      · rename_i hl
        simp only [HM.run, Option.some.injEq, Prod.mk.injEq] at hm
        obtain ⟨rfl, rfl⟩ := hm
        obtain ⟨t1, t2⟩ := rowT_some ht w
        have hlen := VPre_length hpre
        simp at hlen
        refine ⟨_, .agg ((C.toList.drop (base + off)).take n).toArray, rfl, by simp [loadVar, t1, t2, run_loadCells_at (P := P) (n := n) (o := base + off) hC (by omega)], ?_⟩
        simp only [VRel]
        refine ⟨_, rfl, ?_⟩
        have := VRels_take_drop hpre off n hl
        simpa [List.drop_drop] using this
      · simp [HM.run] at hm
  case fptr cs =>
    simp only [VRel] at hx
    obtain ⟨cb, off, C, e, fr, rfl, hF, hC, hpre⟩ := hx
    cases n with
    | none =>
      cases cs with
      | nil => simp [HM.opt, HM.run] at hm
      | cons u cs =>
        simp only [HM.opt, List.head?_cons, HM.run, Option.some.injEq, Prod.mk.injEq] at hm
        obtain ⟨rfl, rfl⟩ := hm
        obtain ⟨cv, hcv, hr⟩ := VPre_get 0 hpre (x := u) rfl
        rw [List.getElem?_drop, Array.getElem?_toList] at hcv
        exact ⟨_, cv, rfl, by simp [loadVar, rowT_none ht, cell_of hC]; simpa using hcv ▸ rfl, hr⟩
    | some n =>
      simp only at hm
      split at hm
      · rename_i hl
        simp only [HM.run, Option.some.injEq, Prod.mk.injEq] at hm
        obtain ⟨rfl, rfl⟩ := hm
        obtain ⟨t1, t2⟩ := rowT_some ht w
        have hlen := VPre_length hpre
        simp at hlen
        refine ⟨_, .agg ((C.toList.drop off).take n).toArray, rfl, by simp [loadVar, t1, t2, run_loadCells_at (P := P) (n := n) (o := off) hC (by omega)], ?_⟩
        simp only [VRel]
        refine ⟨_, rfl, ?_⟩
        have := VRels_take_drop hpre 0 n (by simpa using hl)
        simpa using this
      · simp [HM.run] at hm

/-- What one result variable gives. -/
def resM (tmps : Array Value) : ResultVar → Sem Value
  | .tmp t => pure (tmps.getD t undef)
  | .cell a t => do loadVar t (← asAddr (tmps.getD a undef))

theorem resV_sound {c : Ctx} {w : World} {T : Tmps} {h : Heap} {a : Act} (H : HRel c h w) (hT : TRel c w T a) : ∀ {rs : List ResultVar} {ss : List SRes} {vs : List AV}, okRes P rs ss = true → resV T h ss = some vs →
    ∃ cvs, (rs.mapM (resM a.tmps)).run P w = .ok cvs w ∧ VRels c w vs cvs
  | [], [], vs, _, hr => by
    simp only [resV, Option.some.injEq] at hr; subst hr
    exact ⟨[], by simp [List.mapM_nil], by simp [VRels]⟩
  | [], _ :: _, _, ho, _ => by simp [okRes] at ho
  | .tmp t :: rs, [], _, ho, _ => by simp [okRes] at ho
  | .cell a t :: rs, [], _, ho, _ => by simp [okRes] at ho
  | .tmp t :: rs, .cell _ _ :: ss, _, ho, _ => by simp [okRes] at ho
  | .cell a t :: rs, .tmp _ :: ss, _, ho, _ => by simp [okRes] at ho
  | .tmp t :: rs, .tmp t' :: ss, vs, ho, hr => by
    simp only [okRes, Bool.and_eq_true, beq_iff_eq] at ho
    obtain ⟨rfl, ho⟩ := ho
    simp only [resV] at hr
    split at hr
    · rename_i us hu
      cases hr
      obtain ⟨cvs, h1, h2⟩ := resV_sound H hT ho hu
      exact ⟨a.tmps.getD t undef :: cvs, by simp [List.mapM_cons, resM, h1], by simp only [VRels]; exact ⟨_, _, rfl, hT t, h2⟩⟩
    · cases hr
  | .cell p t :: rs, .cell p' n :: ss, vs, ho, hr => by
    simp only [okRes, Bool.and_eq_true, beq_iff_eq] at ho
    obtain ⟨⟨rfl, ht⟩, ho⟩ := ho
    simp only [resV] at hr
    split at hr
    · rename_i v h' us hl hu
      cases hr
      obtain ⟨cvs, h1, h2⟩ := resV_sound H hT ho hu
      obtain ⟨ad, cv, e, k1, k2⟩ := loadVar_sound H (hT p) ht hl
      exact ⟨cv :: cvs, by simp [List.mapM_cons, resM, h1, e, asAddr, k1], by simp only [VRels]; exact ⟨_, _, rfl, k2, h2⟩⟩
    · cases hr

theorem results_sound {c : Ctx} {w : World} {T : Tmps} {h : Heap} {a : Act} (H : HRel c h w) (hT : TRel c w T a) {fn : Func} {ss : List SRes} {vs : List AV} (ho : okRes P fn.results.toList ss = true) (hr : resV T h ss = some vs) :
    ∃ cv, (results fn a.tmps).run P w = .ok cv w ∧ VRel c w (resOf vs) cv := by
  obtain ⟨cvs, h1, h2⟩ := resV_sound H hT ho hr
  have e : results fn a.tmps = (fn.results.toList.mapM (resM a.tmps)) >>= fun vs => pure (if h : vs.toArray.size = 1 then vs.toArray[0] else Value.tuple vs.toArray) := by
    unfold results
    rw [Array.mapM_eq_mapM_toList]
    simp only [bind_map_left]
    rfl
  rw [e]
  refine ⟨_, by simp only [Sem.run_bind, h1, Result.andThen_ok, Sem.run_pure]; rfl, ?_⟩
  match vs, h2 with
  | [], h2 => simp only [VRels] at h2; subst h2; simp [resOf, VRel, VRels]
  | [v], h2 =>
    simp only [VRels] at h2
    obtain ⟨cv, _, rfl, h3, rfl⟩ := h2
    simpa [resOf] using h3
  | v :: u :: vs, h2 =>
    have h2' := h2
    simp only [VRels] at h2'
    obtain ⟨cv, _, rfl, _, cu, _, rfl, _⟩ := h2'
    simp only [resOf]
    rw [dif_neg (by simp)]
    simp only [VRel]
    exact ⟨_, rfl, h2⟩

theorem argT_rel {c : Ctx} {w : World} : ∀ (xs : List AV) (vs : List Value) (k : Nat) (us : List Value) (i : Nat), VRels c w xs vs → us.length = k →
    VRel c w (lk (argT k xs) i) ((us ++ vs).getD i undef)
  | [], vs, k, us, i, _, _ => by simp [argT, lk, VRel]
  | x :: xs, vs, k, us, i, h, hk => by
    simp only [VRels] at h
    obtain ⟨v, vs', rfl, h1, h2⟩ := h
    simp only [argT, lk]
    by_cases e : k = i
    · subst e
      have : Nat.beq k k = true := by simp
      rw [this]
      simpa [List.getD_eq_getElem?_getD, hk] using h1
    · have : Nat.beq k i = false := by rw [Bool.eq_false_iff]; simpa using e
      rw [this]
      have := argT_rel xs vs' (k + 1) (us ++ [v]) i h2 (by simp [hk])
      simpa using this

theorem argT_any : ∀ (xs : List AV) (k i : Nat), k + xs.length ≤ i → lk (argT k xs) i = .any
  | [], _, _, _ => rfl
  | x :: xs, k, i, h => by
    simp only [List.length_cons] at h
    simp only [argT, lk]
    have : Nat.beq k i = false := by rw [Bool.eq_false_iff]; simp; omega
    rw [this]
    exact argT_any xs (k + 1) i (by omega)

theorem okFn_spec {f : Nat} {sf : SFn} (h : okFn P f sf = true) : ∃ fn code, P.funcs[f]? = some fn ∧ fn.body = some code ∧ okCode P sf.n code sf.body = true ∧ fn.ntmps = sf.n ∧ okRes P fn.results.toList sf.res = true ∧ Callable P f := by
  unfold okFn at h
  split at h
  · rename_i fn hf
    split at h
    · rename_i code hc
      simp only [Bool.and_eq_true, beq_iff_eq, Bool.not_eq_true'] at h
      obtain ⟨⟨⟨h1, h2⟩, h3⟩, h4⟩ := h
      exact ⟨fn, code, hf, hc, h2 ▸ h1, h2, h3, fn, hf, by simp [hc], h4⟩
    · cases h
  · cases h

/-- A WALK THROUGH THE BODY IS A CONTRACT. -/
theorem call_of_W {f : Nat} {sf : SFn} {args : List AV} {h : Heap} {R : List AV → Heap → Prop} (hok : okFn P f sf = true) (hl : args.length ≤ sf.n)
    (hw : W P sf.n sf.body (fun e B => (e = .normal ∨ e = .ret) ∧ ∃ vs, resV B.T B.h sf.res = some vs ∧ R vs B.h) ⟨argT 0 args, h⟩)
    {c : Ctx} {w : World} {cargs : Array Value} (H : HRel c h w) (ha : VRels c w args cargs.toList) :
    Calls P f cargs w fun e w' => ∃ cv c' vs h', e = .returned cv ∧ Evo c w c' w' ∧ HRel c' h' w' ∧ VRel c' w' (resOf vs) cv ∧ R vs h' := by
  obtain ⟨fn, code, hf, hb, hc, hn, hr, _⟩ := okFn_spec hok
  have hlen := VRels_length ha
  have hlen : args.length = cargs.size := by simpa using hlen
  refine calls_of_wp hf hb ?_
  refine hw code hc c _ w ⟨H, ?_, ?_, rfl⟩ _ ?_
  · intro i
    by_cases hi : i < args.length
    · have := argT_rel args cargs.toList 0 [] i ha rfl
      simp only [List.nil_append] at this
      have e : (cargs ++ Array.replicate (fn.ntmps - cargs.size) undef).getD i undef = cargs.toList.getD i undef := by
        rw [Array.getD_eq_getD_getElem?, Array.getElem?_append_left (by omega)]
        simp [List.getD_eq_getElem?_getD]
      rw [e]; exact this
    · rw [argT_any args 0 i (by omega)]; simp [VRel]
  · simp; omega
  · intro e B c' a' w' hq S' E'
    obtain ⟨he, vs, hvs, hR⟩ := hq
    obtain ⟨cv, k1, k2⟩ := results_sound S'.heap S'.tmps hr hvs
    rcases he with rfl | rfl
    · exact ⟨S'.defers, cv, k1, cv, c', vs, B.h, rfl, E', S'.heap, k2, hR⟩
    · exact ⟨S'.defers, cv, k1, cv, c', vs, B.h, rfl, E', S'.heap, k2, hR⟩

theorem HSpec.of_W {f : Nat} {sf : SFn} {args : List AV} {h : Heap} {v : AV} {h' : Heap} (hok : okFn P f sf = true) (hl : args.length ≤ sf.n)
    (hw : W P sf.n sf.body (fun e B => (e = .normal ∨ e = .ret) ∧ ∃ vs, resV B.T B.h sf.res = some vs ∧ resOf vs = v ∧ ∀ b, B.h.get b = h'.get b) ⟨argT 0 args, h⟩) : HSpec P f args h v h' := by
  obtain ⟨_, _, _, _, _, _, _, hc⟩ := okFn_spec hok
  refine ⟨hc, fun c w cargs H ha => (call_of_W (R := fun vs k => resOf vs = v ∧ ∀ b, k.get b = h'.get b) hok hl hw H ha).mono ?_⟩
  rintro e w' ⟨cv, c', vs, k, rfl, E, H', V, rfl, hk⟩
  exact ⟨cv, c', rfl, E, HRel_congr hk H', V⟩

/-- A function of values alone: what it returns is frozen behind it. -/
theorem PSpec.of_W {f : Nat} {sf : SFn} {args : List AV} {v : AV} (d : Nat) (hok : okFn P f sf = true) (hl : args.length ≤ sf.n) (ha : noRefs args = true) (hv : noRef v = true)
    (hw : W P sf.n sf.body (fun e B => (e = .normal ∨ e = .ret) ∧ ∃ vs, resV B.T B.h sf.res = some vs ∧ ∃ k, (frzH d (resOf vs)).run B.h = some (v, k)) ⟨argT 0 args, .e⟩) : PSpec P f args v := by
  obtain ⟨_, _, _, _, _, _, _, hc⟩ := okFn_spec hok
  refine ⟨ha, hv, .e, hc, fun c w cargs H ha => (call_of_W (R := fun vs k => ∃ k', (frzH d (resOf vs)).run k = some (v, k')) hok hl hw H ha).mono ?_⟩
  rintro e w' ⟨cv, c', vs, k, rfl, E, H', V, k', hk⟩
  obtain ⟨_, V'⟩ := frz_sound H' d _ _ _ _ V hk
  have hF : ∀ b, c'.F b ∨ c'.O b → b < w'.heap.size := fun b hb => hb.elim (H'.inF b) (H'.inO b)
  refine ⟨cv, only fun b => c'.F b ∨ c'.O b, rfl, ?_, HRel.only hF, VRel.noRef (c := lent c') (c' := only fun b => c'.F b ∨ c'.O b) (fun _ h => h) _ _ hv V'⟩
  refine ⟨E.os, E.tape, E.output, E.size, E.shape, E.keep, fun b g p hp => ?_, fun b hb => .inl (E.frz b hb), fun b hb => ?_, fun b hb => hb.elim⟩
  · rw [H.fresh b rfl g] at hp; cases hp
  · rcases hb with hb | hb
    · exact E.frzNew b hb
    · rcases E.own b hb with h1 | h1
      · exact .inr (.inl h1)
      · exact .inr (.inr h1)

end Go.AM
