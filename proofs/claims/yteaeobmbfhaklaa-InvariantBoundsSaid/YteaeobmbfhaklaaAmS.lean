/- The abstract machine, part S: the fast running, whole; running is walking. -/
import Derived.Test.YteaeobmbfhaklaaAmR
set_option linter.unusedSimpArgs false
set_option linter.unusedVariables false
namespace Go.AM
variable {P : Program}
noncomputable section
variable {α : Type}

abbrev CallerA (α : Type) := CallM → Nat → List AV → Heap → Nat → (AV → Heap → Nat → α) → α
abbrev KcA (α : Type) := SX → Tmps → Heap → Nat → α

/-! ### operations -/
def evsK (T : Tmps) (xs : List Opd) (k : List AV → α) : α :=
  @List.rec Opd (fun _ => (List AV → α) → α) (fun k => k []) (fun x _ ih k => evK T x fun v => ih fun vs => k (v :: vs)) xs k
theorem evsK_eq (T : Tmps) (xs : List Opd) (k : List AV → α) : evsK T xs k = k (evs T xs) := by
  have : ∀ (xs : List Opd) (k : List AV → α), @List.rec Opd (fun _ => (List AV → α) → α) (fun k => k []) (fun x _ ih k => evK T x fun v => ih fun vs => k (v :: vs)) xs k = k (evs T xs) := by
    intro xs
    induction xs with
    | nil => intro k; rfl
    | cons x r ih =>
      intro k
      show evK T x (fun v => @List.rec Opd (fun _ => (List AV → α) → α) (fun k => k []) (fun x _ ih k => evK T x fun v => ih fun vs => k (v :: vs)) r fun vs => k (v :: vs)) = _
      rw [evK_eq]; exact ih _
  exact this xs k

/-- The address of an element. -/
def iaddrR (A : Ans α) (arr : Option Nat) (sz : Nat) (x i : AV) (k : AV → α) : α :=
  match i with
  | .int _ (.ofNat j) => (match arr with
    | none => (match x with
      | .sl b g off len s => ifB (Nat.ble (Nat.succ j) len && Nat.beq s sz) (fNat (Nat.add off (Nat.mul j sz)) fun o => k (.ptr b g o)) A.bad
      | .fsl cs len s => ifB (Nat.ble (Nat.succ j) len && Nat.beq s sz) (fNat (Nat.mul j sz) fun o => dropR cs o fun cs => k (.fptr cs)) A.bad
      | _ => A.bad)
    | some m => (match x with
      | .ptr b g off => ifB (Nat.ble (Nat.succ j) m) (fNat (Nat.add off (Nat.mul j sz)) fun o => k (.ptr b g o)) A.bad
      | .fptr cs => ifB (Nat.ble (Nat.succ j) m) (fNat (Nat.mul j sz) fun o => dropR cs o fun cs => k (.fptr cs)) A.bad
      | _ => A.bad))
  | _ => A.bad
theorem iaddrR_eq (A : Ans α) (arr : Option Nat) (sz : Nat) (x i : AV) (k : AV → α) : iaddrR A arr sz x i k = A.bad ∨ ∃ v, aIAddr arr sz x i = some v ∧ iaddrR A arr sz x i k = k v := by
  unfold iaddrR
  split
  · rename_i kd j
    have cond2 : ∀ (len s : Nat), (Nat.ble (Nat.succ j) len && Nat.beq s sz) = true → ((0 : Int) ≤ Int.ofNat j ∧ Int.ofNat j < (len : Int) ∧ s = sz) := by
      intro len s h
      simp only [Bool.and_eq_true] at h
      refine ⟨Int.natCast_nonneg j, Int.ofNat_lt.2 (Nat.le_of_ble_eq_true h.1), by simpa using h.2⟩
    have cond1 : ∀ (len : Nat), Nat.ble (Nat.succ j) len = true → ((0 : Int) ≤ Int.ofNat j ∧ Int.ofNat j < (len : Int)) := by
      intro len h
      exact ⟨Int.natCast_nonneg j, Int.ofNat_lt.2 (Nat.le_of_ble_eq_true h)⟩
    split
    · split
      · rw [ifB_eq]; split
        · rename_i h
          right
          refine ⟨_, by simp only [aIAddr]; rw [if_pos (cond2 _ _ h)], ?_⟩
          rw [fNat_eq]; rfl
        · exact .inl rfl
      · rw [ifB_eq]; split
        · rename_i h
          right
          refine ⟨_, by simp only [aIAddr]; rw [if_pos (cond2 _ _ h)], ?_⟩
          rw [fNat_eq, dropR_eq]; rfl
        · exact .inl rfl
      · exact .inl rfl
    · split
      · rw [ifB_eq]; split
        · rename_i h
          right
          refine ⟨_, by simp only [aIAddr]; rw [if_pos (cond1 _ h)], ?_⟩
          rw [fNat_eq]; rfl
        · exact .inl rfl
      · rw [ifB_eq]; split
        · rename_i h
          right
          refine ⟨_, by simp only [aIAddr]; rw [if_pos (cond1 _ h)], ?_⟩
          rw [fNat_eq, dropR_eq]; rfl
        · exact .inl rfl
      · exact .inl rfl
  · exact .inl rfl

def convR (A : Ans α) (kd : IntKind) (x : AV) (k : AV → α) : α :=
  match x with
  | .int _ (.ofNat m) => ifB (Nat.ble m (hiN kd)) (k (.int kd (.ofNat m))) (optR A (aConv kd x) k)
  | _ => optR A (aConv kd x) k
theorem convR_eq (A : Ans α) (kd : IntKind) (x : AV) (k : AV → α) : convR A kd x k = match aConv kd x with | some v => k v | none => A.bad := by
  refine Eq.trans (b := optR A (aConv kd x) k) ?_ (by cases aConv kd x with | none => rfl | some v => exact fAV_eq v k)
  unfold convR
  split
  · rw [ifB_eq]
    split
    · rename_i h
      rw [aConv_int, wr_nat (Nat.le_of_ble_eq_true h), optR_eq]
    · rfl
  · rfl

def opR (A : Ans α) (call : CallerA α) (i : Nat) (s : SOp) (T : Tmps) (h : Heap) (n : Nat) (k : AV → Heap → Nat → α) : α :=
  match s with
  | .mov x => evK T x fun v => k v h n
  | .bin op x y => evK T x fun a => evK T y fun b => binR A op a b fun v => k v h n
  | .load m x => evK T x fun a => loadR A m a h fun v => k v h n
  | .store m x v => evK T x fun a => evK T v fun v => storeR A m a v h fun u h => k u h n
  | .iaddr arr sz x j => evK T x fun a => evK T j fun j => iaddrR A arr sz a j fun v => k v h n
  | .faddr off x => evK T x fun a => optR A (aFAddr off a) fun v => k v h n
  | .conv kd x => evK T x fun a => convR A kd a fun v => k v h n
  | .extract j x => evK T x fun a => (match a with
    | .tup vs => nthR A vs j fun v => k v h n
    | _ => A.bad)
  | .pick c a b => evK T c fun c => (match c with
    | .bool t => ifB t (evK T a fun v => k v h n) (evK T b fun v => k v h n)
    | _ => A.bad)
  | .un .not x => evK T x fun a => (match a with
    | .bool t => ifB t (k (.bool false) h n) (k (.bool true) h n)
    | _ => A.bad)
  | .len 1 x => evK T x fun a => (match a with
    | .sl _ _ _ len _ => k (.int .i64 (.ofNat len)) h n
    | .fsl _ len _ => k (.int .i64 (.ofNat len)) h n
    | .nilsl => k (.int .i64 (.ofNat 0)) h n
    | _ => runR A (aop i T s) h fun out h2 => (match out with
      | .val v => fAV v fun v => k v h2 n
      | .call .. => A.bad))
  | .call m x args => evK T x fun f => (match f with
    | .fn f first captured => evsK T args fun as => (match m with
      | .heap => fList (first ++ as ++ captured) fun as => call .heap f as h n k
      | .pure => fList (first ++ as ++ captured) fun as => call .pure f as h n fun v _ n => k v h n
      | .borrow => runR A (mapH (frzH 4) (first ++ as ++ captured)) h fun as h2 => call .borrow f as h2 n fun v _ n => ifB (flatV v) (k v h2 n) A.bad)
    | _ => A.bad)
  | s => runR A (aop i T s) h fun out h2 => (match out with
    | .val v => fAV v fun v => k v h2 n
    | .call .. => A.bad)

theorem aLoad_same {m : Option Nat} {x v : AV} {h h' : Heap} (hm : (aLoad m x).run h = some (v, h')) : h' = h := by
  cases x with
  | ptr b g off =>
    simp only [aLoad] at hm
    obtain ⟨cs, _, hm⟩ := run_cells hm
    cases m with
    | none =>
      cases hc : cs[off]? with
      | none => simp [hc, HM.opt, HM.run] at hm
      | some u => simp only [hc, HM.opt, HM.run, Option.some.injEq, Prod.mk.injEq] at hm; exact hm.2.symm
    | some m =>
      simp only at hm
      split at hm
      · simp only [HM.run, Option.some.injEq, Prod.mk.injEq] at hm; exact hm.2.symm
      · simp [HM.run] at hm
  | fptr cs =>
    simp only [aLoad] at hm
    cases m with
    | none =>
      cases cs with
      | nil => simp [HM.opt, HM.run] at hm
      | cons u cs => simp only [HM.opt, List.head?_cons, HM.run, Option.some.injEq, Prod.mk.injEq] at hm; exact hm.2.symm
    | some m =>
      simp only at hm
      split at hm
      · simp only [HM.run, Option.some.injEq, Prod.mk.injEq] at hm; exact hm.2.symm
      · simp [HM.run] at hm
  | _ => simp [aLoad, HM.run] at hm

def stepFP (i : Nat) (s : SOp) (T : Tmps) (h : Heap) : FP :=
  match s with
  | .call .heap _ _ => ⟨true, [], []⟩
  | s => fpOf ((aop i T s).fp h)

def CallOKA (P : Program) (A : Ans α) (call : CallerA α) : Prop := ∀ (m : CallM) (f : Nat) (args : List AV) (h : Heap) (n : Nat) (k : AV → Heap → Nat → α), A.holds (call m f args h n k) →
  ∃ v h' n', A.holds (k v h' n') ∧ (m = .heap → HSpec P f args h v h') ∧ (m ≠ .heap → PSpec P f args v)

section
variable {A : Ans α} (hA : A.OK) {call : CallerA α} (hc : CallOKA P A call)
include hA hc

theorem opR_sound {i : Nat} {s : SOp} {T : Tmps} {h : Heap} {n : Nat} {k : AV → Heap → Nat → α} (hx : A.holds (opR A call i s T h n k)) :
    ∃ v h1 n', A.holds (k v h1 n') ∧ StepX P i s T h v h1 (stepFP i s T h) := by
  have lft : ∀ {s : SOp} {o : Option AV} {v : AV}, (∀ m x a, s ≠ .call m x a) → aop i T s = lift o → o = some v → StepX P i s T h v h (stepFP i s T h) := by
    intro s o v hs e ho
    refine ⟨.val v, h, by rw [e, ho]; rfl, rfl, rfl, ?_⟩
    cases s <;> first | rfl | (exact absurd rfl (hs _ _ _))
  have hvl : ∀ {s : SOp} {m : HM AV} {v : AV} {h1 : Heap}, (∀ m x a, s ≠ .call m x a) → aop i T s = hval m → m.run h = some (v, h1) → StepX P i s T h v h1 (stepFP i s T h) := by
    intro s m v h1 hs e hm
    refine ⟨.val v, h1, by rw [e]; exact run_hval' m h hm, rfl, rfl, ?_⟩
    cases s <;> first | rfl | (exact absurd rfl (hs _ _ _))
  have dflt : ∀ {s : SOp}, (∀ m x a, s ≠ .call m x a) → A.holds (runR A (aop i T s) h fun out h2 => (match out with
      | .val v => fAV v fun v => k v h2 n
      | .call .. => A.bad)) → ∃ v h1 n', A.holds (k v h1 n') ∧ StepX P i s T h v h1 (stepFP i s T h) := by
    intro s hs hx
    rw [runR_eq] at hx
    cases hr : (aop i T s).run h with
    | none => rw [hr] at hx; exact absurd hx hA.bad
    | some r =>
      obtain ⟨out, h2⟩ := r
      rw [hr] at hx
      cases out with
      | call m f as => exact absurd hx hA.bad
      | val v =>
        simp only [fAV_eq] at hx
        refine ⟨v, h2, n, hx, .val v, h2, hr, rfl, rfl, ?_⟩
        cases s <;> first | rfl | (exact absurd rfl (hs _ _ _))
  unfold opR at hx
  split at hx
  · rw [evK_eq] at hx
    exact ⟨_, h, n, hx, lft (by simp) (o := some _) rfl rfl⟩
  · rw [evK_eq, evK_eq, binR_eq] at hx
    split at hx
    · rename_i hv; exact ⟨_, h, n, hx, lft (by simp) rfl hv⟩
    · exact absurd hx hA.bad
  · rw [evK_eq, loadR_eq] at hx
    split at hx
    · rename_i v h' hv
      have : h' = h := aLoad_same hv
      subst this
      exact ⟨v, h', n, hx, hvl (by simp) rfl hv⟩
    · exact absurd hx hA.bad
  · rw [evK_eq, evK_eq, storeR_eq] at hx
    split at hx
    · rename_i hv; exact ⟨_, _, n, hx, hvl (by simp) rfl hv⟩
    · exact absurd hx hA.bad
  · rw [evK_eq, evK_eq] at hx
    rcases iaddrR_eq A _ _ _ _ (fun v => k v h n) with e | ⟨v, hv, e⟩
    · rw [e] at hx; exact absurd hx hA.bad
    · rw [e] at hx; exact ⟨v, h, n, hx, lft (by simp) rfl hv⟩
  · rw [evK_eq, optR_eq] at hx
    split at hx
    · rename_i hv; exact ⟨_, h, n, hx, lft (by simp) rfl hv⟩
    · exact absurd hx hA.bad
  · rw [evK_eq, convR_eq] at hx
    split at hx
    · rename_i hv; exact ⟨_, h, n, hx, lft (by simp) rfl hv⟩
    · exact absurd hx hA.bad
  · rw [evK_eq] at hx
    split at hx
    · rename_i vs hv
      rw [nthR_eq] at hx
      split at hx
      · rename_i hj
        exact ⟨_, h, n, hx, lft (by simp) rfl (by rw [hv]; exact hj)⟩
      · exact absurd hx hA.bad
    · exact absurd hx hA.bad
  · rw [evK_eq] at hx
    split at hx
    · rename_i t hv
      rw [ifB_eq, evK_eq, evK_eq] at hx
      split at hx
      · rename_i ht; exact ⟨_, h, n, hx, lft (by simp) rfl (by rw [hv, ht]; rfl)⟩
      · rename_i ht; exact ⟨_, h, n, hx, lft (by simp) rfl (by rw [hv]; simp at ht; rw [ht]; rfl)⟩
    · exact absurd hx hA.bad
  · rw [evK_eq] at hx
    split at hx
    · rename_i t hv
      rw [ifB_eq] at hx
      split at hx
      · rename_i ht; exact ⟨_, h, n, hx, lft (by simp) rfl (by rw [hv, ht]; rfl)⟩
      · rename_i ht; exact ⟨_, h, n, hx, lft (by simp) rfl (by rw [hv]; simp at ht; rw [ht]; rfl)⟩
    · exact absurd hx hA.bad
  · rw [evK_eq] at hx
    split at hx
    · rename_i hv; exact ⟨_, h, n, hx, hvl (m := .ret _) (by simp) (by show hval (aLenC 1 (ev T _)) = _; rw [hv]; rfl) rfl⟩
    · rename_i hv; exact ⟨_, h, n, hx, hvl (m := .ret _) (by simp) (by show hval (aLenC 1 (ev T _)) = _; rw [hv]; rfl) rfl⟩
    · rename_i hv; exact ⟨_, h, n, hx, hvl (m := .ret _) (by simp) (by show hval (aLenC 1 (ev T _)) = _; rw [hv]; rfl) rfl⟩
    · exact dflt (by simp) hx
  · rename_i m x args
    rw [evK_eq] at hx
    split at hx
    · rename_i f first captured hv
      rw [evsK_eq] at hx
      have e : aop i T (.call m x args) = aCall m (.fn f first captured) (evs T args) := by rw [← hv]; rfl
      cases m with
      | heap =>
        simp only [fList_eq] at hx
        obtain ⟨v, h1, n', hk, hs, _⟩ := hc _ _ _ _ _ _ hx
        exact ⟨v, h1, n', hk, .call .heap f (first ++ evs T args ++ captured), h, by rw [e]; rfl, hs rfl, rfl⟩
      | pure =>
        simp only [fList_eq] at hx
        obtain ⟨v, h1, n', hk, _, hs⟩ := hc _ _ _ _ _ _ hx
        exact ⟨v, h, n', hk, .call .pure f (first ++ evs T args ++ captured), h, by rw [e]; rfl, hs (by simp), rfl, rfl⟩
      | borrow =>
        simp only [runR_eq] at hx
        split at hx
        · rename_i as h2 hm
          obtain ⟨v, h1, n', hk, _, hs⟩ := hc _ _ _ _ _ _ hx
          rw [ifB_eq] at hk
          split at hk
          · rename_i hf
            refine ⟨v, h2, n', hk, .call .borrow f as, h2, ?_, hs (by simp), hf, rfl, rfl⟩
            rw [e]
            have : ∀ (m : HM (List AV)) (h : Heap) (k : List AV → AOut), m.run h = some (as, h2) → (m.bind fun as => .ret (k as)).run h = some (k as, h2) := by
              intro m
              induction m with
              | ret a => intro h k hm; simp only [HM.run, Option.some.injEq, Prod.mk.injEq] at hm; obtain ⟨rfl, rfl⟩ := hm; rfl
              | fail => intro h k hm; simp [HM.run] at hm
              | look b k' ih => intro h k hm; exact ih _ h k hm
              | put b x k' ih =>
                intro h k hm
                obtain ⟨hl, hm⟩ := run_put hm
                have := ih _ k hm
                simp only [HM.bind, HM.run]
                have hl' : Nat.blt b lim = true := by simp [Nat.blt]; omega
                rw [hl']; exact this
            exact this _ h (fun as => .call .borrow f as) hm
          · exact absurd hk hA.bad
        · exact absurd hx hA.bad
    · exact absurd hx hA.bad
  · rename_i hs
    exact dflt (fun m x a e => hs _ _ _ e) hx
end

def operR (A : Ans α) (call : CallerA α) (i : Nat) (s : SOper) (T : Tmps) (h : Heap) (n : Nat) (k : AV → Heap → Nat → α) : α :=
  match s.guard with
  | none => opR A call i s.op T h n k
  | some (g, want) => lkK T g fun x => (match x with
    | .bool b => ifB want (ifB b (opR A call i s.op T h n k) (k (.tup []) h n)) (ifB b (k (.tup []) h n) (opR A call i s.op T h n k))
    | .tup [] => k (.tup []) h n
    | _ => A.bad)

def operFP (i : Nat) (s : SOper) (T : Tmps) (h : Heap) : FP :=
  match s.guard with
  | none => stepFP i s.op T h
  | some (g, want) => match wantedA (lk T g) want with
    | some true => stepFP i s.op T h
    | _ => ⟨false, [], []⟩

section
variable {A : Ans α} (hA : A.OK) {call : CallerA α} (hc : CallOKA P A call)
include hA hc
theorem operR_sound {i : Nat} {s : SOper} {T : Tmps} {h : Heap} {n : Nat} {k : AV → Heap → Nat → α} (hx : A.holds (operR A call i s T h n k)) :
    ∃ v h1 n', A.holds (k v h1 n') ∧ StepV P i s T h v h1 (operFP i s T h) := by
  unfold operR at hx
  unfold StepV operFP
  cases hg : s.guard with
  | none =>
    rw [hg] at hx
    obtain ⟨v, h1, n', hk, hs⟩ := opR_sound hA hc hx
    exact ⟨v, h1, n', hk, hs⟩
  | some p =>
    obtain ⟨g, want⟩ := p
    rw [hg] at hx
    simp only [lkK_eq] at hx ⊢
    split at hx
    · rename_i b hb
      rw [hb]
      have run : A.holds (opR A call i s.op T h n k) → b = want → ∃ v h1 n', A.holds (k v h1 n') ∧ ∃ b', wantedA (.bool b) want = some b' ∧ if b' = true then StepX P i s.op T h v h1 (match wantedA (.bool b) want with | some true => stepFP i s.op T h | _ => ⟨false, [], []⟩) else (v = .tup [] ∧ h1 = h ∧ (match wantedA (.bool b) want with | some true => stepFP i s.op T h | _ => ⟨false, [], []⟩) = ⟨false, [], []⟩) := by
        intro hx2 e
        obtain ⟨v, h1, n', hk, hs⟩ := opR_sound hA hc hx2
        subst e
        exact ⟨v, h1, n', hk, true, by simp [wantedA], by simp [wantedA]; exact hs⟩
      have skip : A.holds (k (.tup []) h n) → b ≠ want → ∃ v h1 n', A.holds (k v h1 n') ∧ ∃ b', wantedA (.bool b) want = some b' ∧ if b' = true then StepX P i s.op T h v h1 (match wantedA (.bool b) want with | some true => stepFP i s.op T h | _ => ⟨false, [], []⟩) else (v = .tup [] ∧ h1 = h ∧ (match wantedA (.bool b) want with | some true => stepFP i s.op T h | _ => ⟨false, [], []⟩) = ⟨false, [], []⟩) := by
        intro hx2 e
        have e' : (b == want) = false := by simpa using e
        exact ⟨.tup [], h, n, hx2, false, by simp [wantedA, e'], by simp [wantedA, e']⟩
      simp only [ifB_eq] at hx
      cases want <;> cases b <;> simp only [Bool.false_eq_true, if_true, if_false] at hx
      · exact run hx rfl
      · exact skip hx (by simp)
      · exact skip hx (by simp)
      · exact run hx rfl
    · rename_i hb
      rw [hb]
      exact ⟨.tup [], h, n, hx, false, by simp [wantedA], by simp [wantedA]⟩
    · exact absurd hx hA.bad
end

/-! ### regions -/
def opsR (A : Ans α) (call : CallerA α) (ops : List FOp) (j : Nat) (T : Tmps) (h : Heap) (n : Nat) (k : Tmps → Heap → Nat → α) : α :=
  @List.rec FOp (fun _ => Nat → Tmps → Heap → Nat → α) (fun _ T h n => k T h n)
    (fun s _ ih j T h n => operR A call j s.o T h n fun v h n => putS s.nw T s.o.dst v fun T => fNat (Nat.succ j) fun j => ih j T h n) ops j T h n
def opsRF (A : Ans α) (call : CallerA α) (ops : List FOp) (j : Nat) (T : Tmps) (h : Heap) (n : Nat) (k : List FP → Tmps → Heap → Nat → α) : α :=
  @List.rec FOp (fun _ => Nat → Tmps → Heap → Nat → (List FP → Tmps → Heap → Nat → α) → α) (fun _ T h n k => k [] T h n)
    (fun s _ ih j T h n k => operR A call j s.o T h n fun v h1 n => putS s.nw T s.o.dst v fun T1 => fNat (Nat.succ j) fun j1 => ih j1 T1 h1 n fun fs => k (operFP j s.o T h :: fs)) ops j T h n k

theorem StepX_congr {i : Nat} {s : SOp} {T T' : Tmps} {h : Heap} {v : AV} {h1 : Heap} {f : FP} (e : ∀ j, lk T j = lk T' j) (hs : StepX P i s T h v h1 f) : StepX P i s T' h v h1 f := by
  unfold StepX at hs ⊢
  rw [← aop_congr (i := i) (s := s) (fun j _ => e j)]
  exact hs
theorem StepV_congr {i : Nat} {s : SOper} {T T' : Tmps} {h : Heap} {v : AV} {h1 : Heap} {f : FP} (e : ∀ j, lk T j = lk T' j) (hs : StepV P i s T h v h1 f) : StepV P i s T' h v h1 f := by
  unfold StepV at hs ⊢
  split
  · rename_i hg; rw [hg] at hs; exact StepX_congr e hs
  · rename_i g want hg
    rw [hg] at hs
    obtain ⟨b, hb, h2⟩ := hs
    refine ⟨b, by rw [← e]; exact hb, ?_⟩
    split
    · rename_i hb'; rw [if_pos hb'] at h2; exact StepX_congr e h2
    · rename_i hb'; rw [if_neg hb'] at h2; exact h2

section
variable {A : Ans α} (hA : A.OK) {call : CallerA α} (hc : CallOKA P A call)
include hA hc
theorem opsR_sound {base : Nat} {k : Tmps → Heap → Nat → α} : ∀ (r : List FOp) (i : Nat) (T T0 : Tmps) (h : Heap) (n : Nat), (∀ j, lk T j = lk T0 j) → A.holds (opsR A call r (base + i) T h n k) →
    ∃ T' T0' h' n' fs, A.holds (k T' h' n') ∧ (∀ j, lk T' j = lk T0' j) ∧ RunF P base i (r.map FOp.o) fs ⟨T0, h⟩ ⟨T0', h'⟩
  | [], i, T, T0, h, n, e, hx => ⟨T, T0, h, n, [], hx, e, rfl, rfl⟩
  | s :: r, i, T, T0, h, n, e, hx => by
    have hx : A.holds (operR A call (base + i) s.o T h n fun v h n => putS s.nw T s.o.dst v fun T => fNat (Nat.succ (base + i)) fun j => opsR A call r j T h n k) := hx
    obtain ⟨v, h1, n1, hk, hs⟩ := operR_sound hA hc hx
    obtain ⟨T1, hT1, e1⟩ := putS_same s.nw T s.o.dst v (fun T => fNat (Nat.succ (base + i)) fun j => opsR A call r j T h1 n1 k)
    rw [hT1, fNat_eq] at hk
    have e2 : ∀ j, lk T1 j = lk (putD T0 s.o.dst v) j := by
      intro j
      rw [e1, lk_putD, lk_putD, e]
    obtain ⟨T', T0', h', n', fs, h2, h3, h4⟩ := opsR_sound (base := base) r (i + 1) T1 (putD T0 s.o.dst v) h1 n1 e2 hk
    exact ⟨T', T0', h', n', _ :: fs, h2, h3, _, fs, v, h1, rfl, StepV_congr e hs, h4⟩

theorem opsRF_sound {base : Nat} : ∀ (r : List FOp) (i : Nat) (T T0 : Tmps) (h : Heap) (n : Nat) (k : List FP → Tmps → Heap → Nat → α), (∀ j, lk T j = lk T0 j) → A.holds (opsRF A call r (base + i) T h n k) →
    ∃ T' T0' h' n' fs, A.holds (k fs T' h' n') ∧ (∀ j, lk T' j = lk T0' j) ∧ RunF P base i (r.map FOp.o) fs ⟨T0, h⟩ ⟨T0', h'⟩
  | [], i, T, T0, h, n, k, e, hx => ⟨T, T0, h, n, [], hx, e, rfl, rfl⟩
  | s :: r, i, T, T0, h, n, k, e, hx => by
    have hx : A.holds (operR A call (base + i) s.o T h n fun v h1 n => putS s.nw T s.o.dst v fun T1 => fNat (Nat.succ (base + i)) fun j1 => opsRF A call r j1 T1 h1 n fun fs => k (operFP (base + i) s.o T h :: fs)) := hx
    obtain ⟨v, h1, n1, hk, hs⟩ := operR_sound hA hc hx
    obtain ⟨T1, hT1, e1⟩ := putS_same s.nw T s.o.dst v (fun T1 => fNat (Nat.succ (base + i)) fun j1 => opsRF A call r j1 T1 h1 n1 fun fs => k (operFP (base + i) s.o T h :: fs))
    rw [hT1, fNat_eq] at hk
    have e2 : ∀ j, lk T1 j = lk (putD T0 s.o.dst v) j := by
      intro j
      rw [e1, lk_putD, lk_putD, e]
    obtain ⟨T', T0', h', n', fs, h2, h3, h4⟩ := opsRF_sound (base := base) r (i + 1) T1 (putD T0 s.o.dst v) h1 n1 _ e2 hk
    exact ⟨T', T0', h', n', _ :: fs, h2, h3, _, fs, v, h1, rfl, StepV_congr e hs, h4⟩
end

theorem W.regionS {N : Nat} {Q : SX → St → Prop} {A C : St} {sops : List SOper} {pairs : List (Nat × Nat)} {dead : List Nat} (base : Nat) (fs : List FP) (hr : RunF P base 0 sops fs A C)
    (hp : (pairs.all fun p => (fs.getD p.1 ⟨false, [], []⟩).apart (fs.getD p.2 ⟨false, [], []⟩)) = true) {L : Tmps} (hL : Sub L C.T) (hQ : Q .normal ⟨L, C.h⟩) : W P N (.region sops pairs dead) Q A := by
  have h1 := RunF.to_L (P := P) (base := base) (sops := sops) sops [] fs [] A C (by simp) rfl hr
  intro code hok c a w S Q' hQ'
  cases code <;> simp only [okCode, Bool.false_eq_true] at hok
  refine region_sound hok (base := base) (fpf := fun i => fs.getD i ⟨false, [], []⟩) (by simpa [List.range_eq_range'] using h1) ?_ S fun c' a' w' S' E' => hQ' .normal _ c' a' w' hQ ?_ E'
  · intro p hpm
    exact List.all_eq_true.1 hp p hpm
  · refine ⟨S'.heap, fun i => ?_, S'.size, S'.defers⟩
    rcases hL i with e | e
    · show VRel c' w' (lk L i) _
      rw [e]; simp [VRel]
    · show VRel c' w' (lk L i) _
      rw [e]; exact S'.tmps i

/-! ### functions and code -/
def argR (i : Nat) (l : List AV) (k : Tmps → α) : α :=
  @List.rec AV (fun _ => Nat → (Tmps → α) → α) (fun _ k => k []) (fun x _ ih i k => fNat (Nat.succ i) fun j => ih j fun r => k ((i, x) :: r)) l i k
theorem argR_eq (i : Nat) (l : List AV) (k : Tmps → α) : argR i l k = k (argT i l) := by
  induction l generalizing i k with
  | nil => rfl
  | cons x r ih =>
    show fNat (Nat.succ i) (fun j => argR j r fun r => k ((i, x) :: r)) = _
    rw [fNat_eq, ih]; rfl

/-- The results. -/
def resR (A : Ans α) (T : Tmps) (h : Heap) (l : List SRes) (k : List AV → α) : α :=
  @List.rec SRes (fun _ => (List AV → α) → α) (fun k => k []) (fun x _ ih k => (match x with
    | .tmp t => lkK T t fun v => ih fun vs => k (v :: vs)
    | .cell a m => lkK T a fun p => loadR A m p h fun v => ih fun vs => k (v :: vs))) l k
theorem resR_eq (A : Ans α) (T : Tmps) (h : Heap) (l : List SRes) (k : List AV → α) : resR A T h l k = match resV T h l with | some vs => k vs | none => A.bad := by
  have : ∀ (l : List SRes) (k : List AV → α), resR A T h l k = match resV T h l with | some vs => k vs | none => A.bad := by
    intro l
    induction l with
    | nil => intro k; rfl
    | cons x r ih =>
      intro k
      cases x with
      | tmp t =>
        show lkK T t (fun v => resR A T h r fun vs => k (v :: vs)) = _
        rw [lkK_eq, ih]
        simp only [resV]
        cases resV T h r <;> rfl
      | cell a m =>
        show lkK T a (fun p => loadR A m p h fun v => resR A T h r fun vs => k (v :: vs)) = _
        rw [lkK_eq, loadR_eq]
        simp only [resV]
        cases (aLoad m (lk T a)).run h with
        | none => rfl
        | some q =>
          obtain ⟨v, h'⟩ := q
          simp only
          rw [ih]
          cases resV T h r <;> rfl
  exact this l k

abbrev Orc := Nat → Option (List AV × AV)

def bodyR (A : Ans α) (sf : FFn) (run : FCode → Tmps → Heap → Nat → KcA α → α) (args : List AV) (h : Heap) (n : Nat) (k : AV → Heap → Nat → α) : α :=
  argR 0 args fun T => run sf.body T h n fun e T h n => (match e with
    | .exit _ => A.bad
    | _ => resR A T h sf.res fun vs => fAV (resOf vs) fun v => k v h n)

def callR (A : Ans α) (orc : Orc) (fns : Nat → Option FFn) (run : FCode → Tmps → Heap → Nat → KcA α → α) : CallerA α := fun m f args h n k =>
  match orc f with
  | some (as, v) => (match m with
    | .heap => A.bad
    | _ => A.asm args as (k v h n))
  | none => match fns f with
    | none => A.bad
    | some sf => ifB (Nat.ble args.length sf.n) (match m with
      | .heap => bodyR A sf run args h n k
      | _ => ifB (noRefs args) (bodyR A sf run args .e 64 fun v h' _ => runR A (frzH 6 v) h' fun v _ => ifB (noRef v) (fAV v fun v => k v h n) A.bad) A.bad) A.bad

theorem W.post_sub {N : Nat} {sc : SCode} {e0 : SX} {T' : Tmps} {h' : Heap} {A : St} (h : W P N sc (fun e B => e = e0 ∧ B.h = h' ∧ Sub T' B.T) A) : W P N sc (fun e B => e = e0 ∧ B = ⟨T', h'⟩) A := by
  intro code hok c a w S Q' hQ
  refine h code hok c a w S Q' ?_
  rintro e B c' a' w' ⟨rfl, rfl, hs⟩ S' E'
  refine hQ e ⟨T', B.h⟩ c' a' w' ⟨rfl, rfl⟩ ⟨S'.heap, fun i => ?_, S'.size, S'.defers⟩ E'
  rcases hs i with e | e
  · show VRel c' w' (lk T' i) _
    rw [e]; simp [VRel]
  · show VRel c' w' (lk T' i) _
    rw [e]; exact S'.tmps i

/-- How a round ends. -/
def ml1 (e : SX) (b1 b2 : Nat) (J : Prop) (X : SX → Prop) : Prop :=
  match e with
  | .normal => J
  | .exit j => if j = b2 then J else if j = b1 then X .normal else X (.exit j)
  | .ret => X .ret

theorem RunF.congr {base : Nat} : ∀ {r : List SOper} {i : Nat} {fs : List FP} {T T' : Tmps} {h : Heap} {C : St}, RunF P base i r fs ⟨T, h⟩ C → (∀ j, lk T j = lk T' j) →
    ∃ D : St, RunF P base i r fs ⟨T', h⟩ D ∧ D.h = C.h ∧ ∀ j, lk C.T j = lk D.T j
  | [], i, fs, T, T', h, C, hr, e => by
    obtain ⟨rfl, rfl⟩ := hr
    exact ⟨⟨T', h⟩, ⟨rfl, rfl⟩, rfl, e⟩
  | s :: r, i, fs, T, T', h, C, hr, e => by
    obtain ⟨f, fs', v, h1, rfl, hs, hr⟩ := hr
    obtain ⟨D, hD, e1, e2⟩ := RunF.congr hr (T' := putD T' s.dst v) (fun j => by rw [lk_putD, lk_putD, e])
    exact ⟨D, ⟨f, fs', v, h1, rfl, StepV_congr e hs, hD⟩, e1, e2⟩

theorem lk_up_congr {X Y : Tmps} {i : Nat} {v : AV} (h : ∀ j, lk X j = lk Y j) : ∀ j, lk (up X i v) j = lk (up Y i v) j := by
  intro j
  rw [lk_up, lk_up, h]

/-- Behind the one round of a loop over a map with one entry. -/
def mlEnd (A : Ans α) (it nx ok n mb mg : Nat) (T : Tmps) (h : Heap) (k : Tmps → α) : α :=
  lkK T it fun p => (match p with
    | .ptr a 0 0 => ifB (Nat.beq a n) (getR h mb fun o => (match o with
      | some (.map g es) => ifB (Nat.beq g mg && Nat.beq es.length 1) (upR T nx .any fun T => upR T ok (.bool false) fun T => k T) A.bad
      | _ => A.bad)) A.bad
    | _ => A.bad)
theorem mlEnd_holds {A : Ans α} (hA : A.OK) {it nx ok n mb mg : Nat} {T : Tmps} {h : Heap} {k : Tmps → α} (hx : A.holds (mlEnd A it nx ok n mb mg T h k)) :
    lk T it = .ptr n 0 0 ∧ (∃ es, h.get mb = some (.map mg es) ∧ es.length = 1) ∧ A.holds (k (up (up T nx .any) ok (.bool false))) := by
  unfold mlEnd at hx
  rw [lkK_eq] at hx
  split at hx
  · rename_i a hp
    rw [ifB_eq] at hx
    split at hx
    · rename_i ha
      have : a = n := by simpa using ha
      subst this
      rw [getR_eq] at hx
      split at hx
      · rename_i g es hg
        rw [ifB_eq] at hx
        split at hx
        · rename_i hc
          simp only [Bool.and_eq_true] at hc
          have hgm : g = mg := by simpa using hc.1
          subst hgm
          rw [upR_eq, upR_eq] at hx
          exact ⟨hp, ⟨es, hg, by simpa using hc.2⟩, hx⟩
        · exact absurd hx hA.bad
      · exact absurd hx hA.bad
    · exact absurd hx hA.bad
  · exact absurd hx hA.bad

def exR (A : Ans α) (orc : Orc) (fns : Nat → Option FFn) (d : Nat) : FCode → Tmps → Heap → Nat → KcA α → α :=
  @Nat.rec (fun _ => FCode → Tmps → Heap → Nat → KcA α → α) (fun _ _ _ _ _ => A.bad) (fun _ ih c T h n k =>
    match c with
    | .skip => k .normal T h n
    | .ret => k .ret T h n
    | .exit i => k (.exit i) T h n
    | .bad => A.bad
    | .region ops [] dead => opsR A (callR A orc fns ih) ops n T h (Nat.add n 64) fun T h n => rmR dead T fun T => fNat n fun n => k .normal T h n
    | .region ops (p :: ps) dead => opsRF A (callR A orc fns ih) ops n T h (Nat.add n 64) fun fs T h n =>
        ifB ((p :: ps).all fun p => (fs.getD p.1 ⟨false, [], []⟩).apart (fs.getD p.2 ⟨false, [], []⟩)) (rmR dead T fun T => fNat n fun n => k .normal T h n) A.bad
    | .seq a b => ih a T h n fun e T h n => (match e with
      | .normal => ih b T h n k
      | e => k e T h n)
    | .cond x a b => evK T x fun v => (match v with
      | .bool t => ifB t (ih a T h n k) (ih b T h n k)
      | _ => A.bad)
    | .block i b => ih b T h n fun e T h n => (match e with
      | .exit j => ifB (Nat.beq j i) (k .normal T h n) (k (.exit j) T h n)
      | e => k e T h n)
    | .mloop pre x it nx ok en b1 b2 rest body => opsR A (callR A orc fns ih) pre n T h (Nat.add n 64) fun T h n => evK T x fun v => (match v with
      | .map mb mg => getR h mb fun o => (match o with
        | some (.map g es) => ifB (Nat.beq g mg) (getR h n fun o => (match o with
          | none => putBR A h n (.dead 0) fun h => upR T it (.ptr n 0 0) fun T => upR T nx .any fun T => (match es with
            | [] => upR T ok (.bool false) fun T => k .normal T h (Nat.succ n)
            | [(kk, vv)] => upR T ok (.bool true) fun T => upR T en (.tup [kk, vv]) fun T =>
                opsR A (callR A orc fns ih) rest (Nat.succ n) T h (Nat.add n 64) fun T h n2 => ih body T h n2 fun e T h n2 => (match e with
                  | .normal => mlEnd A it nx ok n mb mg T h fun T => k .normal T h n2
                  | .exit j => ifB (Nat.beq j b2) (mlEnd A it nx ok n mb mg T h fun T => k .normal T h n2) (ifB (Nat.beq j b1) (k .normal T h n2) (k (.exit j) T h n2))
                  | .ret => k .ret T h n2)
            | _ => A.bad)
          | some _ => A.bad)) A.bad
        | _ => A.bad)
      | _ => A.bad)
    | .loop b => ih b T h n fun e T h n => (match e with
      | .normal => ih (.loop b) T h n k
      | e => k e T h n)) d

def ExOKA (P : Program) (A : Ans α) (run : FCode → Tmps → Heap → Nat → KcA α → α) : Prop := ∀ (N : Nat) (c : FCode) (T : Tmps) (h : Heap) (n : Nat) (k : KcA α), A.holds (run c T h n k) →
  ∃ e T' h' n', A.holds (k e T' h' n') ∧ WX P N c.slim (fun e' B => e' = e ∧ B = ⟨T', h'⟩) ⟨T, h⟩

def OrcOK (P : Program) (orc : Orc) : Prop := ∀ f as v, orc f = some (as, v) → PSpec P f as v

section
variable {A : Ans α} (hA : A.OK) {orc : Orc} (ho : OrcOK P orc) {fns : Nat → Option FFn} (hf : ∀ f sf, fns f = some sf → okFn P f sf.slim = true)
include hA ho hf

theorem callR_sound {run : FCode → Tmps → Heap → Nat → KcA α → α} (hr : ExOKA P A run) : CallOKA P A (callR A orc fns run) := by
  intro m f args h n k hx
  unfold callR at hx
  cases hor : orc f with
  | some p =>
    obtain ⟨as, v⟩ := p
    rw [hor] at hx
    simp only at hx
    have hp := ho f as v hor
    cases m with
    | heap => exact absurd hx hA.bad
    | pure =>
      obtain ⟨e, hk⟩ := hA.asm _ _ _ hx
      exact ⟨v, h, n, hk, fun e => (by cases e), fun _ => by rw [e]; exact hp⟩
    | borrow =>
      obtain ⟨e, hk⟩ := hA.asm _ _ _ hx
      exact ⟨v, h, n, hk, fun e => (by cases e), fun _ => by rw [e]; exact hp⟩
  | none =>
    rw [hor] at hx
    simp only at hx
    cases hs : fns f with
    | none => rw [hs] at hx; exact absurd hx hA.bad
    | some sf =>
      rw [hs] at hx
      simp only [ifB_eq] at hx
      have hok := hf f sf hs
      split at hx
      · rename_i hl
        have hl : args.length ≤ sf.slim.n := Nat.le_of_ble_eq_true hl
        have body : ∀ (h0 : Heap) (n0 : Nat) (k' : AV → Heap → Nat → α), A.holds (bodyR A sf run args h0 n0 k') →
            ∃ e T' h' n' vs, (e = .normal ∨ e = .ret) ∧ resV T' h' sf.res = some vs ∧ A.holds (k' (resOf vs) h' n') ∧ W P sf.slim.n sf.slim.body (fun e' B => e' = e ∧ B = ⟨T', h'⟩) ⟨argT 0 args, h0⟩ := by
          intro h0 n0 k' hx
          unfold bodyR at hx
          rw [argR_eq] at hx
          obtain ⟨e, T', h', n', hk, hw, _⟩ := hr sf.slim.n _ _ _ _ _ hx
          have he : e = .normal ∨ e = .ret := by cases e <;> first | (exact absurd hk hA.bad) | simp
          have hk : A.holds (resR A T' h' sf.res fun vs => fAV (resOf vs) fun v => k' v h' n') := by rcases he with rfl | rfl <;> exact hk
          rw [resR_eq] at hk
          cases hv : resV T' h' sf.res with
          | none => rw [hv] at hk; exact absurd hk hA.bad
          | some vs =>
            rw [hv] at hk
            simp only [fAV_eq] at hk
            exact ⟨e, T', h', n', vs, he, hv, hk, hw⟩
        have pureC : ∀ (K : AV → α), A.holds (if noRefs args = true then bodyR A sf run args .e 64 (fun v h' _ => runR A (frzH 6 v) h' fun v _ => if noRef v = true then fAV v fun v => K v else A.bad) else A.bad) → ∃ v, A.holds (K v) ∧ PSpec P f args v := by
          intro K hx
          split at hx
          · rename_i ha
            obtain ⟨e, T', h', n', vs, he, hv, hk, hw⟩ := body _ _ _ hx
            simp only [runR_eq] at hk
            split at hk
            · rename_i v h2 hz
              split at hk
              · rename_i hn
                rw [fAV_eq] at hk
                refine ⟨v, hk, PSpec.of_W 6 hok hl ha hn (hw.mono ?_)⟩
                rintro e' B ⟨rfl, rfl⟩
                exact ⟨he, vs, hv, h2, hz⟩
              · exact absurd hk hA.bad
            · exact absurd hk hA.bad
          · exact absurd hx hA.bad
        cases m with
        | heap =>
          obtain ⟨e, T', h', n', vs, he, hv, hk, hw⟩ := body _ _ _ hx
          refine ⟨_, h', n', hk, fun _ => HSpec.of_W hok hl (hw.mono ?_), fun h => absurd rfl h⟩
          rintro e' B ⟨rfl, rfl⟩
          exact ⟨he, vs, hv, rfl, fun _ => rfl⟩
        | pure =>
          obtain ⟨v, hk, hp⟩ := pureC (fun v => k v h n) hx
          exact ⟨v, h, n, hk, fun h => (by cases h), fun _ => hp⟩
        | borrow =>
          obtain ⟨v, hk, hp⟩ := pureC (fun v => k v h n) hx
          exact ⟨v, h, n, hk, fun h => (by cases h), fun _ => hp⟩
      · exact absurd hx hA.bad

/-- RUNNING IS WALKING. -/
theorem exR_sound : ∀ d, ExOKA P A (exR A orc fns d) := by
  intro d
  induction d with
  | zero => intro N c T h n k hx; exact absurd hx hA.bad
  | succ d ih =>
    have hc := callR_sound hA ho hf ih
    intro N c T h n k hx
    cases c with
    | skip => exact ⟨_, _, _, _, hx, .of (W.skip ⟨rfl, rfl⟩) (by simp [FCode.slim])⟩
    | ret => exact ⟨_, _, _, _, hx, .of (W.ret ⟨rfl, rfl⟩) (by simp [FCode.slim])⟩
    | exit i => exact ⟨_, _, _, _, hx, .of (W.exit ⟨rfl, rfl⟩) (by simp [FCode.slim])⟩
    | bad => exact absurd hx hA.bad
    | region ops pairs dead =>
      cases pairs with
      | nil =>
        have hx : A.holds (opsR A (callR A orc fns (exR A orc fns d)) ops (n + 0) T h (Nat.add n 64) fun T h n => rmR dead T fun T => fNat n fun n => k .normal T h n) := hx
        obtain ⟨T', T0, h', n', fs, hk, e, hr⟩ := opsR_sound hA hc ops 0 T T h (Nat.add n 64) (fun _ => rfl) hx
        rw [rmR_eq, fNat_eq] at hk
        refine ⟨_, _, _, _, hk, .of (W.regionS n fs hr (by simp) (L := rmM dead T') ?_ ⟨rfl, rfl⟩) (by simp [FCode.slim])⟩
        intro i
        rcases rmM_sub dead T' i with h | h
        · exact .inl h
        · exact .inr (h.trans (e i))
      | cons p ps =>
        have hx : A.holds (opsRF A (callR A orc fns (exR A orc fns d)) ops (n + 0) T h (Nat.add n 64) fun fs T h n =>
          ifB ((p :: ps).all fun p => (fs.getD p.1 ⟨false, [], []⟩).apart (fs.getD p.2 ⟨false, [], []⟩)) (rmR dead T fun T => fNat n fun n => k .normal T h n) A.bad) := hx
        obtain ⟨T', T0, h', n', fs, hk, e, hr⟩ := opsRF_sound hA hc ops 0 T T h (Nat.add n 64) _ (fun _ => rfl) hx
        rw [ifB_eq] at hk
        split at hk
        · rename_i hp
          rw [rmR_eq, fNat_eq] at hk
          refine ⟨_, _, _, _, hk, .of (W.regionS n fs hr hp (L := rmM dead T') ?_ ⟨rfl, rfl⟩) (by simp [FCode.slim])⟩
          intro i
          rcases rmM_sub dead T' i with h | h
          · exact .inl h
          · exact .inr (h.trans (e i))
        · exact absurd hk hA.bad
    | seq a b =>
      obtain ⟨e, T', h', n', hk, hw, _⟩ := ih N _ _ _ _ _ hx
      cases e with
      | normal =>
        obtain ⟨e2, T2, h2, n2, hk2, hw2, _⟩ := ih N _ _ _ _ _ hk
        refine ⟨e2, T2, h2, n2, hk2, .of (W.seq (hw.mono ?_)) (by simp [FCode.slim])⟩
        rintro e' B ⟨rfl, rfl⟩
        exact hw2
      | exit j =>
        refine ⟨_, _, _, _, hk, .of (W.seq (hw.mono ?_)) (by simp [FCode.slim])⟩
        rintro e' B ⟨rfl, rfl⟩
        exact ⟨rfl, rfl⟩
      | ret =>
        refine ⟨_, _, _, _, hk, .of (W.seq (hw.mono ?_)) (by simp [FCode.slim])⟩
        rintro e' B ⟨rfl, rfl⟩
        exact ⟨rfl, rfl⟩
    | cond x a b =>
      have hx : A.holds (evK T x fun v => (match v with
        | .bool t => ifB t (exR A orc fns d a T h n k) (exR A orc fns d b T h n k)
        | _ => A.bad)) := hx
      rw [evK_eq] at hx
      split at hx
      · rename_i t hb
        rw [ifB_eq] at hx
        cases t with
        | true =>
          obtain ⟨e, T', h', n', hk, hw, _⟩ := ih N _ _ _ _ _ hx
          exact ⟨e, T', h', n', hk, .of (W.cond hb (fun _ => hw) (fun h => by cases h)) (by simp [FCode.slim])⟩
        | false =>
          obtain ⟨e, T', h', n', hk, hw, _⟩ := ih N _ _ _ _ _ hx
          exact ⟨e, T', h', n', hk, .of (W.cond hb (fun h => by cases h) (fun _ => hw)) (by simp [FCode.slim])⟩
      · exact absurd hx hA.bad
    | block i b =>
      obtain ⟨e, T', h', n', hk, hw, _⟩ := ih N _ _ _ _ _ hx
      cases e with
      | normal =>
        refine ⟨_, _, _, _, hk, .of (W.block (hw.mono ?_)) (by simp [FCode.slim])⟩
        rintro e' B ⟨rfl, rfl⟩
        exact ⟨rfl, rfl⟩
      | ret =>
        refine ⟨_, _, _, _, hk, .of (W.block (hw.mono ?_)) (by simp [FCode.slim])⟩
        rintro e' B ⟨rfl, rfl⟩
        exact ⟨rfl, rfl⟩
      | exit j =>
        simp only [ifB_eq] at hk
        split at hk
        · rename_i hj
          have : j = i := by simpa using hj
          refine ⟨_, _, _, _, hk, .of (W.block (hw.mono ?_)) (by simp [FCode.slim])⟩
          rintro e' B ⟨rfl, rfl⟩
          simp [this]
        · rename_i hj
          have : j ≠ i := by rintro rfl; simp at hj
          refine ⟨_, _, _, _, hk, .of (W.block (hw.mono ?_)) (by simp [FCode.slim])⟩
          rintro e' B ⟨rfl, rfl⟩
          simp [this]
    | mloop pre x it nx ok en b1 b2 rest body =>
      have hx : A.holds (opsR A (callR A orc fns (exR A orc fns d)) pre (n + 0) T h (Nat.add n 64) fun T h n => evK T x fun v => (match v with
      | .map mb mg => getR h mb fun o => (match o with
        | some (.map g es) => ifB (Nat.beq g mg) (getR h n fun o => (match o with
          | none => putBR A h n (.dead 0) fun h => upR T it (.ptr n 0 0) fun T => upR T nx .any fun T => (match es with
            | [] => upR T ok (.bool false) fun T => k .normal T h (Nat.succ n)
            | [(kk, vv)] => upR T ok (.bool true) fun T => upR T en (.tup [kk, vv]) fun T =>
                opsR A (callR A orc fns (exR A orc fns d)) rest (Nat.succ n + 0) T h (Nat.add n 64) fun T h n2 => exR A orc fns d body T h n2 fun e T h n2 => (match e with
                  | .normal => mlEnd A it nx ok n mb mg T h fun T => k .normal T h n2
                  | .exit j => ifB (Nat.beq j b2) (mlEnd A it nx ok n mb mg T h fun T => k .normal T h n2) (ifB (Nat.beq j b1) (k .normal T h n2) (k (.exit j) T h n2))
                  | .ret => k .ret T h n2)
            | _ => A.bad)
          | some _ => A.bad)) A.bad
        | _ => A.bad)
      | _ => A.bad)) := hx
      obtain ⟨T1, T0, h1, n1, fs1, hk, e1, hr1⟩ := opsR_sound hA hc pre 0 T T h (Nat.add n 64) (fun _ => rfl) hx
      rw [evK_eq] at hk
      have evc : ∀ y : Opd, ev T0 y = ev T1 y := fun y => (ev_congr fun i _ => e1 i).symm
      split at hk
      · rename_i mb mg hxv
        rw [getR_eq] at hk
        split at hk
        · rename_i g es hg
          rw [ifB_eq] at hk
          split at hk
          · rename_i hgm
            have hgm : g = mg := by simpa using hgm
            subst hgm
            rw [getR_eq] at hk
            split at hk
            · rename_i hn
              rw [putBR_eq] at hk
              split at hk
              · rename_i hl
                rw [upR_eq, upR_eq] at hk
                have hmb : (h1.set n1 (.dead 0)).get mb = some (.map g es) := by
                  rw [Tr.get_set _ hl, if_neg (by rintro rfl; rw [hg] at hn; cases hn)]; exact hg
                have hit : ∀ j, lk (up T0 it (.ptr n1 0 0)) j = lk (up T1 it (.ptr n1 0 0)) j := lk_up_congr fun j => (e1 j).symm
                split at hk
                · -- nothing in it
                  rw [upR_eq] at hk
                  refine ⟨_, _, _, _, hk, .of (W.post_sub (W.mloop n fs1 hr1 (by rw [evc, hxv]) hg hn hl (fun vis B => vis = [] ∧ B.h = h1.set n1 (.dead 0) ∧ ∀ j, lk B.T j = lk (up T1 it (.ptr n1 0 0)) j) ?_ ?_ ?_ ?_)) (by simp [FCode.slim])⟩
                  · rintro vis B ⟨rfl, hB, hT⟩
                    refine ⟨by rw [hT, lk_up, if_pos rfl], [], by rw [hB]; exact hmb, rfl⟩
                  · exact ⟨rfl, rfl, hit⟩
                  · rintro vis B i kk vv es' ⟨rfl, hB, hT⟩ _ hm' hi
                    rw [hB, hmb] at hm'; cases hm'; simp at hi
                  · rintro vis B ⟨rfl, hB, hT⟩ _
                    exact ⟨rfl, hB, .of_eq fun i => (lk_up_congr (lk_up_congr hT) i).symm⟩
                · -- one entry
                  rename_i kk vv
                  rw [upR_eq, upR_eq] at hk
                  obtain ⟨T2, T20, h2, n2, fs2, hk2, e2, hr2⟩ := opsR_sound hA hc rest 0 _ (up (up (up (up T1 it (.ptr n1 0 0)) nx .any) ok (.bool true)) en (.tup [kk, vv])) _ _ (fun _ => rfl) hk
                  obtain ⟨e, T3, h3, n3, hk3, hw3, _⟩ := ih N _ _ _ _ _ hk2
                  have walk : ∀ (Qb : SX → St → Prop) (BT : Tmps), (∀ j, lk BT j = lk (up T1 it (.ptr n1 0 0)) j) → Qb e ⟨T3, h3⟩ →
                      ∃ bs fs C, RunF P bs 0 (rest.map FOp.o) fs ⟨up (up (up BT nx .any) ok (.bool true)) en (.tup [kk, vv]), h1.set n1 (.dead 0)⟩ C ∧ W P N body.slim Qb C := by
                    intro Qb BT hBT hq
                    obtain ⟨D, hD, d1, d2⟩ := hr2.congr (T' := up (up (up BT nx .any) ok (.bool true)) en (.tup [kk, vv])) (lk_up_congr (lk_up_congr (lk_up_congr fun j => (hBT j).symm)))
                    refine ⟨_, fs2, D, hD, W.congr (hw3.mono ?_) ⟨fun j => ?_, fun b => ?_⟩⟩
                    · rintro e' B ⟨rfl, rfl⟩; exact hq
                    · show lk D.T j = lk T2 j
                      rw [← d2, e2]
                    · rw [d1]
                  have main : ∀ (e0 : SX) (T4 : Tmps) (h4 : Heap) (J : List Nat → St → Prop),
                      (∀ vis B, J vis B → vis = [0] ∧ lk B.T it = .ptr n1 0 0 ∧ (∃ es', B.h.get mb = some (.map g es') ∧ es'.length = 1)) →
                      ml1 e b1 b2 (J [0] ⟨T3, h3⟩) (fun x => x = e0 ∧ h3 = h4 ∧ Sub T4 T3) →
                      (∀ vis B, J vis B → SX.normal = e0 ∧ B.h = h4 ∧ Sub T4 (up (up B.T nx .any) ok (.bool false))) →
                      W P N (FCode.mloop pre x it nx ok en b1 b2 rest body).slim (fun e' B => e' = e0 ∧ B = ⟨T4, h4⟩) ⟨T, h⟩ := by
                    intro e0 T4 h4 J hJ hround hdone
                    refine W.post_sub (W.mloop n fs1 hr1 (by rw [evc, hxv]) hg hn hl (fun vis B => (vis = [] ∧ B.h = h1.set n1 (.dead 0) ∧ ∀ j, lk B.T j = lk (up T1 it (.ptr n1 0 0)) j) ∨ J vis B) ?_ ?_ ?_ ?_)
                    · rintro vis B (⟨rfl, hB, hT⟩ | hB)
                      · exact ⟨by rw [hT, lk_up, if_pos rfl], _, by rw [hB]; exact hmb, rfl⟩
                      · obtain ⟨_, h5, es', h6, h7⟩ := hJ vis B hB
                        exact ⟨h5, es', h6, by simp [h7]⟩
                    · exact .inl ⟨rfl, rfl, hit⟩
                    · rintro vis B i k' v' es' hB hni hm' hi
                      have hi0 : i = 0 := by
                        have hlt := (List.getElem?_eq_some_iff.1 hi).1
                        have : es'.length = 1 := by
                          rcases hB with ⟨_, hB, _⟩ | hB
                          · rw [hB, hmb] at hm'; cases hm'; rfl
                          · obtain ⟨_, _, es2, h6, h7⟩ := hJ vis B hB
                            rw [h6] at hm'; cases hm'; exact h7
                        omega
                      subst hi0
                      rcases hB with ⟨rfl, hB, hT⟩ | hB
                      · rw [hB, hmb] at hm'
                        cases hm'
                        simp only [List.getElem?_cons_zero, Option.some.injEq, Prod.mk.injEq] at hi
                        obtain ⟨rfl, rfl⟩ := hi
                        rw [hB]
                        refine walk _ B.T hT ?_
                        unfold ml1 at hround
                        split at hround
                        · exact .inr hround
                        · simp only
                          split at hround
                          · rename_i e3; rw [if_pos e3]; exact .inr hround
                          · rename_i e3
                            rw [if_neg e3]
                            split at hround
                            · rename_i e4; rw [if_pos e4]; exact hround
                            · rename_i e4; rw [if_neg e4]; exact hround
                        · exact hround
                      · obtain ⟨rfl, _⟩ := hJ vis B hB
                        exact absurd (by simp) hni
                    · rintro vis B (⟨rfl, hB, hT⟩ | hB) hall
                      · have := hall 0 (by simp); cases this
                      · exact hdone vis B hB
                  have fin : A.holds (mlEnd A it nx ok n1 mb g T3 h3 fun T => k .normal T h3 n3) → (∀ (J : Prop) (X : SX → Prop), J → ml1 e b1 b2 J X) →
                      ∃ e T' h' n', A.holds (k e T' h' n') ∧ WX P N (FCode.mloop pre x it nx ok en b1 b2 rest body).slim (fun e' B => e' = e ∧ B = ⟨T', h'⟩) ⟨T, h⟩ := by
                    intro hend hm
                    obtain ⟨h5, ⟨es', h6, h7⟩, h8⟩ := mlEnd_holds hA hend
                    refine ⟨_, _, _, _, h8, .of (main .normal _ h3 (fun vis B => vis = [0] ∧ B = ⟨T3, h3⟩) ?_ (hm _ _ ⟨rfl, rfl⟩) ?_) (by simp [FCode.slim])⟩
                    · rintro vis B ⟨rfl, rfl⟩; exact ⟨rfl, h5, es', h6, h7⟩
                    · rintro vis B ⟨rfl, rfl⟩; exact ⟨rfl, rfl, .of_eq fun _ => rfl⟩
                  cases e with
                  | normal => exact fin hk3 (fun J X hJ => hJ)
                  | ret =>
                    exact ⟨_, _, _, _, hk3, .of (main .ret T3 h3 (fun _ _ => False) (fun _ _ h => h.elim) ⟨rfl, rfl, .of_eq fun _ => rfl⟩ (fun _ _ h => h.elim)) (by simp [FCode.slim])⟩
                  | exit j =>
                    simp only [ifB_eq] at hk3
                    split at hk3
                    · rename_i hj
                      have hj : j = b2 := by simpa using hj
                      exact fin hk3 (fun J X hJ => by show (if j = b2 then J else _); rw [if_pos hj]; exact hJ)
                    · rename_i hj
                      have hj : j ≠ b2 := by rintro rfl; simp at hj
                      split at hk3
                      · rename_i hj1
                        have hj1 : j = b1 := by simpa using hj1
                        exact ⟨_, _, _, _, hk3, .of (main .normal T3 h3 (fun _ _ => False) (fun _ _ h => h.elim) (by show (if j = b2 then _ else if j = b1 then _ else _); rw [if_neg hj, if_pos hj1]; exact ⟨rfl, rfl, .of_eq fun _ => rfl⟩) (fun _ _ h => h.elim)) (by simp [FCode.slim])⟩
                      · rename_i hj1
                        have hj1 : j ≠ b1 := by rintro rfl; simp at hj1
                        exact ⟨_, _, _, _, hk3, .of (main (.exit j) T3 h3 (fun _ _ => False) (fun _ _ h => h.elim) (by show (if j = b2 then _ else if j = b1 then _ else _); rw [if_neg hj, if_neg hj1]; exact ⟨rfl, rfl, .of_eq fun _ => rfl⟩) (fun _ _ h => h.elim)) (by simp [FCode.slim])⟩
                · exact absurd hk hA.bad
              · exact absurd hk hA.bad
            · exact absurd hk hA.bad
          · exact absurd hk hA.bad
        · exact absurd hk hA.bad
      · exact absurd hk hA.bad
    | loop b =>
      have key : ∃ e T' h' n', A.holds (k e T' h' n') ∧ WL P N b.slim (fun e' B => e' = e ∧ B = ⟨T', h'⟩) ⟨T, h⟩ := by
        obtain ⟨e, T', h', n', hk, hw, _⟩ := ih N _ _ _ _ _ hx
        cases e with
        | normal =>
          obtain ⟨e2, T2, h2, n2, hk2, _, hw2⟩ := ih N _ _ _ _ _ hk
          refine ⟨e2, T2, h2, n2, hk2, WL.round (hw.mono ?_)⟩
          rintro e' B ⟨rfl, rfl⟩
          exact hw2 _ rfl
        | exit j =>
          refine ⟨_, _, _, _, hk, WL.round (hw.mono ?_)⟩
          rintro e' B ⟨rfl, rfl⟩
          exact ⟨rfl, rfl⟩
        | ret =>
          refine ⟨_, _, _, _, hk, WL.round (hw.mono ?_)⟩
          rintro e' B ⟨rfl, rfl⟩
          exact ⟨rfl, rfl⟩
      obtain ⟨e, T', h', n', hk, hw⟩ := key
      exact ⟨e, T', h', n', hk, hw.loop, fun b' e => by cases e; exact hw⟩
end

/-! ### the functions of a program, by number -/
inductive FT2 where
  | z
  | l (k : Nat) (s : FFn)
  | n (k : Nat) (a b : FT2)
def FT2.get (t : FT2) (i : Nat) : Option FFn :=
  @FT2.rec (fun _ => Option FFn) none (fun k s => ifB (Nat.beq i k) (some s) none) (fun k _ _ a b => ifB (Nat.ble (Nat.succ i) k) a b) t
def FT2.OK (P : Program) : FT2 → Prop
  | .z => True
  | .l k s => okFn P k s.slim = true
  | .n _ a b => a.OK P ∧ b.OK P
theorem FT2.ok : ∀ {t : FT2}, t.OK P → ∀ f sf, t.get f = some sf → okFn P f sf.slim = true
  | .z, _, f, sf, h => by cases h
  | .l k s, ho, f, sf, h => by
    have h2 : ifB (Nat.beq f k) (some s) none = some sf := h
    rw [ifB_eq] at h2
    split at h2
    · rename_i e
      have e : f = k := by simpa using e
      have h3 : s = sf := by simpa using h2
      rw [e, ← h3]
      exact ho
    · cases h2
  | .n k a b, ho, f, sf, h => by
    have h : ifB (Nat.ble (Nat.succ f) k) (a.get f) (b.get f) = some sf := h
    rw [ifB_eq] at h
    split at h
    · exact FT2.ok ho.1 f sf h
    · exact FT2.ok ho.2 f sf h

/-! ### what is proved by running -/
def noOrc : Orc := fun _ => none
theorem noOrc_ok : OrcOK P noOrc := fun f as v h => by cases h
/-- What one nullary function gives. -/
def orc1 (f : Nat) (v : AV) : Orc := fun g => ifB (Nat.beq g f) (some ([], v)) none
theorem orc1_ok {f : Nat} {v : AV} (h : PSpec P f [] v) : OrcOK P (orc1 f v) := by
  intro g as u hg
  unfold orc1 at hg
  rw [ifB_eq] at hg
  split at hg
  · rename_i e
    have : g = f := by simpa using e
    subst this
    cases hg; exact h
  · cases hg

theorem pspec_of_runR {t : FT2} (ht : t.OK P) {orc : Orc} (ho : OrcOK P orc) {d f : Nat} {args : List AV} {v : AV} (k : AV → Bool) (hk : ∀ u, k u = true → u = v)
    (hx : callR ansB orc t.get (exR ansB orc t.get d) .pure f args .e 64 (fun u _ _ => k u) = true) : PSpec P f args v := by
  obtain ⟨u, h', n', h1, _, h2⟩ := callR_sound ansB_ok ho (FT2.ok ht) (exR_sound ansB_ok ho (FT2.ok ht) d) _ _ _ _ _ _ hx
  have := hk _ h1
  subst this
  exact h2 (by simp)

/-- The rest of a walk by running; what is asked behind it is a proposition. -/
theorem W_of_exP {t : FT2} (ht : t.OK P) {orc : Orc} (ho : OrcOK P orc) {N d m : Nat} {c : FCode} {T : Tmps} {h : Heap} {Q : SX → St → Prop} {X : Prop} (hX : X)
    (hx : X = exR ansP orc t.get d c T h m (fun e T h _ => Q e ⟨T, h⟩)) : W P N c.slim Q ⟨T, h⟩ := by
  obtain ⟨e, T', h', n', h1, h2, _⟩ := exR_sound ansP_ok ho (FT2.ok ht) d N c T h m _ (show ansP.holds _ from hx ▸ hX)
  exact h2.mono fun e' B ⟨e1, e2⟩ => by subst e1; subst e2; exact h1
theorem W_of_exB {t : FT2} (ht : t.OK P) {orc : Orc} (ho : OrcOK P orc) {N d m : Nat} {c : FCode} {T : Tmps} {h : Heap} {Q : SX → St → Prop} (k : KcA Bool)
    (hx : exR ansB orc t.get d c T h m k = true) (hk : ∀ e T h n, k e T h n = true → Q e ⟨T, h⟩) : W P N c.slim Q ⟨T, h⟩ := by
  obtain ⟨e, T', h', n', h1, h2, _⟩ := exR_sound ansB_ok ho (FT2.ok ht) d N c T h m k hx
  exact h2.mono fun e' B ⟨e1, e2⟩ => by subst e1; subst e2; exact hk _ _ _ _ h1
end
end Go.AM
namespace Go.AM
variable {P : Program}
/-- A statement by running, then the rest. -/
theorem W_seq_exP {t : FT2} (ht : t.OK P) {orc : Orc} (ho : OrcOK P orc) {N d m : Nat} {a b : FCode} {T : Tmps} {h : Heap} {Q : SX → St → Prop} {G : Tmps → Heap → Nat → Prop}
    (hx : exR ansP orc t.get d a T h m (fun e T h n => e = .normal ∧ G T h n)) (hG : ∀ T h n, G T h n → W P N b.slim Q ⟨T, h⟩) : W P N (FCode.seq a b).slim Q ⟨T, h⟩ := by
  obtain ⟨e, T', h', n', ⟨rfl, h1⟩, h2, _⟩ := exR_sound ansP_ok ho (FT2.ok ht) d N a T h m _ (show ansP.holds _ from hx)
  refine W.seq (h2.mono ?_)
  rintro e' B ⟨rfl, rfl⟩
  exact hG _ _ _ h1
end Go.AM
