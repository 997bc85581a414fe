/- The abstract machine, part N: running slim code is walking it. -/
import Derived.Test.YteaeobmbfhaklaaAmM
set_option linter.unusedSimpArgs false
set_option linter.unusedVariables false
namespace Go.AM
variable {P : Program}

def CallOK (P : Program) (call : Caller) : Prop := ∀ (m : CallM) (f : Nat) (args : List AV) (h : Heap) (n : Nat) (k : Kv), call m f args h n k = true →
  ∃ v h' n', k v h' n' = true ∧ (m = .heap → HSpec P f args h v h') ∧ (m ≠ .heap → PSpec P f args v)

theorem opX_sound {call : Caller} (hc : CallOK P call) {fp : Bool} {i : Nat} {s : SOp} {T : Tmps} {h : Heap} {n : Nat} {k : AV → Heap → Nat → FP → Bool} (hx : opX call fp i s T h n k = true) :
    ∃ v h1 n' f f', k v h1 n' f = true ∧ StepX P i s T h v h1 f' ∧ (fp = true → f = f') := by
  unfold opX at hx
  rw [HM.runK_eq] at hx
  split at hx
  · rename_i out h2 hr
    cases out with
    | val v => exact ⟨v, h2, n, _, _, hx, ⟨_, h2, hr, rfl, rfl, rfl⟩, fun e => by rw [e]; rfl⟩
    | call m f args =>
      cases m with
      | heap =>
        obtain ⟨v, h1, n', hk, hs, _⟩ := hc _ _ _ _ _ _ hx
        exact ⟨v, h1, n', _, _, hk, ⟨_, h2, hr, hs rfl, rfl⟩, fun _ => rfl⟩
      | pure =>
        obtain ⟨v, h1, n', hk, _, hs⟩ := hc _ _ _ _ _ _ hx
        exact ⟨v, h2, n', _, _, hk, ⟨_, h2, hr, hs (by simp), rfl, rfl⟩, fun e => by rw [e]; rfl⟩
      | borrow =>
        obtain ⟨v, h1, n', hk, _, hs⟩ := hc _ _ _ _ _ _ hx
        cases hv : flatV v with
        | false => rw [hv] at hk; cases hk
        | true =>
          rw [hv] at hk
          exact ⟨v, h2, n', _, _, hk, ⟨_, h2, hr, hs (by simp), hv, rfl, rfl⟩, fun e => by rw [e]; rfl⟩
  · cases hx

theorem operX_sound {call : Caller} (hc : CallOK P call) {fp : Bool} {i : Nat} {s : SOper} {T : Tmps} {h : Heap} {n : Nat} {k : AV → Heap → Nat → FP → Bool} (hx : operX call fp i s T h n k = true) :
    ∃ v h1 n' f f', k v h1 n' f = true ∧ StepV P i s T h v h1 f' ∧ (fp = true → f = f') := by
  unfold operX at hx
  unfold StepV
  cases hg : s.guard with
  | none => rw [hg] at hx; exact opX_sound hc hx
  | some p =>
    obtain ⟨g, want⟩ := p
    rw [hg] at hx
    simp only at hx ⊢
    cases hw : wantedA (lk T g) want with
    | none => rw [hw] at hx; cases hx
    | some b =>
      rw [hw] at hx
      cases b with
      | true =>
        obtain ⟨v, h1, n', f, f', h2, h3, h4⟩ := opX_sound hc hx
        exact ⟨v, h1, n', f, f', h2, ⟨true, rfl, by simpa using h3⟩, h4⟩
      | false => exact ⟨.tup [], h, n, _, ⟨false, [], []⟩, hx, ⟨false, rfl, by simp⟩, fun _ => rfl⟩

theorem opsX_sound {call : Caller} (hc : CallOK P call) {base : Nat} : ∀ (r : List SOper) (i : Nat) (T : Tmps) (h : Heap) (n : Nat) (k : Tmps → Heap → Nat → List FP → Bool), opsX call true base i r T h n k = true →
    ∃ T' h' n' fs, k T' h' n' fs = true ∧ RunF P base i r fs ⟨T, h⟩ ⟨T', h'⟩
  | [], i, T, h, n, k, hx => ⟨T, h, n, [], hx, rfl, rfl⟩
  | s :: r, i, T, h, n, k, hx => by
    simp only [opsX] at hx
    obtain ⟨v, h1, n', f, f', hk, hs, hf⟩ := operX_sound hc hx
    rw [putK_eq] at hk
    obtain ⟨T', h', n2, fs, hk2, hr⟩ := opsX_sound hc r _ _ _ _ _ hk
    have := hf rfl
    subst this
    exact ⟨T', h', n2, f :: fs, hk2, f, fs, v, h1, rfl, hs, hr⟩

theorem opsY_sound {call : Caller} (hc : CallOK P call) {base : Nat} : ∀ (r : List SOper) (i : Nat) (T : Tmps) (h : Heap) (n : Nat) (k : Ke), opsY call base i r T h n k = true →
    ∃ T' h' n' fs, k T' h' n' = true ∧ RunF P base i r fs ⟨T, h⟩ ⟨T', h'⟩
  | [], i, T, h, n, k, hx => ⟨T, h, n, [], hx, rfl, rfl⟩
  | s :: r, i, T, h, n, k, hx => by
    simp only [opsY] at hx
    obtain ⟨v, h1, n', f, f', hk, hs, _⟩ := operX_sound hc hx
    rw [putK_eq] at hk
    obtain ⟨T', h', n2, fs, hk2, hr⟩ := opsY_sound hc r _ _ _ _ _ hk
    exact ⟨T', h', n2, f' :: fs, hk2, f', fs, v, h1, rfl, hs, hr⟩

/-- From the head of a loop's round. -/
def WL (P : Program) (N : Nat) (b : SCode) (Q : SX → St → Prop) (A : St) : Prop :=
  ∀ cb, okCode P N cb b = true → ∀ (c : Ctx) (a : Act) (w : World), SRel N c A a w → ∀ (Q' : Exit → Act → World → Prop),
    (∀ e B c' a' w', Q e B → SRel N c' B a' w' → Evo c w c' w' → Q' e.toExit a' w') → ∀ bf k cs,
      ∃ e a' w', Q' e a' w' ∧ Arrives P (lone (bf.at a (.code cb :: .inLoop cb :: k)) cs w) bf k cs e a' w'

theorem WL.loop {N : Nat} {b : SCode} {Q : SX → St → Prop} {A : St} (h : WL P N b Q A) : W P N (.loop b) Q A := by
  intro code hok c a w S Q' hQ
  cases code <;> simp only [okCode, Bool.false_eq_true] at hok
  intro bf k cs
  obtain ⟨e, a', w', hq, harr⟩ := h _ hok c a w S Q' hQ bf k cs
  exact ⟨e, a', w', hq, .of_steps (.one step_loop) harr⟩

theorem WL.round {N : Nat} {b : SCode} {Q : SX → St → Prop} {A : St} (h : W P N b (fun e B => match e with | .normal => WL P N b Q B | e => Q e B) A) : WL P N b Q A := by
  intro cb hok c a w S Q' hQ bf k cs
  obtain ⟨e, a', w', hq, harr⟩ := h cb hok c a w S (fun e a' w' => match e with
    | .normal => ∃ e2 a2 w2, Q' e2 a2 w2 ∧ Arrives P (lone (bf.at a' (.code cb :: .inLoop cb :: k)) cs w') bf k cs e2 a2 w2
    | e => Q' e a' w') (by
      intro e B c2 a2 w2 hq S2 E2
      cases e with
      | normal => exact hq cb hok c2 a2 w2 S2 Q' (fun e3 B3 c3 a3 w3 h3 S3 E3 => hQ e3 B3 c3 a3 w3 h3 S3 (E2.trans E3)) bf k cs
      | ret => exact hQ .ret B c2 a2 w2 hq S2 E2
      | exit i => exact hQ (.exit i) B c2 a2 w2 hq S2 E2) bf (.inLoop cb :: k) cs
  cases e with
  | normal =>
    obtain ⟨e3, a3, w3, hq3, harr3⟩ := hq
    exact ⟨e3, a3, w3, hq3, .of_steps (Steps.trans harr (.one step_inLoop)) harr3⟩
  | exit i => exact ⟨_, a', w', hq, .pass (x := .inLoop cb) rfl (fun _ _ => .inl (by simp)) harr⟩
  | goto l => exact ⟨_, a', w', hq, .pass (x := .inLoop cb) rfl (fun _ _ => .inl (by simp)) harr⟩
  | ret => exact ⟨_, a', w', hq, .pass (x := .inLoop cb) rfl (fun _ _ => .inl (by simp)) harr⟩
  | panic ch => exact ⟨_, a', w', hq, .pass (x := .inLoop cb) rfl (fun _ _ => .inl (by simp)) harr⟩
  | outgrown => exact ⟨_, a', w', hq, .pass (x := .inLoop cb) rfl (fun _ _ => .inl (by simp)) harr⟩

def WX (P : Program) (N : Nat) (c : SCode) (Q : SX → St → Prop) (A : St) : Prop :=
  W P N c Q A ∧ ∀ b, c = .loop b → WL P N b Q A

theorem WX.of {N : Nat} {c : SCode} {Q : SX → St → Prop} {A : St} (h : W P N c Q A) (hc : ∀ b, c ≠ .loop b) : WX P N c Q A := ⟨h, fun b e => absurd e (hc b)⟩

/-- What running comes to. -/
def ExOK (P : Program) (run : SCode → Tmps → Heap → Nat → Kc → Bool) : Prop := ∀ (N : Nat) (c : SCode) (T : Tmps) (h : Heap) (n : Nat) (k : Kc), run c T h n k = true →
  ∃ e T' h' n', k e T' h' n' = true ∧ WX P N c (fun e' B => e' = e ∧ B = ⟨T', h'⟩) ⟨T, h⟩

theorem callX_sound {fns : Nat → Option SFn} (hf : ∀ f sf, fns f = some sf → okFn P f sf = true) {run : SCode → Tmps → Heap → Nat → Kc → Bool} (hr : ExOK P run) : CallOK P (callX fns run) := by
  intro m f args h n k hx
  unfold callX at hx
  cases hs : fns f with
  | none => rw [hs] at hx; cases hx
  | some sf =>
    rw [hs] at hx
    simp only at hx
    have hok := hf f sf hs
    cases hl : Nat.ble args.length sf.n with
    | false => rw [hl] at hx; cases hx
    | true =>
      rw [hl] at hx
      have hl : args.length ≤ sf.n := Nat.le_of_ble_eq_true hl
      simp only [cond_true] at hx
      have pureC : ∀ k' : AV → Bool, (bif noRefs args then (argK 0 args fun T => run sf.body T .e 64 fun e T h' _ =>
          match e with
          | .exit _ => false
          | _ => match resV T h' sf.res with
            | some vs => (frzH 6 (resOf vs)).runK h' fun v _ => bif noRef v then force2 v fun v => k v h n else false
            | none => false) else false) = true → ∃ v, k v h n = true ∧ PSpec P f args v := by
        intro _ hx
        cases ha : noRefs args with
        | false => rw [ha] at hx; cases hx
        | true =>
          rw [ha, cond_true, argK_eq] at hx
          obtain ⟨e, T', h', n', hk, hw, _⟩ := hr sf.n _ _ _ _ _ hx
          have he : e = .normal ∨ e = .ret := by cases e <;> first | (cases hk; done) | simp
          have hk : (match resV T' h' sf.res with
            | some vs => (frzH 6 (resOf vs)).runK h' fun v _ => bif noRef v then force2 v fun v => k v h n else false
            | none => false) = true := by rcases he with rfl | rfl <;> exact hk
          cases hv : resV T' h' sf.res with
          | none => rw [hv] at hk; cases hk
          | some vs =>
            rw [hv] at hk
            simp only [HM.runK_eq] at hk
            split at hk
            · rename_i v h2 hz
              cases hn : noRef v with
              | false => rw [hn] at hk; cases hk
              | true =>
                rw [hn, cond_true, force2_eq] at hk
                refine ⟨v, hk, PSpec.of_W 6 hok hl ha hn (hw.mono ?_)⟩
                rintro e' B ⟨rfl, rfl⟩
                exact ⟨he, vs, hv, h2, hz⟩
            · cases hk
      cases m with
      | heap =>
        simp only [argK_eq] at hx
        obtain ⟨e, T', h', n', hk, hw, _⟩ := hr sf.n _ _ _ _ _ hx
        have he : e = .normal ∨ e = .ret := by cases e <;> first | (cases hk; done) | simp
        have hk : (match resV T' h' sf.res with
            | some vs => force2 (resOf vs) fun v => k v h' n'
            | none => false) = true := by rcases he with rfl | rfl <;> exact hk
        cases hv : resV T' h' sf.res with
        | none => rw [hv] at hk; cases hk
        | some vs =>
          rw [hv] at hk
          simp only [force2_eq] at hk
          refine ⟨_, h', n', hk, fun _ => HSpec.of_W hok hl (hw.mono ?_), fun h => absurd rfl h⟩
          rintro e' B ⟨rfl, rfl⟩
          exact ⟨he, vs, hv, rfl, fun _ => rfl⟩
      | pure =>
        obtain ⟨v, hk, hp⟩ := pureC (fun _ => true) hx
        exact ⟨v, h, n, hk, fun h => (by cases h), fun _ => hp⟩
      | borrow =>
        obtain ⟨v, hk, hp⟩ := pureC (fun _ => true) hx
        exact ⟨v, h, n, hk, fun h => (by cases h), fun _ => hp⟩

/-- RUNNING IS WALKING. -/
theorem ex_sound {fns : Nat → Option SFn} (hf : ∀ f sf, fns f = some sf → okFn P f sf = true) : ∀ d, ExOK P (ex fns d) := by
  intro d
  induction d with
  | zero => intro N c T h n k hx; cases hx
  | succ d ih =>
    have hc := callX_sound hf ih
    intro N c T h n k hx
    cases c with
    | skip => exact ⟨_, _, _, _, hx, .of (W.skip ⟨rfl, rfl⟩) (by simp)⟩
    | ret => exact ⟨_, _, _, _, hx, .of (W.ret ⟨rfl, rfl⟩) (by simp)⟩
    | exit i => exact ⟨_, _, _, _, hx, .of (W.exit ⟨rfl, rfl⟩) (by simp)⟩
    | bad => cases hx
    | mloop => cases hx
    | region ops pairs dead =>
      cases pairs with
      | nil =>
        obtain ⟨T', h', n', fs, hk, hr⟩ := opsY_sound hc _ _ _ _ _ _ hx
        rw [rmK_eq] at hk
        exact ⟨_, _, _, _, hk, .of (W.regionF n fs hr (by simp) ⟨rfl, rfl⟩) (by simp)⟩
      | cons p ps =>
        obtain ⟨T', h', n', fs, hk, hr⟩ := opsX_sound hc _ _ _ _ _ _ hx
        cases hp : ((p :: ps).all fun p => (fs.getD p.1 ⟨false, [], []⟩).apart (fs.getD p.2 ⟨false, [], []⟩)) with
        | false => rw [hp] at hk; cases hk
        | true =>
          rw [hp, cond_true, rmK_eq] at hk
          exact ⟨_, _, _, _, hk, .of (W.regionF n fs hr hp ⟨rfl, rfl⟩) (by simp)⟩
    | seq a b =>
      obtain ⟨e, T', h', n', hk, hw, _⟩ := ih N _ _ _ _ _ hx
      cases e with
      | normal =>
        obtain ⟨e2, T2, h2, n2, hk2, hw2, _⟩ := ih N _ _ _ _ _ hk
        refine ⟨e2, T2, h2, n2, hk2, .of (W.seq (hw.mono ?_)) (by simp)⟩
        rintro e' B ⟨rfl, rfl⟩
        exact hw2
      | exit j =>
        refine ⟨_, _, _, _, hk, .of (W.seq (hw.mono ?_)) (by simp)⟩
        rintro e' B ⟨rfl, rfl⟩
        exact ⟨rfl, rfl⟩
      | ret =>
        refine ⟨_, _, _, _, hk, .of (W.seq (hw.mono ?_)) (by simp)⟩
        rintro e' B ⟨rfl, rfl⟩
        exact ⟨rfl, rfl⟩
    | cond x a b =>
      simp only [ex] at hx
      split at hx
      · rename_i hb
        obtain ⟨e, T', h', n', hk, hw, _⟩ := ih N _ _ _ _ _ hx
        exact ⟨e, T', h', n', hk, .of (W.cond hb (fun _ => hw) (fun h => by cases h)) (by simp)⟩
      · rename_i hb
        obtain ⟨e, T', h', n', hk, hw, _⟩ := ih N _ _ _ _ _ hx
        exact ⟨e, T', h', n', hk, .of (W.cond hb (fun h => by cases h) (fun _ => hw)) (by simp)⟩
      · cases hx
    | block i b =>
      obtain ⟨e, T', h', n', hk, hw, _⟩ := ih N _ _ _ _ _ hx
      cases e with
      | normal =>
        refine ⟨_, _, _, _, hk, .of (W.block (hw.mono ?_)) (by simp)⟩
        rintro e' B ⟨rfl, rfl⟩
        exact ⟨rfl, rfl⟩
      | ret =>
        refine ⟨_, _, _, _, hk, .of (W.block (hw.mono ?_)) (by simp)⟩
        rintro e' B ⟨rfl, rfl⟩
        exact ⟨rfl, rfl⟩
      | exit j =>
        simp only at hk
        cases hj : Nat.beq j i with
        | true =>
          rw [hj, cond_true] at hk
          have : j = i := by simpa using hj
          refine ⟨_, _, _, _, hk, .of (W.block (hw.mono ?_)) (by simp)⟩
          rintro e' B ⟨rfl, rfl⟩
          simp [this]
        | false =>
          rw [hj, cond_false] at hk
          have : j ≠ i := by rintro rfl; simp at hj
          refine ⟨_, _, _, _, hk, .of (W.block (hw.mono ?_)) (by simp)⟩
          rintro e' B ⟨rfl, rfl⟩
          simp [this]
    | loop b =>
      have key : ∃ e T' h' n', k e T' h' n' = true ∧ WL P N b (fun e' B => e' = e ∧ B = ⟨T', h'⟩) ⟨T, h⟩ := by
        obtain ⟨e, T', h', n', hk, hw, _⟩ := ih N _ _ _ _ _ hx
        cases e with
        | normal =>
          obtain ⟨e2, T2, h2, n2, hk2, _, hw2⟩ := ih N _ _ _ _ _ hk
          refine ⟨e2, T2, h2, n2, hk2, WL.round (hw.mono ?_)⟩
          rintro e' B ⟨rfl, rfl⟩
          exact hw2 b rfl
        | exit j =>
          refine ⟨_, _, _, _, hk, WL.round (hw.mono ?_)⟩
          rintro e' B ⟨rfl, rfl⟩
          exact ⟨rfl, rfl⟩
        | ret =>
          refine ⟨_, _, _, _, hk, WL.round (hw.mono ?_)⟩
          rintro e' B ⟨rfl, rfl⟩
          exact ⟨rfl, rfl⟩
      obtain ⟨e, T', h', n', hk, hw⟩ := key
      exact ⟨e, T', h', n', hk, hw.loop, fun b' e => by cases e; exact hw⟩

/-! ### the functions of a program, by number -/
inductive FT where
  | z
  | l (k : Nat) (s : SFn)
  | n (k : Nat) (a b : FT)

def FT.get : FT → Nat → Option SFn
  | .z, _ => none
  | .l k s, i => bif Nat.beq i k then some s else none
  | .n k a b, i => bif Nat.blt i k then a.get i else b.get i

def FT.OK (P : Program) : FT → Prop
  | .z => True
  | .l k s => okFn P k s = true
  | .n _ a b => a.OK P ∧ b.OK P

theorem FT.ok : ∀ {t : FT}, t.OK P → ∀ f sf, t.get f = some sf → okFn P f sf = true
  | .z, _, f, sf, h => by cases h
  | .l k s, ho, f, sf, h => by
    simp only [FT.get] at h
    cases e : Nat.beq f k with
    | true =>
      rw [e] at h
      have : f = k := by simpa using e
      subst this
      cases h
      exact ho
    | false => rw [e] at h; cases h
  | .n k a b, ho, f, sf, h => by
    simp only [FT.get] at h
    cases e : Nat.blt f k with
    | true => rw [e] at h; exact FT.ok ho.1 f sf h
    | false => rw [e] at h; exact FT.ok ho.2 f sf h

end Go.AM
