/- The abstract machine, part P: what must hold ahead of slim code, as a proposition that the simplifier reckons. -/
import Derived.Test.YteaeobmbfhaklaaAmOa
set_option linter.unusedSimpArgs false
set_option linter.unusedVariables false
namespace Go.AM
variable {P : Program}

/-! ### one operation -/
/-- What must hold ahead of an operation, so that K holds of its value and the blocks behind it. -/
def wpOp (P : Program) (i : Nat) (s : SOp) (T : Tmps) (h : Heap) (K : AV → Heap → Prop) : Prop := ∃ v h1 f, StepX P i s T h v h1 f ∧ K v h1

/-- The operations of a region from the i-th on. -/
def wpR (P : Program) : Nat → List SOper → Tmps → Heap → (Tmps → Heap → Nat → Prop) → Prop
  | n, [], T, h, K => K T h n
  | n, s :: r, T, h, K => ∃ v h1 f, StepV P n s T h v h1 f ∧ wpR P (n + 1) r (putD T s.dst v) h1 K

theorem wpR.toWR : ∀ {r : List SOper} {n i : Nat} {T : Tmps} {h : Heap} {K : Tmps → Heap → Nat → Prop}, wpR P (n + i) r T h K → WR P n i r T h fun T h => K T h (n + i + r.length)
  | [], n, i, T, h, K, hk => hk
  | s :: r, n, i, T, h, K, ⟨v, h1, f, hs, hr⟩ => by
    refine ⟨f, v, h1, hs, ?_⟩
    have := wpR.toWR (i := i + 1) hr
    have e : n + (i + 1) + r.length = n + i + (s :: r).length := by simp; omega
    rw [e] at this
    exact this


/-- As wpR, with what was touched. -/
def wpRF (P : Program) : Nat → List SOper → Tmps → Heap → (List FP → Tmps → Heap → Nat → Prop) → Prop
  | n, [], T, h, K => K [] T h n
  | n, s :: r, T, h, K => ∃ v h1 f, StepV P n s T h v h1 f ∧ wpRF P (n + 1) r (putD T s.dst v) h1 fun fs T h n => K (f :: fs) T h n

theorem wpRF.toF : ∀ {r : List SOper} {n i : Nat} {T : Tmps} {h : Heap} {K : List FP → Tmps → Heap → Nat → Prop}, wpRF P (n + i) r T h K →
    ∃ fs T' h', RunF P n i r fs ⟨T, h⟩ ⟨T', h'⟩ ∧ K fs T' h' (n + i + r.length)
  | [], n, i, T, h, K, hk => ⟨[], T, h, ⟨rfl, rfl⟩, hk⟩
  | s :: r, n, i, T, h, K, ⟨v, h1, f, hs, hr⟩ => by
    obtain ⟨fs, T', h', h2, hk⟩ := wpRF.toF (i := i + 1) hr
    refine ⟨f :: fs, T', h', ⟨f, fs, v, h1, rfl, hs, h2⟩, ?_⟩
    have e : n + i + (s :: r).length = n + (i + 1) + r.length := by simp; omega
    rw [e]; exact hk

abbrev QC := SX → Tmps → Heap → Nat → Prop

/-! ### code -/
def wpC (P : Program) (N : NM) : SCode → Nat → Tmps → Heap → QC → Prop
  | .skip, n, T, h, Q => Q .normal T h n
  | .ret, n, T, h, Q => Q .ret T h n
  | .exit i, n, T, h, Q => Q (.exit i) T h n
  | .bad, _, _, _, _ => False
  | .mloop pre x it nx ok en b1 b2 rest body, n, T, h, Q => W2 P N (.mloop pre x it nx ok en b1 b2 rest body) (fun e B => ∃ n, Q e B.T B.h n) ⟨T, h⟩
  | .region ops [] dead, n, T, h, Q => wpR P n ops T h fun T h n => Q .normal (rm T dead) h n
  | .region ops (p :: ps) dead, n, T, h, Q => wpRF P n ops T h fun fs T h n => ((p :: ps).all fun p => (fs.getD p.1 ⟨false, [], []⟩).apart (fs.getD p.2 ⟨false, [], []⟩)) = true ∧ Q .normal (rm T dead) h n
  | .seq a b, n, T, h, Q => wpC P N a n T h fun e T h n => match e with
    | .normal => wpC P N b n T h Q
    | e => Q e T h n
  | .cond x a b, n, T, h, Q => ∃ t, ev T x = .bool t ∧ if t = true then wpC P N a n T h Q else wpC P N b n T h Q
  | .block i b, n, T, h, Q => wpC P N b n T h fun e T h n => match e with
    | .exit j => if j = i then Q .normal T h n else Q (.exit j) T h n
    | e => Q e T h n
  | .loop b, n, T, h, Q => W2 P N (.loop b) (fun e B => ∃ n, Q e B.T B.h n) ⟨T, h⟩

theorem wpC.toW {N : NM} : ∀ {c : SCode} {n : Nat} {T : Tmps} {h : Heap} {Q : QC}, wpC P N c n T h Q → W2 P N c (fun e B => ∃ n, Q e B.T B.h n) ⟨T, h⟩
  | .skip, n, T, h, Q, hk => W2.skip ⟨n, hk⟩
  | .ret, n, T, h, Q, hk => W2.ret ⟨n, hk⟩
  | .exit i, n, T, h, Q, hk => W2.exit ⟨n, hk⟩
  | .bad, _, _, _, _, hk => hk.elim
  | .mloop .., n, T, h, Q, hk => hk
  | .region ops [] dead, n, T, h, Q, hk => by
    have := wpR.toWR (i := 0) hk
    exact W2.of_W <| W.regionR n (this |> fun h => by simpa using (show _ from (wr_mono h)))
  | .region ops (p :: ps) dead, n, T, h, Q, hk => by
    obtain ⟨fs, T', h', h1, h2, h3⟩ := wpRF.toF (i := 0) hk
    exact W2.of_W <| W.regionF n fs h1 h2 ⟨_, h3⟩
  | .seq a b, n, T, h, Q, hk => by
    simp only [wpC] at hk
    refine W2.seq ((wpC.toW (c := a) hk).mono ?_)
    rintro e B ⟨n', hq⟩
    cases e with
    | normal => exact wpC.toW hq
    | exit i => exact ⟨n', hq⟩
    | ret => exact ⟨n', hq⟩
  | .cond x a b, n, T, h, Q, ⟨t, hx, hk⟩ => by
    refine W2.cond hx ?_ ?_
    · intro e; rw [if_pos e] at hk; exact wpC.toW hk
    · intro e; rw [if_neg (by simp [e])] at hk; exact wpC.toW hk
  | .block i b, n, T, h, Q, hk => by
    simp only [wpC] at hk
    refine W2.block ((wpC.toW (c := b) hk).mono ?_)
    rintro e B ⟨n', hq⟩
    cases e with
    | normal => exact ⟨n', hq⟩
    | ret => exact ⟨n', hq⟩
    | exit j =>
      simp only at hq ⊢
      split
      · rename_i e; rw [if_pos e] at hq; exact ⟨n', hq⟩
      · rename_i e; rw [if_neg e] at hq; exact ⟨n', hq⟩
  | .loop b, n, T, h, Q, hk => hk
where
  wr_mono {ops : List SOper} {n : Nat} {T : Tmps} {h : Heap} {dead : List Nat} {Q : QC} {m : Nat} (hk : WR P n 0 ops T h fun T h => Q .normal (rm T dead) h m) : WR P n 0 ops T h fun T h => ∃ n, Q .normal (rm T dead) h n := by
    have : ∀ {r : List SOper} {i : Nat} {T : Tmps} {h : Heap} {K K' : Tmps → Heap → Prop}, WR P n i r T h K → (∀ T h, K T h → K' T h) → WR P n i r T h K' := by
      intro r
      induction r with
      | nil => intro i T h K K' hk hK; exact hK _ _ hk
      | cons s r ih =>
        intro i T h K K' ⟨f, v, h1, hs, hr⟩ hK
        exact ⟨f, v, h1, hs, ih hr hK⟩
    exact this hk fun T h hq => ⟨m, hq⟩
end Go.AM
