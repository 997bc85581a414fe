/- The abstract machine: walking where blocks may be named anew, forgotten or frozen on the way. -/
import Derived.Test.YteaeobmbfhaklaaAmO
set_option linter.unusedSimpArgs false
set_option linter.unusedVariables false
namespace Go.AM
variable {P : Program}

/-- How many temporaries; the blocks below m are the caller's and keep their names. -/
structure NM where
  n : Nat
  m : Nat

/-- What a piece of the run may change; only names below m stay. -/
structure Evo2 (m : Nat) (c : Ctx) (w : World) (c' : Ctx) (w' : World) : Prop where
  os : w'.os = w.os
  tape : w'.tape = w.tape
  output : w'.output = w.output
  size : w.heap.size ≤ w'.heap.size
  shape : ∀ (cb : Nat) (C : Array Value) (e : TypeId) (fr : Nat × Nat), w.heap[cb]? = some (.cells C e fr) → ∃ (C' : Array Value) (fr' : Nat × Nat), w'.heap[cb]? = some (.cells C' e fr') ∧ C'.size = C.size
  keep : ∀ cb, cb < w.heap.size → ¬ c.O cb → w'.heap[cb]? = w.heap[cb]?
  rho : ∀ b g p, b < m → c.ρ b g = some p → c'.ρ b g = some p
  frz : ∀ cb, c.F cb → c'.F cb
  frzNew : ∀ cb, c'.F cb → c.F cb ∨ c.O cb ∨ w.heap.size ≤ cb
  own : ∀ cb, c'.O cb → c.O cb ∨ w.heap.size ≤ cb

theorem Evo.to2 {m : Nat} {c c' : Ctx} {w w' : World} (E : Evo c w c' w') : Evo2 m c w c' w' :=
  ⟨E.os, E.tape, E.output, E.size, E.shape, E.keep, fun b g p _ h => E.rho b g p h, E.frz, E.frzNew, E.own⟩
theorem Evo2.refl {m : Nat} (c : Ctx) (w : World) : Evo2 m c w c w := (Evo.refl c w).to2

theorem Evo2.trans {m : Nat} {c1 c2 c3 : Ctx} {w1 w2 w3 : World} (a : Evo2 m c1 w1 c2 w2) (b : Evo2 m c2 w2 c3 w3) : Evo2 m c1 w1 c3 w3 where
  os := b.os.trans a.os
  tape := b.tape.trans a.tape
  output := b.output.trans a.output
  size := Nat.le_trans a.size b.size
  shape := fun cb C e fr h => by
    obtain ⟨C', fr', h', e'⟩ := a.shape cb C e fr h
    obtain ⟨C'', fr'', h'', e''⟩ := b.shape cb C' e fr' h'
    exact ⟨C'', fr'', h'', e''.trans e'⟩
  keep := fun cb hlt hO => by
    rw [b.keep cb (Nat.lt_of_lt_of_le hlt a.size) (fun h => (a.own cb h).elim hO (by omega)), a.keep cb hlt hO]
  rho := fun b' g p hb h => b.rho _ _ _ hb (a.rho _ _ _ hb h)
  frz := fun cb h => b.frz _ (a.frz _ h)
  frzNew := fun cb h => by
    rcases b.frzNew cb h with h | h | h
    · exact a.frzNew cb h
    · rcases a.own cb h with h | h
      · exact .inr (.inl h)
      · exact .inr (.inr h)
    · exact .inr (.inr (Nat.le_trans a.size h))
  own := fun cb h => by
    rcases b.own cb h with h | h
    · exact a.own cb h
    · exact .inr (Nat.le_trans a.size h)

/-! ### walking -/
def W2 (P : Program) (N : NM) (sc : SCode) (Q : SX → St → Prop) (A : St) : Prop :=
  ∀ code, okCode P N.n code sc = true → ∀ (c : Ctx) (a : Act) (w : World), SRel N.n c A a w → ∀ (Q' : Exit → Act → World → Prop),
    (∀ e B c' a' w', Q e B → SRel N.n c' B a' w' → Evo2 N.m c w c' w' → Q' e.toExit a' w') → code.wp P Q' a w

section rules
variable {N : NM} {Q : SX → St → Prop} {A : St}

theorem W2.of_W {sc : SCode} (h : W P N.n sc Q A) : W2 P N sc Q A :=
  fun code hok c a w S R hR => h code hok c a w S R fun e B c' a' w' hQ S' E' => hR e B c' a' w' hQ S' E'.to2

theorem W2.mono {sc : SCode} {Q' : SX → St → Prop} (h : W2 P N sc Q A) (hq : ∀ e B, Q e B → Q' e B) : W2 P N sc Q' A :=
  fun code hok c a w S R hR => h code hok c a w S R fun e B c' a' w' hQ S' E' => hR e B c' a' w' (hq e B hQ) S' E'

theorem W2.congr {sc : SCode} {B : St} (h : W2 P N sc Q A) (e : SEq B A) : W2 P N sc Q B :=
  fun code hok c a w S R hR => h code hok c a w (S.congr e) R hR

theorem W2.skip (h : Q .normal A) : W2 P N .skip Q A := .of_W (.skip h)
theorem W2.ret (h : Q .ret A) : W2 P N .ret Q A := .of_W (.ret h)
theorem W2.exit {i : Nat} (h : Q (.exit i) A) : W2 P N (.exit i) Q A := .of_W (.exit h)

theorem W2.seq {x y : SCode} (h : W2 P N x (fun e B => match e with | .normal => W2 P N y Q B | e => Q e B) A) : W2 P N (.seq x y) Q A := by
  intro code hok c a w S Q' hQ
  cases code <;> simp only [okCode, Bool.false_eq_true, Bool.and_eq_true] at hok
  rename_i cx cy
  refine wp_seq (h cx hok.1 c a w S _ ?_)
  intro e B c' a' w' hq S' E'
  cases e with
  | normal => exact hq cy hok.2 c' a' w' S' Q' fun e2 B2 c2 a2 w2 h2 S2 E2 => hQ e2 B2 c2 a2 w2 h2 S2 (E'.trans E2)
  | exit i => exact hQ (.exit i) B c' a' w' hq S' E'
  | ret => exact hQ .ret B c' a' w' hq S' E'

theorem W2.cond {x : Opd} {y z : SCode} {t : Bool} (hx : ev A.T x = .bool t) (h1 : t = true → W2 P N y Q A) (h2 : t = false → W2 P N z Q A) : W2 P N (.cond x y z) Q A := by
  intro code hok c a w S Q' hQ
  cases code <;> simp only [okCode, Bool.false_eq_true, Bool.and_eq_true] at hok
  rename_i o cy cz
  have hr := okOpd_rel S.tmps hok.1.1
  rw [hx] at hr
  simp only [VRel] at hr
  refine wp_cond hr ?_
  cases t with
  | true => exact h1 rfl cy hok.1.2 c a w S Q' hQ
  | false => exact h2 rfl cz hok.2 c a w S Q' hQ

theorem W2.block {i : Nat} {b : SCode} (h : W2 P N b (fun e B => match e with | .exit j => if j = i then Q .normal B else Q (.exit j) B | e => Q e B) A) : W2 P N (.block i b) Q A := by
  intro code hok c a w S Q' hQ
  cases code <;> simp only [okCode, Bool.false_eq_true, Bool.and_eq_true, beq_iff_eq] at hok
  rename_i j cb
  obtain ⟨rfl, hok⟩ := hok
  refine wp_block (h cb hok c a w S _ ?_)
  intro e B c' a' w' hq S' E'
  cases e with
  | normal => exact hQ .normal B c' a' w' hq S' E'
  | ret => exact hQ .ret B c' a' w' hq S' E'
  | exit k =>
    simp only at hq
    show (if k = j then Q' .normal a' w' else Q' (.exit k) a' w')
    split
    · rename_i e; rw [if_pos e] at hq; exact hQ .normal B c' a' w' hq S' E'
    · rename_i e; rw [if_neg e] at hq; exact hQ (.exit k) B c' a' w' hq S' E'

/-- From the head of a loop's round. -/
def WL2 (P : Program) (N : NM) (b : SCode) (Q : SX → St → Prop) (A : St) : Prop :=
  ∀ cb, okCode P N.n cb b = true → ∀ (c : Ctx) (a : Act) (w : World), SRel N.n c A a w → ∀ (Q' : Exit → Act → World → Prop),
    (∀ e B c' a' w', Q e B → SRel N.n c' B a' w' → Evo2 N.m c w c' w' → Q' e.toExit a' w') → ∀ bf k cs,
      ∃ e a' w', Q' e a' w' ∧ Arrives P (lone (bf.at a (.code cb :: .inLoop cb :: k)) cs w) bf k cs e a' w'

theorem WL2.loop {b : SCode} (h : WL2 P N b Q A) : W2 P N (.loop b) Q A := by
  intro code hok c a w S Q' hQ
  cases code <;> simp only [okCode, Bool.false_eq_true] at hok
  intro bf k cs
  obtain ⟨e, a', w', hq, harr⟩ := h _ hok c a w S Q' hQ bf k cs
  exact ⟨e, a', w', hq, .of_steps (.one step_loop) harr⟩

theorem WL2.round {b : SCode} (h : W2 P N b (fun e B => match e with | .normal => WL2 P N b Q B | e => Q e B) A) : WL2 P N b Q A := by
  intro cb hok c a w S Q' hQ bf k cs
  obtain ⟨e, a', w', hq, harr⟩ := h cb hok c a w S (fun e a' w' => match e with
    | .normal => ∃ e2 a2 w2, Q' e2 a2 w2 ∧ Arrives P (lone (bf.at a' (.code cb :: .inLoop cb :: k)) cs w') bf k cs e2 a2 w2
    | e => Q' e a' w') (by
      intro e B c2 a2 w2 hq S2 E2
      cases e with
      | normal => exact hq cb hok c2 a2 w2 S2 Q' (fun e3 B3 c3 a3 w3 h3 S3 E3 => hQ e3 B3 c3 a3 w3 h3 S3 (E2.trans E3)) bf k cs
      | ret => exact hQ .ret B c2 a2 w2 hq S2 E2
      | exit i => exact hQ (.exit i) B c2 a2 w2 hq S2 E2) bf (.inLoop cb :: k) cs
  cases e with
  | normal =>
    obtain ⟨e3, a3, w3, hq3, harr3⟩ := hq
    exact ⟨e3, a3, w3, hq3, .of_steps (Steps.trans harr (.one step_inLoop)) harr3⟩
  | exit i => exact ⟨_, a', w', hq, .pass (x := .inLoop cb) rfl (fun _ _ => .inl (by simp)) harr⟩
  | goto l => exact ⟨_, a', w', hq, .pass (x := .inLoop cb) rfl (fun _ _ => .inl (by simp)) harr⟩
  | ret => exact ⟨_, a', w', hq, .pass (x := .inLoop cb) rfl (fun _ _ => .inl (by simp)) harr⟩
  | panic ch => exact ⟨_, a', w', hq, .pass (x := .inLoop cb) rfl (fun _ _ => .inl (by simp)) harr⟩
  | outgrown => exact ⟨_, a', w', hq, .pass (x := .inLoop cb) rfl (fun _ _ => .inl (by simp)) harr⟩

/-- A loop: I n says what holds at a round's head; n goes down. -/
theorem W2.loop {b : SCode} (I : Nat → St → Prop) (n : Nat) (h0 : I n A)
    (round : ∀ n B, I n B → W2 P N b (fun e C => match e with | .normal => ∃ m, m < n ∧ I m C | e => Q e C) B) : W2 P N (.loop b) Q A := by
  refine WL2.loop ?_
  have key : ∀ n B, I n B → WL2 P N b Q B := by
    intro n
    induction n using Nat.strongRecOn with
    | _ n ih =>
      intro B hI
      refine WL2.round ((round n B hI).mono ?_)
      intro e C hq
      cases e with
      | normal => obtain ⟨m, hm, hIm⟩ := hq; exact ih m hm C hIm
      | exit i => exact hq
      | ret => exact hq
  exact key n A h0

end rules

/-! ### blocks named anew -/
inductive Src where
  | nil
  | blk (b g : Nat)

/-- The places of the blocks that are kept. -/
def Mapped (m : Nat) (π : Nat → Option Src) (h : Heap) (c : Ctx) (k : Nat) : Prop :=
  (∃ b g base, b < m ∧ Live h b g ∧ c.ρ b g = some (.loc k base)) ∨ ∃ b' b g base, m ≤ b' ∧ π b' = some (.blk b g) ∧ c.ρ b g = some (.loc k base)

/-- Blocks b' is what π says; all others of the call's own are frozen. -/
def nctx (m : Nat) (π : Nat → Option Src) (h : Heap) (c : Ctx) : Ctx where
  ρ := fun b' g' => if b' < m then c.ρ b' g' else if g' = 0 then (match π b' with | some .nil => some .nil | some (.blk b g) => c.ρ b g | none => none) else none
  F := fun k => c.F k ∨ (c.O k ∧ ¬ Mapped m π h c k)
  O := fun k => c.O k ∧ Mapped m π h c k

structure Maps (m : Nat) (π : Nat → Option Src) (h : Heap) : Prop where
  live : ∀ b' b g, m ≤ b' → π b' = some (.blk b g) → Live h b g ∧ m ≤ b
  inj : ∀ b1 b2 b g g2, m ≤ b1 → m ≤ b2 → π b1 = some (.blk b g) → π b2 = some (.blk b g2) → b1 = b2

/-- What stood for y may now be read as x. -/
def Rn (m : Nat) (π : Nat → Option Src) (h : Heap) (x y : AV) : Prop := ∀ (c : Ctx) (w : World) (v : Value), HRel c h w → Maps m π h → VRel c w y v → VRel (nctx m π h c) w x v
def RnL (m : Nat) (π : Nat → Option Src) (h : Heap) : List AV → List AV → Prop
  | [], [] => True
  | x :: xs, y :: ys => Rn m π h x y ∧ RnL m π h xs ys
  | _, _ => False
def RnM (m : Nat) (π : Nat → Option Src) (h : Heap) : List (AV × AV) → List (AV × AV) → Prop
  | [], [] => True
  | x :: xs, y :: ys => (Rn m π h x.1 y.1 ∧ Rn m π h x.2 y.2) ∧ RnM m π h xs ys
  | _, _ => False

section
variable {m : Nat} {π : Nat → Option Src} {h : Heap}

theorem nctx_base {c : Ctx} {b g : Nat} (hm : b < m) : (nctx m π h c).ρ b g = c.ρ b g := if_pos hm
theorem nctx_blk {c : Ctx} {b' b g : Nat} (hm : m ≤ b') (hp : π b' = some (.blk b g)) : (nctx m π h c).ρ b' 0 = c.ρ b g := by
  show (if b' < m then c.ρ b' 0 else if 0 = 0 then (match π b' with | some .nil => some .nil | some (.blk b g) => c.ρ b g | none => none) else none) = _
  rw [if_neg (by omega), if_pos rfl, hp]
theorem nctx_nil {c : Ctx} {b' : Nat} (hm : m ≤ b') (hp : π b' = some .nil) : (nctx m π h c).ρ b' 0 = some .nil := by
  show (if b' < m then c.ρ b' 0 else if 0 = 0 then (match π b' with | some .nil => some .nil | some (.blk b g) => c.ρ b g | none => none) else none) = _
  rw [if_neg (by omega), if_pos rfl, hp]
theorem nctx_none {c : Ctx} {b' g : Nat} (hm : m ≤ b') (hp : π b' = none) : (nctx m π h c).ρ b' g = none := by
  show (if b' < m then c.ρ b' g else if g = 0 then (match π b' with | some .nil => some .nil | some (.blk b g) => c.ρ b g | none => none) else none) = _
  rw [if_neg (by omega), hp]; simp
theorem nctx_later {c : Ctx} {b' g : Nat} (hm : m ≤ b') (hg : g ≠ 0) : (nctx m π h c).ρ b' g = none := by
  show (if b' < m then c.ρ b' g else if g = 0 then (match π b' with | some .nil => some .nil | some (.blk b g) => c.ρ b g | none => none) else none) = _
  rw [if_neg (by omega), if_neg hg]

theorem Rn.any {y : AV} : Rn m π h .any y := fun c w v _ _ _ => by simp [VRel]
theorem Rn.same {x : AV} (hn : noRef x = true) : Rn m π h x x := fun c w v _ _ hv => VRel.noRef (c := c) (c' := nctx m π h c) (fun _ hk => .inl hk) _ _ hn hv
theorem Rn.ptr {b' b g off : Nat} (hm : m ≤ b') (hp : π b' = some (.blk b g)) : Rn m π h (.ptr b' 0 off) (.ptr b g off) := fun c w v _ _ hv => by
  simp only [VRel] at hv ⊢
  obtain ⟨cb, base, h1, h2⟩ := hv
  exact ⟨cb, base, (nctx_blk hm hp).trans h1, h2⟩
theorem Rn.map {b' b g : Nat} (hm : m ≤ b') (hp : π b' = some (.blk b g)) : Rn m π h (.map b' 0) (.map b g) := fun c w v _ _ hv => by
  simp only [VRel] at hv ⊢
  obtain ⟨cb, h1, h2⟩ := hv
  exact ⟨cb, (nctx_blk hm hp).trans h1, h2⟩
theorem Rn.sl {b' b g off len sz : Nat} (hm : m ≤ b') (hp : π b' = some (.blk b g)) : Rn m π h (.sl b' 0 off len sz) (.sl b g off len sz) := fun c w v _ _ hv => by
  have e : (nctx m π h c).ρ b' 0 = c.ρ b g := nctx_blk hm hp
  simp only [VRel] at hv ⊢
  rw [e]
  exact hv
theorem Rn.slnil {b' sz : Nat} (hm : m ≤ b') (hp : π b' = some .nil) : Rn m π h (.sl b' 0 0 0 sz) .nilsl := fun c w v _ _ hv => by
  simp only [VRel] at hv ⊢
  exact .inl ⟨nctx_nil hm hp, by simp, by simp, hv⟩
theorem Rn.ptrB {b g off : Nat} (hm : b < m) : Rn m π h (.ptr b g off) (.ptr b g off) := fun c w v _ _ hv => by
  have e : (nctx m π h c).ρ b g = c.ρ b g := nctx_base hm
  simp only [VRel] at hv ⊢
  rw [e]; exact hv
theorem Rn.mapB {b g : Nat} (hm : b < m) : Rn m π h (.map b g) (.map b g) := fun c w v _ _ hv => by
  have e : (nctx m π h c).ρ b g = c.ρ b g := nctx_base hm
  simp only [VRel] at hv ⊢
  rw [e]; exact hv
theorem Rn.slB {b g off len sz : Nat} (hm : b < m) : Rn m π h (.sl b g off len sz) (.sl b g off len sz) := fun c w v _ _ hv => by
  have e : (nctx m π h c).ρ b g = c.ρ b g := nctx_base hm
  simp only [VRel] at hv ⊢
  rw [e]; exact hv
theorem Rn.frznil {sz : Nat} : Rn m π h (.fsl [] 0 sz) .nilsl := fun c w v _ _ hv => by
  simp only [VRel] at hv ⊢
  exact .inl ⟨⟨none, hv⟩, by simp⟩
theorem Rn.frzesl {sz : Nat} : Rn m π h (.fsl [] 0 sz) .esl := fun c w v _ _ hv => by
  simp only [VRel] at hv ⊢
  exact .inl ⟨hv, by simp⟩
theorem RnL.same : ∀ {xs : List AV}, noRefs xs = true → RnL m π h xs xs
  | [], _ => trivial
  | x :: xs, hn => by
    simp only [noRefs, Bool.and_eq_true] at hn
    exact ⟨Rn.same hn.1, RnL.same hn.2⟩
theorem RnL.eq {xs ys : List AV} (e : xs = ys) (hn : noRefs xs = true) : RnL m π h xs ys := e ▸ RnL.same hn
theorem RnL.length : ∀ {xs ys : List AV}, RnL m π h xs ys → xs.length = ys.length
  | [], [], _ => rfl
  | [], _ :: _, hh => hh.elim
  | _ :: _, [], hh => hh.elim
  | x :: xs, y :: ys, hh => by simp [RnL.length hh.2]
theorem RnL.append : ∀ {xs ys us vs : List AV}, RnL m π h xs ys → RnL m π h us vs → RnL m π h (xs ++ us) (ys ++ vs)
  | [], [], _, _, _, h2 => h2
  | [], _ :: _, _, _, hh, _ => hh.elim
  | _ :: _, [], _, _, hh, _ => hh.elim
  | x :: xs, y :: ys, _, _, hh, h2 => ⟨hh.1, RnL.append hh.2 h2⟩
theorem RnL.one {x y : AV} (hh : Rn m π h x y) : RnL m π h [x] [y] := ⟨hh, trivial⟩
theorem RnL.pre {c : Ctx} {w : World} (H : HRel c h w) (M : Maps m π h) : ∀ {xs ys : List AV} {vs : List Value}, RnL m π h xs ys → VPre c w ys vs → VPre (nctx m π h c) w xs vs
  | [], [], _, _, _ => by simp [VPre]
  | [], _ :: _, _, hh, _ => hh.elim
  | _ :: _, [], _, hh, _ => hh.elim
  | x :: xs, y :: ys, vs, hh, hv => by
    simp only [VPre] at hv ⊢
    obtain ⟨v, vs', rfl, g1, g2⟩ := hv
    exact ⟨v, vs', rfl, hh.1 c w v H M g1, RnL.pre H M hh.2 g2⟩
theorem RnL.rels {c : Ctx} {w : World} (H : HRel c h w) (M : Maps m π h) : ∀ {xs ys : List AV} {vs : List Value}, RnL m π h xs ys → VRels c w ys vs → VRels (nctx m π h c) w xs vs
  | [], [], _, _, hv => by simpa [VRels] using hv
  | [], _ :: _, _, hh, _ => hh.elim
  | _ :: _, [], _, hh, _ => hh.elim
  | x :: xs, y :: ys, vs, hh, hv => by
    simp only [VRels] at hv ⊢
    obtain ⟨v, vs', rfl, g1, g2⟩ := hv
    exact ⟨v, vs', rfl, hh.1 c w v H M g1, RnL.rels H M hh.2 g2⟩
theorem Rn.agg {xs ys : List AV} (hL : RnL m π h xs ys) : Rn m π h (.agg xs) (.agg ys) := fun c w v H M hv => by
  simp only [VRel] at hv ⊢
  obtain ⟨vs, rfl, hv⟩ := hv
  exact ⟨vs, rfl, hL.rels H M hv⟩
theorem Rn.tup {xs ys : List AV} (hL : RnL m π h xs ys) : Rn m π h (.tup xs) (.tup ys) := fun c w v H M hv => by
  simp only [VRel] at hv ⊢
  obtain ⟨vs, rfl, hv⟩ := hv
  exact ⟨vs, rfl, hL.rels H M hv⟩
theorem Rn.fn {f : Nat} {xs ys us vs : List AV} (hL : RnL m π h xs ys) (hK : RnL m π h us vs) : Rn m π h (.fn f xs us) (.fn f ys vs) := fun c w v H M hv => by
  simp only [VRel] at hv ⊢
  obtain ⟨x', y', rfl, h1, h2⟩ := hv
  exact ⟨x', y', rfl, hL.rels H M h1, hK.rels H M h2⟩
theorem Rn.ifc {t : Nat} {x y : AV} (hh : Rn m π h x y) : Rn m π h (.ifc t x) (.ifc t y) := fun c w v H M hv => by
  simp only [VRel] at hv ⊢
  obtain ⟨x', rfl, h1⟩ := hv
  exact ⟨x', rfl, hh c w _ H M h1⟩

/-- A block that is not kept is frozen. -/
theorem Maps.out {c : Ctx} {w : World} (H : HRel c h w) (M : Maps m π h) {b g cb base : Nat} (hl : Live h b g) (hp : c.ρ b g = some (.loc cb base)) (hm : m ≤ b) (hn : ∀ b' g', m ≤ b' → π b' ≠ some (.blk b g')) : ¬ Mapped m π h c cb := by
  rintro (⟨b1, g1, base1, h1, hl1, h2⟩ | ⟨b', b1, g1, base1, h0, h1, h2⟩)
  · have := H.inj _ _ _ _ _ _ _ hl hl1 hp h2
    omega
  · obtain ⟨l1, l2⟩ := M.live _ _ _ h0 h1
    have := H.inj _ _ _ _ _ _ _ hl l1 hp h2
    subst this
    exact hn _ _ h0 h1
theorem Rn.frz {b g off len sz : Nat} {cs ds : List AV} (hb : h.get b = some (.cells g ds)) (hm : m ≤ b) (hn : ∀ b' g', m ≤ b' → π b' ≠ some (.blk b g')) (hl : off + len * sz ≤ ds.length)
    (hL : RnL m π h cs ((ds.drop off).take (len * sz))) : Rn m π h (.fsl cs len sz) (.sl b g off len sz) := fun c w v H M hv => by
  have hlen := hL.length
  simp only [VRel] at hv
  rcases hv with ⟨hp, rfl, rfl, rfl⟩ | ⟨cb, base, o, cap, C, e, fr, hp, rfl, hlc, hC, hcap⟩
  · have hys : cs = [] := by
      apply List.eq_nil_of_length_eq_zero
      rw [hlen]; simp
    subst hys
    simp only [VRel]; exact .inl (by simp)
  · obtain ⟨C', e', fr', hO, hC', hfr, hbs, hpre⟩ := H.here hb hp
    have hout := M.out H ⟨_, hb, rfl, fun k => by simp⟩ hp hm hn
    rw [hC] at hC'; cases hC'
    by_cases h0 : cap = 0
    · have hl0 : len = 0 := by omega
      subst hl0
      have hys : cs = [] := by
        apply List.eq_nil_of_length_eq_zero
        rw [hlen]; simp
      subst hys
      simp only [VRel]
      exact .inr ⟨cb, o, cap, C, e, fr, rfl, hlc, by simp, .inr ⟨hO, hout⟩, hC, by simp [VPre]⟩
    · obtain ⟨rfl, hbd⟩ := hcap.resolve_left h0
      have hp2 := VPre_take (len * sz) (VPre_drop off hpre)
      rw [List.drop_drop] at hp2
      simp only [VRel]
      exact .inr ⟨cb, base + off, cap, C, e, fr, rfl, hlc, by rw [hlen]; simp; omega, .inr ⟨hO, hout⟩, hC, hL.pre H M hp2⟩
theorem Rn.frzp {b g off : Nat} {cs ds : List AV} (hb : h.get b = some (.cells g ds)) (hm : m ≤ b) (hn : ∀ b' g', m ≤ b' → π b' ≠ some (.blk b g')) (hc : ds ≠ [])
    (hL : RnL m π h cs (ds.drop off)) : Rn m π h (.fptr cs) (.ptr b g off) := fun c w v H M hv => by
  simp only [VRel] at hv
  obtain ⟨cb, base, hp, rfl⟩ := hv
  obtain ⟨C', e', fr', hO, hC', hfr, hbs, hpre⟩ := H.here hb hp
  have hout := M.out H ⟨_, hb, rfl, fun k => by simp⟩ hp hm hn
  have hp2 := VPre_drop off hpre
  rw [List.drop_drop] at hp2
  simp only [VRel]
  exact ⟨cb, base + off, C', e', fr', rfl, .inr ⟨hO, hout⟩, hC', hL.pre H M hp2⟩

/-! ### the blocks -/
def BRn (m : Nat) (π : Nat → Option Src) (h : Heap) : Option Src → Blk → Prop
  | some .nil, .cells _ cs => cs = []
  | some (.blk b g), .cells _ cs => ∃ ds, h.get b = some (.cells g ds) ∧ RnL m π h cs ds
  | some (.blk b g), .map _ es => ∃ fs, h.get b = some (.map g fs) ∧ RnM m π h es fs
  | some (.blk b g), .dead _ => h.get b = some (.dead g)
  | _, _ => False
/-- The new blocks, one by one. -/
def RH (m : Nat) (π : Nat → Option Src) (h h' : Heap) : Prop := ∀ b' x', h'.get b' = some x' → (b' < m ∧ BRn m π h (some (.blk b' x'.gen)) x') ∨ (m ≤ b' ∧ x'.gen = 0 ∧ (∀ g, x' ≠ .dead g) ∧ BRn m π h (π b') x')
def RD (m : Nat) (π : Nat → Option Src) (h h' : Heap) : Prop := ∀ b', h'.get b' = none → (b' < m → h.get b' = none) ∧ (m ≤ b' → π b' = none)
/-- The new slots. -/
def RT (m : Nat) (π : Nat → Option Src) (h : Heap) (T' T : Tmps) : Prop := ∀ i, Rn m π h (lk T' i) (lk T i)

theorem RnM.rel {c : Ctx} {w : World} (H : HRel c h w) (M : Maps m π h) : ∀ {xs ys : List (AV × AV)} {es : List MapEntry} {k : Nat}, RnM m π h xs ys → MRel c w ys es k → MRel (nctx m π h c) w xs es k
  | [], [], _, _, _, hv => by simpa [MRel] using hv
  | [], _ :: _, _, _, hh, _ => hh.elim
  | _ :: _, [], _, _, hh, _ => hh.elim
  | (k1, x1) :: xs, (k2, x2) :: ys, es, k, hh, hv => by
    simp only [MRel] at hv ⊢
    obtain ⟨e, es', rfl, h2, h3, h4, h5, h6⟩ := hv
    have hl : xs.length = ys.length := by
      have : ∀ {xs ys : List (AV × AV)}, RnM m π h xs ys → xs.length = ys.length := by
        intro xs
        induction xs with
        | nil => intro ys hh; cases ys with | nil => rfl | cons => exact hh.elim
        | cons x xs ih => intro ys hh; cases ys with | nil => exact hh.elim | cons y ys => simp [ih hh.2]
      exact this hh.2
    exact ⟨e, es', rfl, hh.1.1 c w _ H M h2, hh.1.2 c w _ H M h3, h4, by rw [hl]; exact h5, RnM.rel H M hh.2 h6⟩
theorem RnM.length : ∀ {xs ys : List (AV × AV)}, RnM m π h xs ys → xs.length = ys.length
  | [], [], _ => rfl
  | [], _ :: _, hh => hh.elim
  | _ :: _, [], hh => hh.elim
  | x :: xs, y :: ys, hh => by simp [RnM.length hh.2]

theorem RH.hrel {h' : Heap} {c : Ctx} {w : World} (hb : RH m π h h') (hd : RD m π h h') (M : Maps m π h) (H : HRel c h w) : HRel (nctx m π h c) h' w := by
  have base : ∀ b' x', b' < m → BRn m π h (some (.blk b' x'.gen)) x' → ∃ x, h.get b' = some x ∧ x.gen = x'.gen ∧ ((∀ k, x' ≠ .dead k) → ∀ k, x ≠ .dead k) := by
    intro b' x' _ hx
    cases x' with
    | cells g cs => obtain ⟨ds, h1, _⟩ := hx; exact ⟨_, h1, rfl, fun _ k => by simp⟩
    | map g es => obtain ⟨ds, h1, _⟩ := hx; exact ⟨_, h1, rfl, fun _ k => by simp⟩
    | dead g => exact ⟨_, hx, rfl, fun hh => absurd rfl (hh g)⟩
  refine ⟨?_, ?_, ?_, ?_, ?_, ?_, ?_⟩
  · intro b' hg g
    obtain ⟨d1, d2⟩ := hd b' hg
    rcases Nat.lt_or_ge b' m with hlt | hlt
    · rw [nctx_base hlt]; exact H.fresh b' (d1 hlt) g
    · exact nctx_none hlt (d2 hlt)
  · intro b' x' hg g hlt
    rcases hb b' x' hg with ⟨hm, hx⟩ | ⟨hm, h0, _, hx⟩
    · obtain ⟨x, h1, h2, _⟩ := base b' x' hm hx
      rw [nctx_base hm]
      exact H.later b' x h1 g (by omega)
    · exact nctx_later hm (by omega)
  · intro b' x' hg
    have own : ∀ (b g : Nat), (b < m ∧ Live h b g) ∨ (m ≤ b' ∧ π b' = some (.blk b g)) → ∀ cb base, c.ρ b g = some (.loc cb base) → c.O cb → (nctx m π h c).O cb := by
      intro b g hs cb base hp hO
      refine ⟨hO, ?_⟩
      rcases hs with ⟨h1, h2⟩ | ⟨h1, h2⟩
      · exact .inl ⟨b, g, base, h1, h2, hp⟩
      · exact .inr ⟨b', b, g, base, h1, h2, hp⟩
    have main : ∀ (b g : Nat), ((b < m ∧ Live h b g) ∨ (m ≤ b' ∧ π b' = some (.blk b g))) ∨ (∃ k, x' = .dead k) → (nctx m π h c).ρ b' x'.gen = c.ρ b g → BRn m π h (some (.blk b g)) x' → BRel (nctx m π h c) w b' x' := by
      intro b g hs hr hx
      cases x' with
      | dead k => trivial
      | cells g' cs =>
        have hs := hs.resolve_right (by simp)
        obtain ⟨ds, h1, h2⟩ := hx
        change (nctx m π h c).ρ b' g' = _ at hr
        rcases H.blk b _ h1 with ⟨k1, rfl⟩ | ⟨cb, bs, C, e, fr, k1, k2, k3, k4, k5, k6⟩
        · left
          refine ⟨hr.trans k1, ?_⟩
          cases cs with
          | nil => rfl
          | cons => exact h2.elim
        · right
          exact ⟨cb, bs, C, e, fr, hr.trans k1, own b g hs cb bs k1 k2, k3, k4, k5, h2.pre H M k6⟩
      | map g' es =>
        have hs := hs.resolve_right (by simp)
        obtain ⟨fs, h1, h2⟩ := hx
        change (nctx m π h c).ρ b' g' = _ at hr
        obtain ⟨cb, es', clock, k1, k2, k3, k4⟩ := H.blk b _ h1
        exact ⟨cb, es', clock, hr.trans k1, own b g hs cb 0 k1 k2, k3, h2.rel H M k4.1, by rw [h2.length]; exact k4.2⟩
    rcases hb b' x' hg with ⟨hm, hx⟩ | ⟨hm, h0, hnd, hx⟩
    · obtain ⟨x, h1, h2, h3⟩ := base b' x' hm hx
      refine main b' x'.gen ?_ (nctx_base hm) hx
      by_cases hdead : ∃ k, x' = .dead k
      · exact .inr hdead
      · exact .inl (.inl ⟨hm, x, h1, h2, h3 fun k e => hdead ⟨k, e⟩⟩)
    · rcases hp : π b' with _ | _ | ⟨b, g⟩
      · rw [hp] at hx; exact hx.elim
      · rw [hp] at hx
        cases x' with
        | dead k => trivial
        | map g' es => exact hx.elim
        | cells g' cs =>
          have hx : cs = [] := hx
          have h0 : g' = 0 := h0
          subst h0
          left
          exact ⟨nctx_nil hm hp, hx⟩
      · rw [hp] at hx
        refine main b g (.inl (.inr ⟨hm, hp⟩)) ?_ hx
        rw [h0]; exact nctx_blk hm hp
  · intro b1 g1 b2 g2 cb base1 base2 l1 l2 p1 p2
    have key : ∀ b1 g1 base1, Live h' b1 g1 → (nctx m π h c).ρ b1 g1 = some (.loc cb base1) → (b1 < m ∧ Live h b1 g1 ∧ c.ρ b1 g1 = some (.loc cb base1)) ∨ (m ≤ b1 ∧ ∃ b g, π b1 = some (.blk b g) ∧ c.ρ b g = some (.loc cb base1)) := by
      rintro b1 g1 base1 ⟨x1, hx1, rfl, hd1⟩ p1
      rcases hb b1 x1 hx1 with ⟨hm, hx⟩ | ⟨hm, h0, hnd, hx⟩
      · rw [nctx_base hm] at p1
        obtain ⟨x, k1, k2, k3⟩ := base b1 x1 hm hx
        exact .inl ⟨hm, ⟨x, k1, k2, k3 hd1⟩, p1⟩
      · rw [h0] at p1
        rcases hp : π b1 with _ | _ | ⟨b, g⟩
        · rw [nctx_none hm hp] at p1; cases p1
        · rw [nctx_nil hm hp] at p1; cases p1
        · rw [nctx_blk hm hp] at p1; exact .inr ⟨hm, b, g, rfl, p1⟩
    rcases key b1 g1 base1 l1 p1 with ⟨k1, k2, k3⟩ | ⟨k1, b, g, k2, k3⟩ <;> rcases key b2 g2 base2 l2 p2 with ⟨j1, j2, j3⟩ | ⟨j1, b', g', j2, j3⟩
    · exact H.inj _ _ _ _ _ _ _ k2 j2 k3 j3
    · obtain ⟨q1, q2⟩ := M.live _ _ _ j1 j2
      have := H.inj _ _ _ _ _ _ _ k2 q1 k3 j3
      omega
    · obtain ⟨q1, q2⟩ := M.live _ _ _ k1 k2
      have := H.inj _ _ _ _ _ _ _ q1 j2 k3 j3
      omega
    · obtain ⟨q1, q2⟩ := M.live _ _ _ j1 j2
      obtain ⟨r1, r2⟩ := M.live _ _ _ k1 k2
      have := H.inj _ _ _ _ _ _ _ r1 q1 k3 j3
      subst this
      exact M.inj _ _ _ _ _ k1 j1 k2 j2
  · intro k hF hO
    rcases hF with hF | hF
    · exact H.disj k hF hO.1
    · exact hF.2 hO.2
  · intro k hF
    rcases hF with hF | hF
    · exact H.inF k hF
    · exact H.inO k hF.1
  · intro k hO; exact H.inO k hO.1

theorem nctx_evo (c : Ctx) (w : World) : Evo2 m c w (nctx m π h c) w :=
  ⟨rfl, rfl, rfl, Nat.le_refl _, fun _ C _ fr hh => ⟨C, fr, hh, rfl⟩, fun _ _ _ => rfl, fun b g p hb hp => (nctx_base hb).trans hp, fun _ hk => .inl hk,
    fun k hk => hk.elim .inl fun hk => .inr (.inl hk.1), fun k hk => .inl hk.1⟩

/-- FROM HERE ON blocks are named anew. -/
theorem W2.recast {N : NM} {sc : SCode} {Q : SX → St → Prop} {T T' : Tmps} {h' : Heap} (M : Maps N.m π h) (hb : RH N.m π h h') (hd : RD N.m π h h') (ht : RT N.m π h T' T) (hw : W2 P N sc Q ⟨T', h'⟩) : W2 P N sc Q ⟨T, h⟩ := by
  intro code hok c a w S Q' hQ
  refine hw code hok (nctx N.m π h c) a w ⟨hb.hrel hd M S.heap, fun i => ht i c w _ S.heap M (S.tmps i), S.size, S.defers⟩ Q' ?_
  intro e B c' a' w' hq S' E'
  exact hQ e B c' a' w' hq S' ((nctx_evo c w).trans E')
end

/-! ### whole functions -/
theorem call_of_W2 {f m : Nat} {sf : SFn} {args : List AV} {h : Heap} {R : List AV → Heap → Prop} (hok : okFn P f sf = true) (hl : args.length ≤ sf.n)
    (hw : W2 P ⟨sf.n, m⟩ sf.body (fun e B => (e = .normal ∨ e = .ret) ∧ ∃ vs, resV B.T B.h sf.res = some vs ∧ R vs B.h) ⟨argT 0 args, h⟩)
    {c : Ctx} {w : World} {cargs : Array Value} (H : HRel c h w) (ha : VRels c w args cargs.toList) :
    Calls P f cargs w fun e w' => ∃ cv c' vs h', e = .returned cv ∧ Evo2 m c w c' w' ∧ HRel c' h' w' ∧ VRel c' w' (resOf vs) cv ∧ R vs h' := by
  obtain ⟨fn, code, hf, hb, hc, hn, hr, _⟩ := okFn_spec hok
  have hlen := VRels_length ha
  have hlen : args.length = cargs.size := by simpa using hlen
  refine calls_of_wp hf hb ?_
  refine hw code hc c _ w ⟨H, ?_, ?_, rfl⟩ _ ?_
  · intro i
    by_cases hi : i < args.length
    · have := argT_rel args cargs.toList 0 [] i ha rfl
      simp only [List.nil_append] at this
      have e : (cargs ++ Array.replicate (fn.ntmps - cargs.size) undef).getD i undef = cargs.toList.getD i undef := by
        rw [Array.getD_eq_getD_getElem?, Array.getElem?_append_left (by omega)]
        simp [List.getD_eq_getElem?_getD]
      rw [e]; exact this
    · rw [argT_any args 0 i (by omega)]; simp [VRel]
  · simp; omega
  · intro e B c' a' w' hq S' E'
    obtain ⟨he, vs, hvs, hR⟩ := hq
    obtain ⟨cv, k1, k2⟩ := results_sound S'.heap S'.tmps hr hvs
    rcases he with rfl | rfl
    · exact ⟨S'.defers, cv, k1, cv, c', vs, B.h, rfl, E', S'.heap, k2, hR⟩
    · exact ⟨S'.defers, cv, k1, cv, c', vs, B.h, rfl, E', S'.heap, k2, hR⟩

/-- No block keeps its name. -/
abbrev π0 : Nat → Option Src := fun _ => none
theorem maps0 {h : Heap} : Maps 0 π0 h := ⟨fun b' b g _ hh => by simp [π0] at hh, fun b1 b2 b g g2 _ _ hh _ => by simp [π0] at hh⟩

theorem Rn.of_frz {h : Heap} {x y : AV} (hv : noRef x = true) (hf : ∀ (c : Ctx) (w : World) (v : Value), HRel c h w → VRel c w y v → VRel (lent c) w x v) : Rn 0 π0 h x y := fun c w v H M hy =>
  VRel.noRef (c := lent c) (c' := nctx 0 π0 h c) (fun k hk => hk.elim .inl fun hO => .inr ⟨hO, by
    rintro (⟨b, g, base, h1, _⟩ | ⟨b', b, g, base, _, h1, _⟩)
    · omega
    · simp [π0] at h1⟩) _ _ hv (hf c w v H hy)

/-- A function of values alone: what it returns is frozen behind it. -/
theorem PSpec.of_W2 {f : Nat} {sf : SFn} {args : List AV} {v : AV} (hok : okFn P f sf = true) (hl : args.length ≤ sf.n) (ha : noRefs args = true) (hv : noRef v = true)
    (hw : W2 P ⟨sf.n, 0⟩ sf.body (fun e B => (e = .normal ∨ e = .ret) ∧ ∃ vs, resV B.T B.h sf.res = some vs ∧ Rn 0 π0 B.h v (resOf vs)) ⟨argT 0 args, .e⟩) : PSpec P f args v := by
  obtain ⟨_, _, _, _, _, _, _, hc⟩ := okFn_spec hok
  refine ⟨ha, hv, .e, hc, fun c w cargs H ha => (call_of_W2 (R := fun vs k => Rn 0 π0 k v (resOf vs)) hok hl hw H ha).mono ?_⟩
  rintro e w' ⟨cv, c', vs, k, rfl, E, H', V, hk⟩
  have V' := hk c' w' cv H' maps0 V
  have hF : ∀ b, c'.F b ∨ c'.O b → b < w'.heap.size := fun b hb => hb.elim (H'.inF b) (H'.inO b)
  refine ⟨cv, only fun b => c'.F b ∨ c'.O b, rfl, ?_, HRel.only hF, VRel.noRef (c := nctx 0 π0 k c') (c' := only fun b => c'.F b ∨ c'.O b) (fun _ h => h.elim .inl fun h => .inr h.1) _ _ hv V'⟩
  refine ⟨E.os, E.tape, E.output, E.size, E.shape, E.keep, fun b g p hp => ?_, fun b hb => .inl (E.frz b hb), fun b hb => ?_, fun b hb => hb.elim⟩
  · rw [H.fresh b rfl g] at hp; cases hp
  · rcases hb with hb | hb
    · exact E.frzNew b hb
    · rcases E.own b hb with h1 | h1
      · exact .inr (.inl h1)
      · exact .inr (.inr h1)

/-- A function with the caller's blocks at hand, all of them below m. -/
theorem HSpec.of_W2 {f m : Nat} {sf : SFn} {args : List AV} {h h' : Heap} {v : AV} (hok : okFn P f sf = true) (hl : args.length ≤ sf.n) (hm : ∀ b, m ≤ b → h.get b = none)
    (hw : W2 P ⟨sf.n, m⟩ sf.body (fun e B => (e = .normal ∨ e = .ret) ∧ ∃ vs π, resV B.T B.h sf.res = some vs ∧ Maps m π B.h ∧ RH m π B.h h' ∧ RD m π B.h h' ∧ Rn m π B.h v (resOf vs)) ⟨argT 0 args, h⟩) : HSpec P f args h v h' := by
  obtain ⟨_, _, _, _, _, _, _, hc⟩ := okFn_spec hok
  refine ⟨hc, fun c w cargs H ha => (call_of_W2 (R := fun vs k => ∃ π, Maps m π k ∧ RH m π k h' ∧ RD m π k h' ∧ Rn m π k v (resOf vs)) hok hl (hw.mono fun e B ⟨h1, vs, π, h2, h3⟩ => ⟨h1, vs, h2, π, h3⟩) H ha).mono ?_⟩
  rintro e w' ⟨cv, c', vs, k, rfl, E, H', V, π, M, hb, hd, hk⟩
  have E2 := E.trans (nctx_evo (m := m) (π := π) (h := k) c' w')
  refine ⟨cv, nctx m π k c', rfl, ?_, hb.hrel hd M H', hk c' w' cv H' M V⟩
  refine ⟨E2.os, E2.tape, E2.output, E2.size, E2.shape, E2.keep, fun b g p hp => ?_, E2.frz, E2.frzNew, E2.own⟩
  rcases Nat.lt_or_ge b m with h1 | h1
  · exact E2.rho b g p h1 hp
  · rw [H.fresh b (hm b h1) g] at hp; cases hp
end Go.AM
