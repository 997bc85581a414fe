/- The abstract machine: naming blocks anew, in words for the simplifier; loops whose heads name their blocks. -/
import Derived.Test.YteaeobmbfhaklaaAmQc
set_option linter.unusedSimpArgs false
set_option linter.unusedVariables false
namespace Go.AM
variable {P : Program}

/-! ### heaps that are lists -/
abbrev HL := List (Nat × Blk)
def hp : HL → Heap
  | [] => .e
  | p :: r => (hp r).set p.1 p.2
theorem hp_nil : hp [] = .e := rfl
theorem hp_cons {b : Nat} {x : Blk} {r : HL} : hp ((b, x) :: r) = (hp r).set b x := rfl
theorem get_e {b : Nat} : Tr.get (α := Blk) .e b = none := by simp [Tr.get]

def lkS : List (Nat × Src) → Nat → Option Src
  | [], _ => none
  | (b, s) :: r, k => if k = b then some s else lkS r k

/-- Is s a source that none of the others is. -/
def srcNew (s : Src) : List (Nat × Src) → Bool
  | [] => true
  | (_, t) :: r => (match s, t with | .blk b _, .blk b' _ => !Nat.beq b b' | _, _ => true) && srcNew s r
/-- The names in order, all different; the sources different and not the caller's. -/
def okPs (m : Nat) : List (Nat × Src) → HL → Bool
  | [], [] => true
  | (b, s) :: r, (b', _) :: l => Nat.beq b b' && Nat.ble m b && Nat.blt b 1099511627775 && (match s with | .blk k _ => Nat.ble m k | .nil => true) && srcNew s r && (r.all fun p => !Nat.beq p.1 b) && okPs m r l
  | _, _ => false

/-- The blocks of a list, each with where it comes from. -/
def RB (m : Nat) (π : Nat → Option Src) (h : Heap) : HL → Prop
  | [] => True
  | (b', x) :: r => (x.gen = 0 ∧ (∀ g, x ≠ .dead g) ∧ BRn m π h (π b') x) ∧ RB m π h r

section
variable {m : Nat} {π : Nat → Option Src} {h : Heap}
theorem hp_get : ∀ {L : HL} {ps : List (Nat × Src)}, okPs m ps L = true → ∀ {b : Nat} {x : Blk}, (hp L).get b = some x → (b, x) ∈ L ∧ m ≤ b
  | [], [], _, b, x, hx => by simp [hp, Tr.get] at hx
  | [], _ :: _, hh, _, _, _ => by simp [okPs] at hh
  | (b', x') :: L, [], hh, _, _, _ => by simp [okPs] at hh
  | (b', x') :: L, (k, s) :: ps, hh, b, x, hx => by
    simp only [okPs, Bool.and_eq_true, Nat.blt_eq, Nat.beq_eq, Nat.ble_eq] at hh
    obtain ⟨⟨⟨⟨⟨⟨rfl, h2⟩, h3⟩, _⟩, _⟩, _⟩, h4⟩ := hh
    simp only [hp] at hx
    by_cases e : b = k
    · subst e
      rw [get_same h3] at hx; cases hx
      exact ⟨by simp, h2⟩
    · rw [get_ne h3 e] at hx
      obtain ⟨q1, q2⟩ := hp_get h4 hx
      exact ⟨by simp [q1], q2⟩
theorem hp_none : ∀ {L : HL} {ps : List (Nat × Src)}, okPs m ps L = true → ∀ {b : Nat}, (hp L).get b = none → lkS ps b = none
  | [], [], _, b, _ => rfl
  | [], _ :: _, hh, _, _ => by simp [okPs] at hh
  | (b', x') :: L, [], hh, _, _ => by simp [okPs] at hh
  | (b', x') :: L, (k, s) :: ps, hh, b, hx => by
    simp only [okPs, Bool.and_eq_true, Nat.blt_eq, Nat.beq_eq, Nat.ble_eq] at hh
    obtain ⟨⟨⟨⟨⟨⟨rfl, h2⟩, h3⟩, _⟩, _⟩, _⟩, h4⟩ := hh
    simp only [hp] at hx
    by_cases e : b = k
    · subst e
      rw [get_same h3] at hx; cases hx
    · rw [get_ne h3 e] at hx
      simp only [lkS, if_neg e]
      exact hp_none h4 hx
theorem RB.mem : ∀ {L : HL}, RB m π h L → ∀ {b : Nat} {x : Blk}, (b, x) ∈ L → x.gen = 0 ∧ (∀ g, x ≠ .dead g) ∧ BRn m π h (π b) x
  | [], _, _, _, hm => by cases hm
  | (b', x') :: L, hh, b, x, hm => by
    rcases List.mem_cons.1 hm with e | hm
    · cases e; exact hh.1
    · exact RB.mem hh.2 hm
theorem okPs_src : ∀ {ps : List (Nat × Src)} {L : HL}, okPs m ps L = true → ∀ {b b1 g : Nat}, lkS ps b = some (.blk b1 g) → m ≤ b1
  | [], _, _, _, _, _, hs => by simp [lkS] at hs
  | _ :: _, [], hh, _, _, _, _ => by simp [okPs] at hh
  | (k, s) :: ps, (b', x') :: L, hh, b, b1, g, hs => by
    simp only [okPs, Bool.and_eq_true] at hh
    obtain ⟨⟨⟨⟨⟨⟨_, _⟩, _⟩, h3⟩, _⟩, _⟩, h4⟩ := hh
    simp only [lkS] at hs
    split at hs
    · cases hs; simpa using h3
    · exact okPs_src h4 hs
theorem srcNew_ne : ∀ {ps : List (Nat × Src)} {b g b' g' k : Nat}, srcNew (.blk b g) ps = true → lkS ps k = some (.blk b' g') → b ≠ b'
  | [], _, _, _, _, _, _, hs => by simp [lkS] at hs
  | (j, s) :: ps, b, g, b', g', k, hh, hs => by
    simp only [srcNew, Bool.and_eq_true] at hh
    simp only [lkS] at hs
    split at hs
    · cases hs
      have := hh.1
      simp only [Bool.not_eq_true'] at this
      intro e; subst e; simp at this
    · exact srcNew_ne hh.2 hs
theorem okPs_inj : ∀ {ps : List (Nat × Src)} {L : HL}, okPs m ps L = true → ∀ {b1 b2 b g g2 : Nat}, lkS ps b1 = some (.blk b g) → lkS ps b2 = some (.blk b g2) → b1 = b2
  | [], _, _, _, _, _, _, _, hs, _ => by simp [lkS] at hs
  | _ :: _, [], hh, _, _, _, _, _, _, _ => by simp [okPs] at hh
  | (k, s) :: ps, (b', x') :: L, hh, b1, b2, b, g, g2, h1, h2 => by
    simp only [okPs, Bool.and_eq_true] at hh
    obtain ⟨⟨⟨⟨⟨⟨_, _⟩, _⟩, _⟩, hn⟩, _⟩, h4⟩ := hh
    simp only [lkS] at h1 h2
    split at h1 <;> split at h2
    · rename_i e1 e2; rw [e1, e2]
    · cases h1; exact absurd rfl (srcNew_ne hn h2)
    · cases h2; exact absurd rfl (srcNew_ne hn h1)
    · exact okPs_inj h4 h1 h2
theorem lkS_mem : ∀ {ps : List (Nat × Src)} {L : HL}, okPs m ps L = true → ∀ {b : Nat} {s : Src}, lkS ps b = some s → ∃ x, (b, x) ∈ L
  | [], _, _, _, _, hs => by simp [lkS] at hs
  | _ :: _, [], hh, _, _, _ => by simp [okPs] at hh
  | (k, t) :: ps, (b', x') :: L, hh, b, s, hs => by
    simp only [okPs, Bool.and_eq_true, Nat.beq_eq] at hh
    obtain ⟨⟨⟨⟨⟨⟨rfl, _⟩, _⟩, _⟩, _⟩, _⟩, h4⟩ := hh
    simp only [lkS] at hs
    split at hs
    · rename_i e; subst e; exact ⟨x', by simp⟩
    · obtain ⟨x, hx⟩ := lkS_mem h4 hs
      exact ⟨x, by simp [hx]⟩

/-- The state (T, h) may be read as (T', hp L). -/
def Rec (m : Nat) (T' : Tmps) (L : HL) (T : Tmps) (h : Heap) : Prop := ∃ ps, okPs m ps L = true ∧ RB m (lkS ps) h L ∧ RT m (lkS ps) h T' T

theorem Rec.maps {ps : List (Nat × Src)} {L : HL} (ho : okPs m ps L = true) (hb : RB m (lkS ps) h L) : Maps m (lkS ps) h := by
  refine ⟨fun b' b g hm hs => ⟨?_, okPs_src ho hs⟩, fun b1 b2 b g g2 _ _ h1 h2 => okPs_inj ho h1 h2⟩
  obtain ⟨x, hx⟩ := lkS_mem ho hs
  obtain ⟨q1, q2, q3⟩ := hb.mem hx
  rw [hs] at q3
  cases x with
  | cells g' cs => obtain ⟨ds, k1, _⟩ := q3; exact ⟨_, k1, rfl, fun k => by simp⟩
  | map g' es => obtain ⟨ds, k1, _⟩ := q3; exact ⟨_, k1, rfl, fun k => by simp⟩
  | dead g' => exact absurd rfl (q2 g')

theorem W2.recL {sc : SCode} {n : Nat} {Q : SX → St → Prop} {T T' : Tmps} {L : HL} (hr : Rec 0 T' L T h) (hw : W2 P ⟨n, 0⟩ sc Q ⟨T', hp L⟩) : W2 P ⟨n, 0⟩ sc Q ⟨T, h⟩ := by
  obtain ⟨ps, ho, hb, ht⟩ := hr
  refine W2.recast (N := ⟨n, 0⟩) (Rec.maps ho hb) (fun b' x' hx => .inr ⟨Nat.zero_le _, ?_⟩) (fun b' hx => ⟨fun h => absurd h (Nat.not_lt_zero _), fun _ => hp_none ho hx⟩) ht hw
  exact hb.mem (hp_get ho hx).1

/-- Behind a piece of code blocks may be named anew. -/
theorem W2.post {sc : SCode} {k : Nat} {Q : SX → St → Prop} {A : St} (hw : W2 P ⟨k, 0⟩ sc (fun e B => Q e B ∨ ∃ T' L, Rec 0 T' L B.T B.h ∧ Q e ⟨T', hp L⟩) A) : W2 P ⟨k, 0⟩ sc Q A := by
  intro code hok c a w S Q' hQ
  refine hw code hok c a w S Q' ?_
  rintro e B c' a' w' (hq | ⟨T', L, ⟨ps, ho, hb, ht⟩, hq⟩) S' E'
  · exact hQ e B c' a' w' hq S' E'
  · have M := Rec.maps ho hb
    refine hQ e ⟨T', hp L⟩ (nctx 0 (lkS ps) B.h c') a' w' hq ⟨?_, fun i => ht i c' w' _ S'.heap M (S'.tmps i), S'.size, S'.defers⟩ (E'.trans (nctx_evo c' w'))
    exact RH.hrel (fun b' x' hx => .inr ⟨Nat.zero_le _, hb.mem (hp_get ho hx).1⟩) (fun b' hx => ⟨fun h => absurd h (Nat.not_lt_zero _), fun _ => hp_none ho hx⟩) M S'.heap

/-- The slots, one by one. -/
theorem RT.nil {T : Tmps} : RT m π h [] T := fun _ => Rn.any
theorem RT.cons {T' T : Tmps} {j : Nat} {v : AV} (hv : Rn m π h v (lk T j)) (hr : RT m π h T' T) : RT m π h ((j, v) :: T') T := by
  intro i
  rw [lk_cons]
  split
  · rename_i e; subst e; exact hv
  · exact hr i
theorem RT.cons' {T' T : Tmps} {j : Nat} {v u : AV} (hu : lk T j = u) (hv : Rn m π h v u) (hr : RT m π h T' T) : RT m π h ((j, v) :: T') T := RT.cons (hu ▸ hv) hr
theorem RB.nil : RB m π h [] := trivial
theorem RB.cells {b b' g : Nat} {cs ds : List AV} {r : HL} (hp : π b' = some (.blk b g)) (hg : h.get b = some (.cells g ds)) (hc : RnL m π h cs ds) (hr : RB m π h r) : RB m π h ((b', .cells 0 cs) :: r) :=
  ⟨⟨rfl, fun _ => by simp, by rw [hp]; exact ⟨ds, hg, hc⟩⟩, hr⟩
theorem RB.newnil {b' : Nat} {r : HL} (hp : π b' = some .nil) (hr : RB m π h r) : RB m π h ((b', .cells 0 []) :: r) := ⟨⟨rfl, fun _ => by simp, by rw [hp]; rfl⟩, hr⟩
theorem RB.map {b b' g : Nat} {es fs : List (AV × AV)} {r : HL} (hp : π b' = some (.blk b g)) (hg : h.get b = some (.map g fs)) (hc : RnM m π h es fs) (hr : RB m π h r) : RB m π h ((b', .map 0 es) :: r) :=
  ⟨⟨rfl, fun _ => by simp, by rw [hp]; exact ⟨fs, hg, hc⟩⟩, hr⟩
theorem lkS_new {s : Src} : ∀ {ps : List (Nat × Src)}, srcNew s ps = true → ∀ b' g', lkS ps b' = some g' → (match s, g' with | .blk b _, .blk b2 _ => b ≠ b2 | _, _ => True)
  | [], _, b', g', hs => by simp [lkS] at hs
  | (j, t) :: ps, hh, b', g', hs => by
    simp only [srcNew, Bool.and_eq_true] at hh
    simp only [lkS] at hs
    split at hs
    · cases hs
      have := hh.1
      cases s <;> cases t <;> simp_all
      intro e; subst e; simp at this
    · exact lkS_new hh.2 b' g' hs
theorem RnL.nil {m : Nat} {π : Nat → Option Src} {h : Heap} : RnL m π h [] [] := trivial
theorem RnL.cons {m : Nat} {π : Nat → Option Src} {h : Heap} {x y : AV} {xs ys : List AV} (h1 : Rn m π h x y) (h2 : RnL m π h xs ys) : RnL m π h (x :: xs) (y :: ys) := ⟨h1, h2⟩
/-- A slice whose block is not kept is frozen. -/
theorem Rn.fz {ps : List (Nat × Src)} {b g len sz : Nat} {cs ds : List AV} (hb : h.get b = some (.cells g ds)) (hn : srcNew (.blk b g) ps = true) (hm : Nat.ble m b = true) (hl : ds.length = len * sz)
    (hL : RnL m (lkS ps) h cs ds) : Rn m (lkS ps) h (.fsl cs len sz) (.sl b g 0 len sz) := by
  refine Rn.frz hb (by simpa using hm) (fun b' g' _ e => ?_) (by omega) ?_
  · exact lkS_new hn b' _ e rfl
  · rw [List.drop_zero, ← hl, List.take_length]; exact hL
theorem Rn.fzm {ps : List (Nat × Src)} {b g len sz k : Nat} {cs ds : List AV} (hb : h.get b = some (.cells g ds)) (hn : srcNew (.blk b g) ps = true) (hm : Nat.ble m b = true) (hk : k = len) (hl : ds.length = len * sz)
    (hL : RnL m (lkS ps) h cs ds) : Rn m (lkS ps) h (.fsl cs k sz) (.sl b g 0 len sz) := by subst hk; exact Rn.fz hb hn hm hl hL
theorem Rn.fz0 {b g len sz : Nat} {cs ds : List AV} (hb : h.get b = some (.cells g ds)) (hl : ds.length = len * sz)
    (hL : RnL 0 π0 h cs ds) : Rn 0 π0 h (.fsl cs len sz) (.sl b g 0 len sz) := by
  refine Rn.frz hb (Nat.zero_le _) (fun b' g' _ e => by simp [π0] at e) (by omega) ?_
  rw [List.drop_zero, ← hl, List.take_length]; exact hL
end

theorem Rn.slot {m : Nat} {π : Nat → Option Src} {h : Heap} {T : Tmps} {j : Nat} {v : AV} (hv : lk T j = v) (hn : noRef v = true) : Rn m π h v (lk T j) := by rw [hv]; exact Rn.same hn

/-! ### loops -/
section
variable {k n : Nat} {T : Tmps} {h : Heap} {Q : QC} {fs : List Fr} {α : Type} {env : α → Tmps} {H : α → HL} {I : α → Prop} {μ : α → Nat} {a : α}
/-- Behind a round. -/
def loopR (P : Program) (k : Nat) {α : Type} (env : α → Tmps) (H : α → HL) (I : α → Prop) (μ : α → Nat) (a : α) (fs : List Fr) (Q : QC) : QC := fun e T h n =>
  match e with
  | .normal => ∃ a', μ a' < μ a ∧ I a' ∧ Rec 0 (env a') (H a') T h
  | e => wX P ⟨k, 0⟩ e fs n T h Q
theorem loopR_normal : loopR P k env H I μ a fs Q .normal T h n = ∃ a', μ a' < μ a ∧ I a' ∧ Rec 0 (env a') (H a') T h := rfl
theorem loopR_exit {i : Nat} : loopR P k env H I μ a fs Q (.exit i) T h n = wX P ⟨k, 0⟩ (.exit i) fs n T h Q := rfl
theorem loopR_ret : loopR P k env H I μ a fs Q .ret T h n = wX P ⟨k, 0⟩ .ret fs n T h Q := rfl

/-- A LOOP: the heads of its rounds are env a, with the blocks H a; new blocks are numbered from n0 on; μ goes down. -/
theorem wS_loopR {b : SCode} (n0 : Nat) (env : α → Tmps) (H : α → HL) (I : α → Prop) (μ : α → Nat) (a0 : α)
    (h0 : Rec 0 (env a0) (H a0) T h) (hI : I a0) (round : ∀ a, I a → wS P ⟨k, 0⟩ b [] n0 (env a) (hp (H a)) (loopR P k env H I μ a fs Q)) : wS P ⟨k, 0⟩ (.loop b) fs n T h Q := by
  show W2 P ⟨k, 0⟩ (.loop b) (fun e B => ∃ n, ct P ⟨k, 0⟩ fs Q e B.T B.h n) ⟨T, h⟩
  refine W2.loop (fun m B => ∃ a, μ a = m ∧ I a ∧ Rec 0 (env a) (H a) B.T B.h) (μ a0) ⟨a0, rfl, hI, h0⟩ ?_
  rintro m B ⟨a, rfl, hi, hr⟩
  refine W2.recL hr ((wpC.toW (round a hi)).mono ?_)
  rintro e C ⟨n2, hq⟩
  cases e with
  | normal => obtain ⟨a', h1, h2, h3⟩ := hq; exact ⟨μ a', h1, a', rfl, h2, h3⟩
  | exit i => exact ⟨n2, hq⟩
  | ret => exact ⟨n2, hq⟩

/-- Behind a round of a loop that is left by the exit i in one of the states T1 b, L1 b. -/
def loopX (P : Program) (k : Nat) {α β : Type} (env : α → Tmps) (H : α → HL) (I : α → Prop) (μ : α → Nat) (i : Nat) (T1 : β → Tmps) (L1 : β → HL) (J : β → Prop) (a : α) (fs : List Fr) (Q : QC) : QC := fun e T h n =>
  match e with
  | .normal => ∃ a', μ a' < μ a ∧ I a' ∧ Rec 0 (env a') (H a') T h
  | .exit j => if j = i then ∃ b, J b ∧ Rec 0 (T1 b) (L1 b) T h else wX P ⟨k, 0⟩ (.exit j) fs n T h Q
  | .ret => wX P ⟨k, 0⟩ .ret fs n T h Q
section
variable {β : Type} {i : Nat} {T1 : β → Tmps} {L1 : β → HL} {J : β → Prop}
theorem loopX_normal : loopX P k env H I μ i T1 L1 J a fs Q .normal T h n = ∃ a', μ a' < μ a ∧ I a' ∧ Rec 0 (env a') (H a') T h := rfl
theorem loopX_exit {j : Nat} : loopX P k env H I μ i T1 L1 J a fs Q (.exit j) T h n = if j = i then ∃ b, J b ∧ Rec 0 (T1 b) (L1 b) T h else wX P ⟨k, 0⟩ (.exit j) fs n T h Q := rfl
theorem loopX_ret : loopX P k env H I μ i T1 L1 J a fs Q .ret T h n = wX P ⟨k, 0⟩ .ret fs n T h Q := rfl
end

/-- A LOOP that is left by the exit i: then the state is one of T1 b, L1 b. -/
theorem wS_loopX {b : SCode} {β : Type} (n0 : Nat) (env : α → Tmps) (H : α → HL) (I : α → Prop) (μ : α → Nat) (a0 : α) (i n1 : Nat) (T1 : β → Tmps) (L1 : β → HL) (J : β → Prop)
    (h0 : Rec 0 (env a0) (H a0) T h) (hI : I a0) (round : ∀ a, I a → wS P ⟨k, 0⟩ b [] n0 (env a) (hp (H a)) (loopX P k env H I μ i T1 L1 J a fs Q))
    (cont : ∀ b, J b → wX P ⟨k, 0⟩ (.exit i) fs n1 (T1 b) (hp (L1 b)) Q) : wS P ⟨k, 0⟩ (.loop b) fs n T h Q := by
  show W2 P ⟨k, 0⟩ (.loop b) (fun e B => ∃ n, ct P ⟨k, 0⟩ fs Q e B.T B.h n) ⟨T, h⟩
  refine W2.post ?_
  refine W2.loop (fun m B => ∃ a, μ a = m ∧ I a ∧ Rec 0 (env a) (H a) B.T B.h) (μ a0) ⟨a0, rfl, hI, h0⟩ ?_
  rintro m B ⟨a, rfl, hi, hr⟩
  refine W2.recL hr ((wpC.toW (round a hi)).mono ?_)
  rintro e C ⟨n2, hq⟩
  cases e with
  | normal => obtain ⟨a', h1, h2, h3⟩ := hq; exact ⟨μ a', h1, a', rfl, h2, h3⟩
  | exit j =>
    replace hq : loopX P k env H I μ i T1 L1 J a fs Q (.exit j) C.T C.h n2 := hq
    rw [loopX_exit] at hq
    split at hq
    · rename_i e; subst e
      obtain ⟨b, hJ, hr⟩ := hq
      exact .inr ⟨_, _, hr, n1, cont b hJ⟩
    · exact .inl ⟨n2, hq⟩
  | ret => exact .inl ⟨n2, hq⟩
end

/-! ### appending, in words for the simplifier -/
section
variable {N : NM} {n : Nat} {d : Option Nat} {af dead : List Nat} {r : List SOper} {T : Tmps} {h : Heap} {Q : QC} {fs : List Fr}
/-- Appended. -/
def wA (P : Program) (N : NM) (zs ys : Option (List AV)) (g len2 len sz bytes b : Nat) (d : Option Nat) (ops : List SOper) (dead : List Nat) (fs : List Fr) (n : Nat) (T : Tmps) (h : Heap) (Q : QC) : Prop :=
  ∃ y z, ys = some y ∧ zs = some z ∧ ((len2 + len) * bytes ≤ 1099511627776 ∧ len2 + len ≤ 1099511627776) ∧ y.all AV.one = true ∧
      wB P N (some (.cells (g + 1) (z ++ y))) b (.sl b (g + 1) 0 (len2 + len) sz) d ops dead fs n T h Q
theorem aAppend_slW {sz bytes b g off len b2 g2 off2 len2 : Nat} : wM P N (aAppend .dyn n sz bytes (.sl b2 g2 off2 len2 sz) (.sl b g off len sz)) d r dead fs n T h Q =
    wA P N (srcB (h.get b2) g2 off2 len2 sz) (srcB (h.get b) g off len sz) g2 len2 len sz bytes b2 d r dead fs n T h Q := by
  rw [aAppend_sl]
  apply propext; constructor
  · rintro ⟨ys, zs, h1, h2, h3, h4, h5⟩; exact ⟨ys, zs, h1, h2, h3, h4, h5⟩
  · rintro ⟨ys, zs, h1, h2, h3, h4, h5⟩; exact ⟨ys, zs, h1, h2, h3, h4, h5⟩
theorem wA_some {zs ys : List AV} {g len2 len sz bytes b : Nat} (h1 : (len2 + len) * bytes ≤ 1099511627776) (h2 : len2 + len ≤ 1099511627776) :
    wA P N (some zs) (some ys) g len2 len sz bytes b d r dead fs n T h Q = if ys.all AV.one = true then wB P N (some (.cells (g + 1) (zs ++ ys))) b (.sl b (g + 1) 0 (len2 + len) sz) d r dead fs n T h Q else False := by
  by_cases ho : ys.all AV.one = true
  · rw [if_pos ho]; apply propext; constructor
    · rintro ⟨y, z, e1, e2, _, _, h5⟩; cases e1; cases e2; exact h5
    · intro h5; exact ⟨ys, zs, rfl, rfl, ⟨h1, h2⟩, ho, h5⟩
  · rw [if_neg ho]; apply propext; constructor
    · rintro ⟨y, z, e1, e2, _, h4, h5⟩; cases e1; exact ho h4
    · exact fun h => h.elim
/-- The cells of a whole row. -/
theorem srcB_all {g len sz : Nat} {cs : List AV} (hl : cs.length = len * sz) : srcB (some (.cells g cs)) g 0 len sz = some cs := by
  rw [srcB_some, if_pos ⟨rfl, by omega⟩, List.drop_zero, ← hl, List.take_length]
end
end Go.AM
