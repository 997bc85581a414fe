/- A part of the proof of CatalogueNetsCardSaid: lemmas on the way (AmQd, AmQw, AmQe, AmTa, AmIb, AmIc, AmId, AmIe). Conditions: none of ours. -/
import Derived.Test.YtnjlnnbepabfcaaDoorAmZ9
set_option linter.unusedSectionVars false
set_option linter.unusedSimpArgs false
set_option linter.unusedVariables false
namespace Go.AM
variable {P : Program}
abbrev HL := List (Nat × Blk)
def hp : HL → Heap
  | [] => .e
  | p :: r => (hp r).set p.1 p.2
theorem get_e {b : Nat} : Tr.get (α := Blk) .e b = none := by simp [Tr.get]
def lkS : List (Nat × Src) → Nat → Option Src
  | [], _ => none
  | (b, s) :: r, k => if k = b then some s else lkS r k
def srcNew (s : Src) : List (Nat × Src) → Bool
  | [] => true
  | (_, t) :: r => (match s, t with | .blk b _, .blk b' _ => !Nat.beq b b' | _, _ => true) && srcNew s r
def okPs (m : Nat) : List (Nat × Src) → HL → Bool
  | [], [] => true
  | (b, s) :: r, (b', _) :: l => Nat.beq b b' && Nat.blt b 1099511627775 && (Nat.blt b m || ((match s with | .blk k _ => Nat.ble m k | .nil => true) && srcNew s r)) && (r.all fun p => !Nat.beq p.1 b) && okPs m r l
  | _, _ => false
def ow (m : Nat) (ps : List (Nat × Src)) : Nat → Option Src := fun b => if b < m then none else lkS ps b
def RB (m : Nat) (π : Nat → Option Src) (h : Heap) : HL → Prop
  | [] => True
  | (b', x) :: r => ((b' < m ∧ BRn m π h (some (.blk b' x.gen)) x) ∨ (m ≤ b' ∧ x.gen = 0 ∧ (∀ g, x ≠ .dead g) ∧ BRn m π h (π b') x)) ∧ RB m π h r
section
variable {m : Nat} {π : Nat → Option Src} {h : Heap}
theorem hp_get : ∀ {L : HL} {ps : List (Nat × Src)}, okPs m ps L = true → ∀ {b : Nat} {x : Blk}, (hp L).get b = some x → (b, x) ∈ L
  | [], [], _, b, x, hx => by simp [hp, Tr.get] at hx
  | [], _ :: _, hh, _, _, _ => by simp [okPs] at hh
  | (b', x') :: L, [], hh, _, _, _ => by simp [okPs] at hh
  | (b', x') :: L, (k, s) :: ps, hh, b, x, hx => by
    simp only [okPs, Bool.and_eq_true, Nat.blt_eq, Nat.beq_eq] at hh
    obtain ⟨⟨⟨⟨rfl, h3⟩, _⟩, _⟩, h4⟩ := hh
    simp only [hp] at hx
    by_cases e : b = k
    · subst e
      rw [get_same h3] at hx; cases hx
      simp
    · rw [get_ne h3 e] at hx
      simp [hp_get h4 hx]
theorem hp_none : ∀ {L : HL} {ps : List (Nat × Src)}, okPs m ps L = true → ∀ {b : Nat}, (hp L).get b = none → lkS ps b = none
  | [], [], _, b, _ => rfl
  | [], _ :: _, hh, _, _ => by simp [okPs] at hh
  | (b', x') :: L, [], hh, _, _ => by simp [okPs] at hh
  | (b', x') :: L, (k, s) :: ps, hh, b, hx => by
    simp only [okPs, Bool.and_eq_true, Nat.blt_eq, Nat.beq_eq] at hh
    obtain ⟨⟨⟨⟨rfl, h3⟩, _⟩, _⟩, h4⟩ := hh
    simp only [hp] at hx
    by_cases e : b = k
    · subst e
      rw [get_same h3] at hx; cases hx
    · rw [get_ne h3 e] at hx
      simp only [lkS, if_neg e]
      exact hp_none h4 hx
theorem RB.mem : ∀ {L : HL}, RB m π h L → ∀ {b : Nat} {x : Blk}, (b, x) ∈ L → (b < m ∧ BRn m π h (some (.blk b x.gen)) x) ∨ (m ≤ b ∧ x.gen = 0 ∧ (∀ g, x ≠ .dead g) ∧ BRn m π h (π b) x)
  | [], _, _, _, hm => by cases hm
  | (b', x') :: L, hh, b, x, hm => by
    rcases List.mem_cons.1 hm with e | hm
    · cases e; exact hh.1
    · exact RB.mem hh.2 hm
theorem okPs_src : ∀ {ps : List (Nat × Src)} {L : HL}, okPs m ps L = true → ∀ {b b1 g : Nat}, m ≤ b → lkS ps b = some (.blk b1 g) → m ≤ b1
  | [], _, _, _, _, _, _, hs => by simp [lkS] at hs
  | _ :: _, [], hh, _, _, _, _, _ => by simp [okPs] at hh
  | (k, s) :: ps, (b', x') :: L, hh, b, b1, g, hb, hs => by
    simp only [okPs, Bool.and_eq_true, Bool.or_eq_true, Nat.blt_eq] at hh
    obtain ⟨⟨⟨_, h3⟩, _⟩, h4⟩ := hh
    simp only [lkS] at hs
    split at hs
    · rename_i e
      cases hs
      rcases h3 with h3 | h3
      · omega
      · simpa using h3.1
    · exact okPs_src h4 hb hs
theorem srcNew_ne : ∀ {ps : List (Nat × Src)} {b g b' g' k : Nat}, srcNew (.blk b g) ps = true → lkS ps k = some (.blk b' g') → b ≠ b'
  | [], _, _, _, _, _, _, hs => by simp [lkS] at hs
  | (j, s) :: ps, b, g, b', g', k, hh, hs => by
    simp only [srcNew, Bool.and_eq_true] at hh
    simp only [lkS] at hs
    split at hs
    · cases hs
      have := hh.1
      simp only [Bool.not_eq_true'] at this
      intro e; subst e; simp at this
    · exact srcNew_ne hh.2 hs
theorem okPs_inj : ∀ {ps : List (Nat × Src)} {L : HL}, okPs m ps L = true → ∀ {b1 b2 b g g2 : Nat}, m ≤ b1 → m ≤ b2 → lkS ps b1 = some (.blk b g) → lkS ps b2 = some (.blk b g2) → b1 = b2
  | [], _, _, _, _, _, _, _, _, _, hs, _ => by simp [lkS] at hs
  | _ :: _, [], hh, _, _, _, _, _, _, _, _, _ => by simp [okPs] at hh
  | (k, s) :: ps, (b', x') :: L, hh, b1, b2, b, g, g2, m1, m2, h1, h2 => by
    simp only [okPs, Bool.and_eq_true, Bool.or_eq_true, Nat.blt_eq] at hh
    obtain ⟨⟨⟨_, hn⟩, _⟩, h4⟩ := hh
    simp only [lkS] at h1 h2
    split at h1 <;> split at h2
    · rename_i e1 e2; rw [e1, e2]
    · rename_i e1 e2
      cases h1
      rcases hn with hn | hn
      · omega
      · exact absurd rfl (srcNew_ne hn.2 h2)
    · rename_i e1 e2
      cases h2
      rcases hn with hn | hn
      · omega
      · exact absurd rfl (srcNew_ne hn.2 h1)
    · exact okPs_inj h4 m1 m2 h1 h2
theorem lkS_mem : ∀ {ps : List (Nat × Src)} {L : HL}, okPs m ps L = true → ∀ {b : Nat} {s : Src}, lkS ps b = some s → ∃ x, (b, x) ∈ L
  | [], _, _, _, _, hs => by simp [lkS] at hs
  | _ :: _, [], hh, _, _, _ => by simp [okPs] at hh
  | (k, t) :: ps, (b', x') :: L, hh, b, s, hs => by
    simp only [okPs, Bool.and_eq_true, Nat.beq_eq] at hh
    obtain ⟨⟨⟨⟨rfl, _⟩, _⟩, _⟩, h4⟩ := hh
    simp only [lkS] at hs
    split at hs
    · rename_i e; subst e; exact ⟨x', by simp⟩
    · obtain ⟨x, hx⟩ := lkS_mem h4 hs
      exact ⟨x, by simp [hx]⟩
def RO (m : Nat) (L : HL) (h : Heap) : Prop := ∀ b, b < m → (∀ p ∈ L, p.1 ≠ b) → h.get b = none
theorem RO.zero {L : HL} : RO 0 L h := fun b hb => absurd hb (Nat.not_lt_zero _)
theorem RO.e {L : HL} : RO m L .e := fun b _ _ => get_e
theorem RO.set {L : HL} {k : Nat} {x : Blk} (hk : (Nat.blt k 1099511627775 && (Nat.ble m k || L.any fun p => Nat.beq p.1 k)) = true) (hr : RO m L h) : RO m L (h.set k x) := fun b hb hn => by
  simp only [Bool.and_eq_true, Bool.or_eq_true, Nat.blt_eq, Nat.ble_eq, List.any_eq_true, Nat.beq_eq] at hk
  obtain ⟨h1, h2⟩ := hk
  have : b ≠ k := by
    rintro rfl
    rcases h2 with h2 | ⟨p, hp, h2⟩
    · omega
    · exact hn p hp h2
  rw [get_ne h1 this]; exact hr b hb hn
def Rec (m : Nat) (T' : Tmps) (L : HL) (T : Tmps) (h : Heap) : Prop := ∃ ps, okPs m ps L = true ∧ RO m L h ∧ RB m (ow m ps) h L ∧ RT m (ow m ps) h T' T
theorem ow_ge {ps : List (Nat × Src)} {b : Nat} (hb : m ≤ b) : ow m ps b = lkS ps b := if_neg (by omega)
theorem Rec.maps {ps : List (Nat × Src)} {L : HL} (ho : okPs m ps L = true) (hb : RB m (ow m ps) h L) : Maps m (ow m ps) h := by
  refine ⟨fun b' b g hm hs => ?_, fun b1 b2 b g g2 m1 m2 h1 h2 => okPs_inj ho m1 m2 (by rw [← ow_ge m1]; exact h1) (by rw [← ow_ge m2]; exact h2)⟩
  rw [ow_ge hm] at hs
  refine ⟨?_, okPs_src ho hm hs⟩
  obtain ⟨x, hx⟩ := lkS_mem ho hs
  rcases hb.mem hx with ⟨q0, _⟩ | ⟨_, q1, q2, q3⟩
  · omega
  rw [ow_ge hm, hs] at q3
  cases x with
  | cells g' cs => obtain ⟨ds, _, k1, _⟩ := q3; exact ⟨_, k1, rfl, fun k => by simp⟩
  | map g' es => obtain ⟨ds, k1, _⟩ := q3; exact ⟨_, k1, rfl, fun k => by simp⟩
  | loop g' N T ps asg body st => obtain ⟨T0, k1, _⟩ := q3; exact ⟨_, k1, rfl, fun k => by simp⟩
  | dead g' => exact absurd rfl (q2 g')
theorem Rec.heap {ps : List (Nat × Src)} {L : HL} (ho : okPs m ps L = true) (hb : RB m (ow m ps) h L) : RH m (ow m ps) h (hp L) := fun b' x' hx => hb.mem (hp_get ho hx)
theorem hp_mem : ∀ {L : HL} {ps : List (Nat × Src)}, okPs m ps L = true → ∀ {b : Nat}, (hp L).get b = none → ∀ p ∈ L, p.1 ≠ b
  | [], _, _, _, _, p, hp => by cases hp
  | (b', x') :: L, [], hh, _, _, _, _ => by simp [okPs] at hh
  | (b', x') :: L, (k, s) :: ps, hh, b, hx, p, hpm => by
    simp only [okPs, Bool.and_eq_true, Nat.blt_eq, Nat.beq_eq] at hh
    obtain ⟨⟨⟨⟨rfl, h3⟩, _⟩, _⟩, h4⟩ := hh
    simp only [hp] at hx
    by_cases e : b = k
    · subst e; rw [get_same h3] at hx; cases hx
    · rw [get_ne h3 e] at hx
      rcases List.mem_cons.1 hpm with rfl | hpm
      · exact fun e2 => e e2.symm
      · exact hp_mem h4 hx p hpm
theorem Rec.dom {ps : List (Nat × Src)} {L : HL} (ho : okPs m ps L = true) (hr : RO m L h) : RD m (ow m ps) h (hp L) := fun b' hx =>
  ⟨fun hlt => hr b' hlt (hp_mem ho hx), fun hge => by rw [ow_ge hge]; exact hp_none ho hx⟩
theorem W2.post {sc : SCode} {k : Nat} {Q : SX → St → Prop} {A : St} (hw : W2 P ⟨k, m⟩ sc (fun e B => Q e B ∨ ∃ T' L, Rec m T' L B.T B.h ∧ Q e ⟨T', hp L⟩) A) : W2 P ⟨k, m⟩ sc Q A := by
  intro code hok c a w S ro hro Q' hQ
  refine hw code hok c a w S ro hro Q' ?_
  rintro e B c' a' w' (hq | ⟨T', L, ⟨ps, ho, hro, hb, ht⟩, hq⟩) S' E'
  · exact hQ e B c' a' w' hq S' E'
  · have M := Rec.maps ho hb
    exact hQ e ⟨T', hp L⟩ (nctx m (ow m ps) B.h c') a' w' hq ⟨(Rec.heap ho hb).hrel (Rec.dom ho hro) M S'.heap, fun i => ht i _ c' w' _ S'.heap M (S'.tmps i), S'.size, S'.defers.mono2 (nctx_evo (m := m) (π := ow m ps) (h := B.h) c' w')⟩ (E'.trans (nctx_evo c' w'))
theorem RT.nil {T : Tmps} : RT m π h [] T := fun _ => Rn.any
theorem RT.cons {T' T : Tmps} {j : Nat} {v : AV} (hv : Rn m π h v (lk T j)) (hr : RT m π h T' T) : RT m π h ((j, v) :: T') T := by
  intro i
  rw [lk_cons]
  split
  · rename_i e; subst e; exact hv
  · exact hr i
theorem RB.nil : RB m π h [] := trivial
theorem RB.cells {b b' g : Nat} {cs ds : List AV} {r : HL} (hm : Nat.ble m b' = true) (hp : π b' = some (.blk b g)) (hg : h.get b = some (.cells g ds)) (hc : RnL m π h cs ds) (hr : RB m π h r) : RB m π h ((b', .cells 0 cs) :: r) :=
  ⟨.inr ⟨Nat.le_of_ble_eq_true hm, rfl, fun _ => by simp, by rw [hp]; exact ⟨ds, ds.length, hg, by rw [List.take_length]; exact hc⟩⟩, hr⟩
theorem RB.pre {b b' g : Nat} {cs ds : List AV} {r : HL} (k : Nat) (hm : Nat.ble m b' = true) (hp : π b' = some (.blk b g)) (hg : h.get b = some (.cells g ds)) (hc : RnL m π h cs (ds.take k)) (hr : RB m π h r) : RB m π h ((b', .cells 0 cs) :: r) :=
  ⟨.inr ⟨Nat.le_of_ble_eq_true hm, rfl, fun _ => by simp, by rw [hp]; exact ⟨ds, k, hg, hc⟩⟩, hr⟩
theorem RB.map {b b' g : Nat} {es fs : List (AV × AV)} {r : HL} (hm : Nat.ble m b' = true) (hp : π b' = some (.blk b g)) (hg : h.get b = some (.map g fs)) (hc : RnM m π h es fs) (hr : RB m π h r) : RB m π h ((b', .map 0 es) :: r) :=
  ⟨.inr ⟨Nat.le_of_ble_eq_true hm, rfl, fun _ => by simp, by rw [hp]; exact ⟨fs, hg, hc⟩⟩, hr⟩
theorem RnL.nil {m : Nat} {π : Nat → Option Src} {h : Heap} : RnL m π h [] [] := trivial
theorem RnL.cons {m : Nat} {π : Nat → Option Src} {h : Heap} {x y : AV} {xs ys : List AV} (h1 : Rn m π h x y) (h2 : RnL m π h xs ys) : RnL m π h (x :: xs) (y :: ys) := ⟨h1, h2⟩
end
section
variable {m : Nat} {π : Nat → Option Src} {h : Heap}
end
section
variable {k m n : Nat} {T : Tmps} {h : Heap} {Q : QC} {fs : List Fr} {α : Type} {env : α → Tmps} {H : α → HL} {I : α → Prop} {μ : α → Nat} {a : α}
section
variable {β : Type} {i : Nat} {T1 : β → Tmps} {L1 : β → HL} {J : β → Prop}
end
end
section
variable {N : NM} {n : Nat} {d : Option Nat} {af dead : List Nat} {r : List SOper} {T : Tmps} {h : Heap} {Q : QC} {fs : List Fr}
end
end Go.AM
set_option linter.unusedVariables false
namespace Go.AM
end Go.AM
set_option linter.unusedSimpArgs false
set_option linter.unusedVariables false
namespace Go.AM
variable {P : Program}
def RnO (h : Heap) (x y : AV) : Prop := ∀ (ok : Okc) (c : Ctx ok) (w : World) (v : Value), HRel c h w → VRel c w y v → VRel (only (ok := ok) c.O) w x v
def RnOL (h : Heap) : List AV → List AV → Prop
  | [], [] => True
  | x :: xs, y :: ys => RnO h x y ∧ RnOL h xs ys
  | _, _ => False
section
variable {h : Heap}
theorem RnO.flat {x : AV} (hf : flatV x = true) : RnO h x x := fun _ c w v _ hv => VRel.flat _ _ hf hv
theorem RnOL.nil : RnOL h [] [] := trivial
theorem RnOL.cons {x y : AV} {xs ys : List AV} (h1 : RnO h x y) (h2 : RnOL h xs ys) : RnOL h (x :: xs) (y :: ys) := ⟨h1, h2⟩
theorem RnOL.rels {ok : Okc} {c : Ctx ok} {w : World} (H : HRel c h w) : ∀ {xs ys : List AV} {vs : List Value}, RnOL h xs ys → VRels c w ys vs → VRels (only (ok := ok) c.O) w xs vs
  | [], [], _, _, hv => by simpa [VRels] using hv
  | [], _ :: _, _, hh, _ => hh.elim
  | _ :: _, [], _, hh, _ => hh.elim
  | x :: xs, y :: ys, vs, hh, hv => by
    simp only [VRels] at hv ⊢
    obtain ⟨v, vs', rfl, g1, g2⟩ := hv
    exact ⟨v, vs', rfl, hh.1 _ c w v H g1, RnOL.rels H hh.2 g2⟩
theorem RnO.tup {xs ys : List AV} (hL : RnOL h xs ys) : RnO h (.tup xs) (.tup ys) := fun _ c w v H hv => by
  simp only [VRel] at hv ⊢
  obtain ⟨vs, rfl, hv⟩ := hv
  exact ⟨vs, rfl, hL.rels H hv⟩
theorem RnO.sl {b g len sz : Nat} {ds : List AV} (hb : h.get b = some (.cells g ds)) (hf : flatVs ds = true) (hl : ds.length = len * sz) : RnO h (.fsl ds len sz) (.sl b g 0 len sz) := fun _ c w v H hv => by
  simp only [VRel] at hv
  rcases hv with ⟨hp, rfl, _, rfl⟩ | ⟨cb, base, o, cap, C, e, fr, hp, rfl, hlc, hC, hcap⟩
  · have : ds = [] := List.eq_nil_of_length_eq_zero (by rw [hl]; simp)
    subst this
    simp only [VRel]; exact .inl (by simp)
  · obtain ⟨C', e', fr', hO, hC', hfr, hbs, hpre⟩ := H.here hb hp
    rw [hC] at hC'; cases hC'
    by_cases h0 : cap = 0
    · have hl0 : len = 0 := by omega
      subst hl0
      have : ds = [] := List.eq_nil_of_length_eq_zero (by rw [hl]; simp)
      subst this
      simp only [VRel]
      exact .inr ⟨cb, o, cap, C, e, fr, rfl, hlc, by simp, hO, hC, by simp [VPre]⟩
    · obtain ⟨ho, hbd⟩ := hcap.resolve_left h0
      simp only [VRel]
      exact .inr ⟨cb, o, cap, C, e, fr, rfl, hlc, hl, hO, hC, by rw [ho]; exact VPre.flat hf hpre⟩
end
section
variable {h : Heap}
theorem FrzTo.fn {f : Nat} {xs ys us vs : List AV} (hL : FrzL h xs ys) (hK : FrzL h us vs) : FrzTo h (.fn f xs us) (.fn f ys vs) := fun _ c w v H hv => by
  simp only [VRel] at hv ⊢
  obtain ⟨x', y', rfl, h1, h2⟩ := hv
  exact ⟨x', y', rfl, hL.rels H h1, hK.rels H h2⟩
theorem FrzTo.ptr {b g off : Nat} {cs ys : List AV} (hb : h.get b = some (.cells g cs)) (hL : FrzL h (cs.drop off) ys) : FrzTo h (.ptr b g off) (.fptr ys) := fun _ c w v H hv => by
  simp only [VRel] at hv
  obtain ⟨cb, base, hp, rfl⟩ := hv
  obtain ⟨C', e', fr', hO, hC', hfr, hbs, hpre⟩ := H.here hb hp
  have hp2 := VPre_drop off hpre
  rw [List.drop_drop] at hp2
  simp only [VRel]
  exact ⟨cb, base + off, C', e', fr', rfl, .inr hO, hC', hL.pre H hp2⟩
theorem FrzTo.map {b g : Nat} {es : List (AV × AV)} {ks vs : List AV} (hb : h.get b = some (.map g es)) (hk : FrzL h (es.map (·.1)) ks) (hv : FrzL h (es.map (·.2)) vs) : FrzTo h (.map b g) (.fmap ks vs) := fun _ c w v H hx => by
  simp only [VRel] at hx
  obtain ⟨cb, hp, rfl⟩ := hx
  obtain ⟨ms, clock, hO, hC, hR, hcl⟩ := H.atMap hb hp
  obtain ⟨g1, g2, g3⟩ := MRel_to hR
  have hl := MRel_length hR
  simp only [VRel]
  exact ⟨cb, ms, clock, rfl, .inr hO, hC, by simp at hl; omega, g1, hk.rels H g2, hv.rels H g3⟩
end
end Go.AM
set_option linter.unusedSimpArgs false
set_option linter.unusedVariables false
namespace Go.AM
variable {P : Program}
section
variable {N : NM} {n : Nat} {T L : Tmps} {h : Heap} {Q : QC} {fs : List Fr} {b2 : Nat} {G : Prop}
theorem Rec.sub {m : Nat} {T1 T Lx : Tmps} {L : HL} {h : Heap} (hr : Rec m T1 L Lx h) (hS : Sub Lx T) : Rec m T1 L T h := by
  obtain ⟨ps, h1, h2, h3, h4⟩ := hr
  refine ⟨ps, h1, h2, h3, fun i => ?_⟩
  rcases hS i with e | e
  · intro _ c w v H M _
    exact h4 i _ c w v H M (by rw [e]; simp [VRel])
  · rw [← e]; exact h4 i
end
end Go.AM
namespace Go.AM.IA
open Go.Proofs
set_option maxRecDepth 100000
set_option linter.unusedSimpArgs false
set_option linter.unusedVariables false
noncomputable section
def isTrue : AV → Bool | .bool true => true | _ => false
theorem isTrue_of : ∀ u, isTrue u = true → u = .bool true := by
  intro u h
  unfold isTrue at h
  split at h
  · rfl
  · cases h
def kTrue (t : Nat) : KcA Bool := fun e T _ _ => match e with
  | .ret => isTrue (lk T t)
  | _ => false
theorem kTrue_of {t : Nat} {e : SX} {T : Tmps} {h : Heap} {n : Nat} (hk : kTrue t e T h n = true) : e = .ret ∧ lk T t = .bool true := by
  unfold kTrue at hk
  cases e <;> simp only [Bool.false_eq_true] at hk
  exact ⟨rfl, isTrue_of _ hk⟩
theorem known : PSpec Tryd.prog 4 [] (.bool true) :=
  pspec_of_runR (t := ft) ft_ok noOrc_ok (d := 100000) isTrue isTrue_of (by kernel_rfl)
def netsB (k : Int) : Bool := exR ansB noOrc ft.get 100000 f3.body [(0, .int .i64 k)] .e 64 (kTrue 2)
def netsX (k : Int) : Prop := exR ansP (orc1 4 (.bool true)) ft.get 100000 f3.body [(0, .int .i64 k)] .e 64 (fun e T h n => kTrue 2 e T h n = true)
end
end Go.AM.IA
namespace Go.AM.IA
open Go.Proofs
set_option maxRecDepth 100000
theorem nets_2 : netsB (.ofNat 2) = true := by kernel_rfl
end Go.AM.IA
namespace Go.AM.IA
open Go.Proofs
set_option maxRecDepth 100000
theorem nets_3 : netsB (.ofNat 3) = true := by kernel_rfl
end Go.AM.IA
namespace Go.AM.IA
open Go.Proofs
set_option maxRecDepth 100000
set_option linter.unusedVariables false
noncomputable section
abbrev tt : Prop := ([] : List AV) = [] ∧ true = true
theorem nets_neg (m : Nat) : tt = netsX (.negSucc m) := by kernel_rfl
theorem nets_0 : tt = netsX (.ofNat 0) := by kernel_rfl
theorem nets_1 : tt = netsX (.ofNat 1) := by kernel_rfl
theorem nets_big (m : Nat) : tt = netsX (.ofNat (m + 4)) := by kernel_rfl
theorem nets (k : Int) (wk : (Lit.int .i64 k).wf = true) :
    W Tryd.prog f3.slim.n f3.slim.body (fun e B => (e = .normal ∨ e = .ret) ∧ resV B.T B.h f3.slim.res = some [.bool true]) ⟨argT 0 [.int .i64 k], .e⟩ := by
  have fin : ∀ {e : SX} {T : Tmps} {h : Heap} {n : Nat}, kTrue 2 e T h n = true → (e = .normal ∨ e = .ret) ∧ resV T h [.tmp 2] = some [.bool true] := by
    intro e T h n hk
    obtain ⟨rfl, hk2⟩ := kTrue_of hk
    exact ⟨.inr rfl, by rw [show resV T h [.tmp 2] = some [lk T 2] from rfl, hk2]⟩
  have runB : netsB k = true → W Tryd.prog f3.slim.n f3.slim.body (fun e B => (e = .normal ∨ e = .ret) ∧ resV B.T B.h f3.slim.res = some [.bool true]) ⟨argT 0 [.int .i64 k], .e⟩ :=
    fun h => W_of_exB ft_ok noOrc_ok _ h fun e T h n hk => fin hk
  have runX : netsX k → W Tryd.prog f3.slim.n f3.slim.body (fun e B => (e = .normal ∨ e = .ret) ∧ resV B.T B.h f3.slim.res = some [.bool true]) ⟨argT 0 [.int .i64 k], .e⟩ :=
    fun h => (W_of_exP ft_ok (orc1_ok known) (X := netsX k) (d := 100000) (m := 64) h rfl).mono (Q := fun e B => kTrue 2 e B.T B.h 0 = true) fun e B hk => fin hk
  have ok : tt := ⟨rfl, rfl⟩
  have small : ∀ n : Nat, (∃ m, n = m + 4) ∨ n = 0 ∨ n = 1 ∨ n = 2 ∨ n = 3 := by
    intro n
    by_cases h : 4 ≤ n
    · exact .inl ⟨n - 4, by omega⟩
    · right; omega
  refine (?_ : netsB k = true ∨ netsX k).elim runB runX
  clear runB runX fin
  cases k with
  | negSucc m => exact .inr ((nets_neg m).mp ok)
  | ofNat k =>
    rcases small k with ⟨m, rfl⟩ | rfl | rfl | rfl | rfl
    · exact .inr ((nets_big m).mp ok)
    · exact .inr (nets_0.mp ok)
    · exact .inr (nets_1.mp ok)
    · exact .inl nets_2
    · exact .inl nets_3
end
end Go.AM.IA
