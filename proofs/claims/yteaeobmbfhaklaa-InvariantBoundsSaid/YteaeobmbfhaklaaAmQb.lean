/- The abstract machine: what a value may be read as behind a return; rows that grow. -/
import Derived.Test.YteaeobmbfhaklaaAmQa
set_option linter.unusedSimpArgs false
set_option linter.unusedVariables false
namespace Go.AM
variable {P : Program}

/-! ### what is returned, read -/
def FrzTo (h : Heap) (x y : AV) : Prop := ∀ (c : Ctx) (w : World) (v : Value), HRel c h w → VRel c w x v → VRel (lent c) w y v
def FrzL (h : Heap) : List AV → List AV → Prop
  | [], [] => True
  | x :: xs, y :: ys => FrzTo h x y ∧ FrzL h xs ys
  | _, _ => False
variable {h : Heap}
theorem FrzTo.same (x : AV) : FrzTo h x x := fun c w v _ hv => VRel.mono (lent_ext c w) _ _ hv
theorem FrzL.same : ∀ (xs : List AV), FrzL h xs xs
  | [] => trivial
  | x :: xs => ⟨.same x, FrzL.same xs⟩
theorem FrzL.length : ∀ {xs ys : List AV}, FrzL h xs ys → ys.length = xs.length
  | [], [], _ => rfl
  | [], _ :: _, hh => hh.elim
  | _ :: _, [], hh => hh.elim
  | x :: xs, y :: ys, hh => by simp [FrzL.length hh.2]
theorem FrzL.append : ∀ {xs ys us vs : List AV}, FrzL h xs ys → FrzL h us vs → FrzL h (xs ++ us) (ys ++ vs)
  | [], [], _, _, _, h2 => h2
  | [], _ :: _, _, _, hh, _ => hh.elim
  | _ :: _, [], _, _, hh, _ => hh.elim
  | x :: xs, y :: ys, _, _, hh, h2 => ⟨hh.1, FrzL.append hh.2 h2⟩
theorem FrzL.pre {c : Ctx} {w : World} (H : HRel c h w) : ∀ {xs ys : List AV} {vs : List Value}, FrzL h xs ys → VPre c w xs vs → VPre (lent c) w ys vs
  | [], [], _, _, _ => by simp [VPre]
  | [], _ :: _, _, hh, _ => hh.elim
  | _ :: _, [], _, hh, _ => hh.elim
  | x :: xs, y :: ys, vs, hh, hv => by
    simp only [VPre] at hv ⊢
    obtain ⟨v, vs', rfl, g1, g2⟩ := hv
    exact ⟨v, vs', rfl, hh.1 c w v H g1, FrzL.pre H hh.2 g2⟩
theorem FrzL.rels {c : Ctx} {w : World} (H : HRel c h w) : ∀ {xs ys : List AV} {vs : List Value}, FrzL h xs ys → VRels c w xs vs → VRels (lent c) w ys vs
  | [], [], _, _, hv => by simpa [VRels] using hv
  | [], _ :: _, _, hh, _ => hh.elim
  | _ :: _, [], _, hh, _ => hh.elim
  | x :: xs, y :: ys, vs, hh, hv => by
    simp only [VRels] at hv ⊢
    obtain ⟨v, vs', rfl, g1, g2⟩ := hv
    exact ⟨v, vs', rfl, hh.1 c w v H g1, FrzL.rels H hh.2 g2⟩
theorem FrzTo.nil {sz : Nat} : FrzTo h .nilsl (.fsl [] 0 sz) := fun c w v _ hv => by
  simp only [VRel] at hv ⊢
  exact .inl ⟨⟨none, hv⟩, by simp⟩
theorem FrzTo.agg {xs ys : List AV} (hL : FrzL h xs ys) : FrzTo h (.agg xs) (.agg ys) := fun c w v H hv => by
  simp only [VRel] at hv ⊢
  obtain ⟨vs, rfl, hv⟩ := hv
  exact ⟨vs, rfl, hL.rels H hv⟩
theorem FrzTo.tup {xs ys : List AV} (hL : FrzL h xs ys) : FrzTo h (.tup xs) (.tup ys) := fun c w v H hv => by
  simp only [VRel] at hv ⊢
  obtain ⟨vs, rfl, hv⟩ := hv
  exact ⟨vs, rfl, hL.rels H hv⟩
theorem FrzTo.sl {b g off len sz : Nat} {cs ys : List AV} (hb : h.get b = some (.cells g cs)) (hl : off + len * sz ≤ cs.length) (hL : FrzL h ((cs.drop off).take (len * sz)) ys) :
    FrzTo h (.sl b g off len sz) (.fsl ys len sz) := fun c w v H hv => by
  have hlen := hL.length
  simp only [VRel] at hv
  rcases hv with ⟨hp, rfl, rfl, rfl⟩ | ⟨cb, base, o, cap, C, e, fr, hp, rfl, hlc, hC, hcap⟩
  · have hys : ys = [] := by
      apply List.eq_nil_of_length_eq_zero
      rw [hlen]; simp
    subst hys
    simp only [VRel]; exact .inl (by simp)
  · obtain ⟨C', e', fr', hO, hC', hfr, hbs, hpre⟩ := H.here hb hp
    rw [hC] at hC'; cases hC'
    by_cases h0 : cap = 0
    · have hl0 : len = 0 := by omega
      subst hl0
      have hys : ys = [] := by
        apply List.eq_nil_of_length_eq_zero
        rw [hlen]; simp
      subst hys
      simp only [VRel]
      exact .inr ⟨cb, o, cap, C, e, fr, rfl, hlc, by simp, .inr hO, hC, by simp [VPre]⟩
    · obtain ⟨rfl, hbd⟩ := hcap.resolve_left h0
      have hp2 := VPre_take (len * sz) (VPre_drop off hpre)
      rw [List.drop_drop] at hp2
      simp only [VRel]
      exact .inr ⟨cb, base + off, cap, C, e, fr, rfl, hlc, by rw [hlen]; simp; omega, .inr hO, hC, hL.pre H hp2⟩

theorem PSpec.of_frz {f : Nat} {sf : SFn} {args : List AV} {v : AV} (n : Nat) (hok : okFn P f sf = true) (hl : Nat.ble args.length sf.n = true) (ha : noRefs args = true) (hv : noRef v = true)
    (hw : wS P ⟨sf.n, 0⟩ sf.body [] n (argT 0 args) .e fun e T h _ => (e = .normal ∨ e = .ret) ∧ ∃ vs, resV T h sf.res = some vs ∧ FrzTo h (resOf vs) v) : PSpec P f args v :=
  PSpec.of_W2 hok (Nat.le_of_ble_eq_true hl) ha hv ((wpC.toW hw).mono fun e B ⟨_, h1, vs, h2, h3⟩ => ⟨h1, vs, h2, Rn.of_frz hv h3⟩)

/-! ### rows of the call's own that grow -/
def Row (h : Heap) (ok : Nat → Prop) (v : AV) (cs : List AV) (len sz : Nat) : Prop :=
  (v = .nilsl ∧ cs = [] ∧ len = 0) ∨ ∃ b g, v = .sl b g 0 len sz ∧ h.get b = some (.cells g cs) ∧ cs.length = len * sz ∧ ok b
theorem Row.nil {ok : Nat → Prop} {sz : Nat} : Row h ok .nilsl [] 0 sz := .inl ⟨rfl, rfl, rfl⟩
theorem Row.keep {h h' : Heap} {ok ok' : Nat → Prop} {v : AV} {cs : List AV} {len sz : Nat} (hr : Row h ok v cs len sz) (hk : ∀ b, ok b → h.get b ≠ none → h'.get b = h.get b ∧ ok' b) : Row h' ok' v cs len sz := by
  rcases hr with hr | ⟨b, g, h1, h2, h3, h4⟩
  · exact .inl hr
  · obtain ⟨k1, k2⟩ := hk b h4 (by rw [h2]; simp)
    exact .inr ⟨b, g, h1, by rw [k1]; exact h2, h3, k2⟩
theorem Row.frz {ok : Nat → Prop} {v : AV} {cs ys : List AV} {len sz : Nat} (hr : Row h ok v cs len sz) (hL : FrzL h cs ys) : FrzTo h v (.fsl ys len sz) := by
  rcases hr with ⟨rfl, rfl, rfl⟩ | ⟨b, g, rfl, h2, h3, h4⟩
  · cases ys with
    | nil => exact FrzTo.nil
    | cons y ys => exact hL.elim
  · refine FrzTo.sl h2 (by omega) ?_
    rw [List.drop_zero, ← h3, List.take_length]; exact hL
theorem Row.len {ok : Nat → Prop} {v : AV} {cs : List AV} {len sz : Nat} (hr : Row h ok v cs len sz) : cs.length = len * sz := by
  rcases hr with ⟨_, rfl, rfl⟩ | ⟨_, _, _, _, h3, _⟩
  · simp
  · exact h3

section
variable {N : NM} {n : Nat} {d : Option Nat} {af dead : List Nat} {r : List SOper} {T : Tmps} {Q : QC} {fs : List Fr}
/-- One more element. -/
theorem app_row {ok : Nat → Prop} {v : AV} {cs ys : List AV} {len sz bytes k : Nat} (hr : Row h ok v cs len sz) (hk : h.get k = some (.cells 0 ys)) (hy : ys.length = sz) (ho : ys.all AV.one = true) (hf : Fresh n h)
    (hn : n < 1099511627775) (hb : (len + 1) * bytes ≤ 1099511627776) (hl : len + 1 ≤ 1099511627776)
    (K : ∀ v' h', Row h' (fun b => ok b ∨ b = n) v' (cs ++ ys) (len + 1) sz → Fresh (n + 1) h' → (∀ b, ¬ ok b → b ≠ n → h'.get b = h.get b) → wR P N r dead fs (n + 1) (putD T d v') h' Q) :
    wM P N (aAppend .dyn n sz bytes v (.sl k 0 0 1 sz)) d r dead fs n T h Q := by
  have hs : srcB (h.get k) 0 0 1 sz = some ys := by
    rw [hk, srcB_some, if_pos ⟨rfl, by omega⟩, List.drop_zero, Nat.one_mul, ← hy, List.take_length]
  rcases hr with ⟨rfl, rfl, rfl⟩ | ⟨b, g, rfl, h2, h3, h4⟩
  · rw [show (AV.sl k 0 0 1 sz) = .sl k 0 0 (0 + 1) sz from rfl, aAppend_nil]
    refine ⟨ys, hs, ⟨hb, hl⟩, ho, ?_⟩
    rw [wN_free (hf n (Nat.le_refl _)) hn]
    refine K _ _ (.inr ⟨n, 0, rfl, get_same hn, by simp [hy], .inr rfl⟩) (fun b hb => ?_) fun b _ hb => get_ne hn hb
    rw [get_ne hn (by omega)]; exact hf b (by omega)
  · have hbn : b < n := by
      rcases Nat.lt_or_ge b n with h | h
      · exact h
      · rw [hf b h] at h2; cases h2
    rw [aAppend_sl]
    refine ⟨ys, cs, hs, ?_, ⟨hb, hl⟩, ho, ?_⟩
    · rw [h2, srcB_some, if_pos ⟨rfl, by omega⟩, List.drop_zero, ← h3, List.take_length]
    · rw [wB_some (show b < lim by unfold lim; omega)]
      refine K _ _ (.inr ⟨b, g + 1, rfl, get_same (by omega), by simp [hy, h3, Nat.succ_mul], .inl h4⟩) (fun b' hb' => ?_) fun b' hb' _ => get_ne (by omega) (fun e => hb' (e ▸ h4))
      rw [get_ne (by omega) (by omega)]; exact hf b' (by omega)
/-- One more element that lies in the newest block k. -/
theorem app_set {ok : Nat → Prop} {v : AV} {cs ys : List AV} {len sz bytes k : Nat} (hr : Row h ok v cs len sz) (hf : Fresh k h) (hk : k < n) (hn : n < 1099511627775)
    (hy : ys.length = sz) (ho : ys.all AV.one = true) (hb : (len + 1) * bytes ≤ 1099511627776) (hl : len + 1 ≤ 1099511627776)
    (K : ∀ v' h', Row h' (fun b => ok b ∨ b = n) v' (cs ++ ys) (len + 1) sz → Fresh (n + 1) h' → (∀ b, ¬ ok b → b < k → h'.get b = h.get b) → wR P N r dead fs (n + 1) (putD T d v') h' Q) :
    wM P N (aAppend .dyn n sz bytes v (.sl k 0 0 1 sz)) d r dead fs n T (h.set k (.cells 0 ys)) Q := by
  have hkk : k < 1099511627775 := by omega
  have hr' : Row (h.set k (.cells 0 ys)) ok v cs len sz := hr.keep fun b hb hne => ⟨get_ne hkk (fun e => hne (hf b (by omega))), hb⟩
  refine app_row hr' (get_same hkk) hy ho ((hf.le (by omega)).set hkk hk) hn hb hl fun v' h' h1 h2 h3 => K v' h' h1 h2 fun b hb hbk => ?_
  rw [h3 b hb (by omega), get_ne hkk (by omega)]
end
end Go.AM
