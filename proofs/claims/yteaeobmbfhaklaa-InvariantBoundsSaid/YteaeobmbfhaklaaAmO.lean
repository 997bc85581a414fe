/- The abstract machine, part O: the frame of a statement; walking by hand. -/
import Derived.Test.YteaeobmbfhaklaaAmN
set_option linter.unusedSimpArgs false
set_option linter.unusedVariables false
namespace Go.AM
open Go.RowKit
variable {P : Program}

theorem below_of_evo {F : Nat → Prop} {c' : Ctx} {w w' : World} (E : Evo (only F) w c' w') : Below w.heap.size w w' :=
  ⟨E.os, E.tape, E.output, E.size, fun k hk => E.keep k hk (fun h => h)⟩

/-- A contract that begins with nothing of its own, as the frame of a statement wants it. -/
theorem HSpec.calls {f : Nat} {args : List AV} {h' : Heap} {v : AV} (S : HSpec P f args .e v h') {F : Nat → Prop} {w : World} {cargs : Array Value} (hF : ∀ k, F k → k < w.heap.size)
    (ha : VRels (only F) w args cargs.toList) : Calls P f cargs w fun e w' => (∃ cv c', e = .returned cv ∧ VRel c' w' v cv) ∧ Below w.heap.size w w' :=
  (S.2 (only F) w cargs (HRel.only hF) ha).mono fun e w' ⟨cv, c', he, E, H, V⟩ => ⟨⟨cv, c', he, V⟩, below_of_evo E⟩

theorem HSpec.law {f : Nat} {args : List AV} {h' : Heap} (S : HSpec P f args .e (.bool true) h') {F : Nat → Prop} {w : World} {cargs : Array Value} (hF : ∀ k, F k → k < w.heap.size)
    (ha : VRels (only F) w args cargs.toList) : Calls P f cargs w fun e w' => e = .returned (.bool true) ∧ Below w.heap.size w w' :=
  (S.calls hF ha).mono fun e w' ⟨⟨cv, c', he, V⟩, B⟩ => ⟨by simp only [VRel] at V; rw [he, V], B⟩

/-- Running gives contracts. -/
theorem hspec_of_run {fns : Nat → Option SFn} (hf : ∀ f sf, fns f = some sf → okFn P f sf = true) {d f : Nat} {args : List AV} {h : Heap} {n : Nat} {v : AV} (k : Kv) (hk : ∀ u h' n', k u h' n' = true → u = v)
    (hx : callX fns (ex fns d) .heap f args h n k = true) : ∃ h', HSpec P f args h v h' := by
  obtain ⟨u, h', n', h1, h2, _⟩ := callX_sound hf (ex_sound hf d) _ _ _ _ _ _ hx
  have := hk _ _ _ h1
  subst this
  exact ⟨h', h2 rfl⟩

theorem pspec_of_run {fns : Nat → Option SFn} (hf : ∀ f sf, fns f = some sf → okFn P f sf = true) {d f : Nat} {args : List AV} {v : AV} (k : AV → Bool) (hk : ∀ u, k u = true → u = v)
    (hx : callX fns (ex fns d) .pure f args .e 64 (fun u _ _ => k u) = true) : PSpec P f args v := by
  obtain ⟨u, h', n', h1, _, h2⟩ := callX_sound hf (ex_sound hf d) _ _ _ _ _ _ hx
  have := hk _ h1
  subst this
  exact h2 (by simp)

/-! ### walking by hand -/
/-- The operations of a region from the i-th on, one behind the other. -/
def WR (P : Program) (base : Nat) : Nat → List SOper → Tmps → Heap → (Tmps → Heap → Prop) → Prop
  | _, [], T, h, K => K T h
  | i, s :: r, T, h, K => ∃ f v h1, StepV P (base + i) s T h v h1 f ∧ WR P base (i + 1) r (putD T s.dst v) h1 K

theorem WR.toF {base : Nat} : ∀ {r : List SOper} {i : Nat} {T : Tmps} {h : Heap} {K : Tmps → Heap → Prop}, WR P base i r T h K → ∃ fs T' h', RunF P base i r fs ⟨T, h⟩ ⟨T', h'⟩ ∧ K T' h'
  | [], i, T, h, K, hk => ⟨[], T, h, ⟨rfl, rfl⟩, hk⟩
  | s :: r, i, T, h, K, ⟨f, v, h1, hs, hr⟩ => by
    obtain ⟨fs, T', h', h2, hk⟩ := WR.toF hr
    exact ⟨f :: fs, T', h', ⟨f, fs, v, h1, rfl, hs, h2⟩, hk⟩

theorem W.regionR {N : Nat} {Q : SX → St → Prop} {T : Tmps} {h : Heap} {sops : List SOper} {dead : List Nat} (base : Nat)
    (hr : WR P base 0 sops T h fun T h => Q .normal ⟨rm T dead, h⟩) : W P N (.region sops [] dead) Q ⟨T, h⟩ := by
  obtain ⟨fs, T', h', h1, h2⟩ := WR.toF hr
  exact W.regionF base fs h1 (by simp) h2

section
variable {base i : Nat} {d : Option Nat} {s : SOp} {af : List Nat} {r : List SOper} {T : Tmps} {h h1 : Heap} {K : Tmps → Heap → Prop} {v : AV}

theorem WR.val (hm : (aop (base + i) T s).run h = some (.val v, h1)) (k : WR P base (i + 1) r (putD T d v) h1 K) : WR P base i (⟨d, s, af, none⟩ :: r) T h K :=
  ⟨_, v, h1, ⟨_, h1, hm, rfl, rfl, rfl⟩, k⟩

theorem WR.gval {g : Nat} {want : Bool} (hw : wantedA (lk T g) want = some true) (hm : (aop (base + i) T s).run h = some (.val v, h1)) (k : WR P base (i + 1) r (putD T d v) h1 K) :
    WR P base i (⟨d, s, af, some (g, want)⟩ :: r) T h K :=
  ⟨_, v, h1, ⟨true, hw, by rw [if_pos rfl]; exact ⟨_, h1, hm, rfl, rfl, rfl⟩⟩, k⟩

theorem WR.gskip {g : Nat} {want : Bool} (hw : wantedA (lk T g) want = some false) (k : WR P base (i + 1) r (putD T d (.tup [])) h K) : WR P base i (⟨d, s, af, some (g, want)⟩ :: r) T h K :=
  ⟨⟨false, [], []⟩, .tup [], h, ⟨false, hw, by simp⟩, k⟩

theorem WR.pure {f : Nat} {args : List AV} (hm : (aop (base + i) T s).run h = some (.call .pure f args, h1)) (hp : PSpec P f args v) (k : WR P base (i + 1) r (putD T d v) h1 K) :
    WR P base i (⟨d, s, af, none⟩ :: r) T h K :=
  ⟨_, v, h1, ⟨_, h1, hm, hp, rfl, rfl⟩, k⟩

theorem WR.heap {f : Nat} {args : List AV} {h2 : Heap} (hm : (aop (base + i) T s).run h = some (.call .heap f args, h2)) (hp : HSpec P f args h2 v h1) (k : WR P base (i + 1) r (putD T d v) h1 K) :
    WR P base i (⟨d, s, af, none⟩ :: r) T h K :=
  ⟨_, v, h1, ⟨_, h2, hm, hp, rfl⟩, k⟩
end

end Go.AM
