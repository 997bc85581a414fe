/- Slices of integers that come in as arguments. -/
import Derived.Test.YteaeobmbfhaklaaAmQ
import Derived.OpenShut
namespace Go.AM
open Go.ChangeShapes Go.WideShapes
set_option linter.unusedVariables false

theorem VPre_ints {c : Ctx} {w : World} {k : IntKind} {C : Array Value} : ∀ (l : List Int) (off : Nat), (∀ i, i < l.length → C[off + i]? = some (.int k (l.getD i 0))) → VPre c w (l.map (.int k)) (C.toList.drop off)
  | [], _, _ => by simp [VPre]
  | x :: l, off, h => by
    have h0 := h 0 (by simp)
    simp at h0
    simp only [List.map_cons, VPre, VRel]
    have hlt : off < C.toList.length := by
      have := (Array.getElem?_eq_some_iff.1 h0).1
      simpa using this
    refine ⟨.int k x, C.toList.drop (off + 1), ?_, rfl, VPre_ints l (off + 1) fun i hi => ?_⟩
    · rw [List.drop_eq_getElem_cons hlt]
      congr 1
      have := (Array.getElem?_eq_some_iff.1 h0).2
      simpa using this
    · have := h (i + 1) (by simp; omega)
      rw [show off + 1 + i = off + (i + 1) by omega, this]
      simp

/-- Whatever block is told of is frozen: a call never writes what came in. -/
def inF (w : World) (k : Nat) : Prop := k < w.heap.size

theorem ints_rel {k : IntKind} {W : World} {a : Addr} {len cap : Nat} {zs : List Int} (hl : len ≤ cap) (hz : zs.length = cap) (hcell : ∀ i, i < zs.length → W.cell? (a.add i) = some (.int k (zs.getD i 0))) :
    VRel (only (inF W)) W (.fsl ((zs.take len).map (.int k)) (zs.take len).length 1) (.slice (some a) len cap) := by
  have htl : (zs.take len).length = len := by simp; omega
  simp only [VRel]
  by_cases h0 : cap = 0
  · subst h0
    have : len = 0 := by omega
    subst this
    exact .inl ⟨⟨_, rfl⟩, by simp, by simp⟩
  · obtain ⟨b, off, spot⟩ := a
    have hspot : spot = none := by simpa [Addr.add] using World.cell?_spot (hcell 0 (by omega))
    subst hspot
    have hc : ∀ i, i < zs.length → W.cell? ⟨b, off + i, none⟩ = some (.int k (zs.getD i 0)) := fun i hi => by rw [← Go.WideShapes.add_plain]; exact hcell i hi
    have h1 := hc 0 (by omega)
    have hb : ∃ C e fr, W.heap[b]? = some (.cells C e fr) := by
      unfold World.cell? at h1
      split at h1
      · rename_i C e fr hh; exact ⟨C, e, fr, hh⟩
      · cases h1
    obtain ⟨C, e, fr, hb⟩ := hb
    refine .inr ⟨b, off, cap, C, e, fr, by rw [htl], by omega, by simp, lt_of_heap hb, hb, VPre_ints _ _ fun i hi => ?_⟩
    have hi' : i < zs.length := by simp at hi; omega
    have := hc i hi'
    simp only [World.cell?, hb] at this
    rw [htl] at hi
    simp only [Option.isSome_none, Bool.false_eq_true, if_false] at this
    rw [this]
    simp [List.getD_eq_getElem?_getD, List.getElem?_take_of_lt hi]

/-- A slice of integers that came in: what it reads as. -/
theorem ints_in {H : Type} {P : Program} {W : World} {base : Nat} {spare : Nat → Bool} {t e : TypeId} {k : IntKind} {fuel : Nat} {a : Option Addr} {len cap : Nat} {x : DataW H × List MemPlace} {enc : TypeId × Value → H}
    (ht : P.underlying t = some (.slice e)) (he : P.underlying e = some (.int k)) (hc : P.cellsOf e = 1)
    (hs : ∀ b, spare b = true)
    (h : DataW.trod enc P W base spare true fuel t (Value.slice a len cap).cells.toList = some x) :
    ∃ l : List Int, l.length ≤ 9223372036854775807 ∧ (∀ n ∈ l, (Lit.int k n).wf = true) ∧ VRel (only (inF W)) W (.fsl (l.map (.int k)) l.length 1) (.slice a len cap) := by
  rcases open_ints ht he hc h with ⟨hcs, _⟩ | ⟨x, l, c, zs, hcs, _, hl, hm, hz, _, hcell, hwz⟩
  · simp [Value.cells] at hcs
    obtain ⟨rfl, rfl, rfl⟩ := hcs
    exact ⟨[], by simp, by simp, by simp [VRel]⟩
  · simp [Value.cells] at hcs
    obtain ⟨rfl, rfl, rfl⟩ := hcs
    rw [hs] at hz
    simp only [if_true] at hz
    refine ⟨zs.take len, ?_, fun n hn => hwz n (List.mem_of_mem_take hn), ints_rel hl hz hcell⟩
    simp [maxLen] at hm ⊢
    omega
end Go.AM
