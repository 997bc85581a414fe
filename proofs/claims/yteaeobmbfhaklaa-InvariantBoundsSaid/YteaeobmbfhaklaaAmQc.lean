/- The abstract machine: lists of rows that grow. -/
import Derived.Test.YteaeobmbfhaklaaAmQb
set_option linter.unusedSimpArgs false
set_option linter.unusedVariables false
namespace Go.AM
variable {P : Program}
def blkOf : AV → Option Nat
  | .sl b _ _ _ _ => some b
  | _ => none

/-- v is a list of rows of the call's own, that read as L; all its blocks lie above lo and below n. -/
structure Mat (h : Heap) (n lo : Nat) (v : AV) (rows : List AV) (L : List (List Int)) : Prop where
  len : rows.length = L.length
  out : Row h (fun b => blkOf v = some b ∧ lo < b ∧ b < n) v rows rows.length 1
  row : ∀ (j : Nat) (r : AV) (l : List Int), rows[j]? = some r → L[j]? = some l → Row h (fun b => lo < b ∧ b < n ∧ blkOf v ≠ some b) r (l.map (.int .i64)) l.length 1

theorem Mat.nil {h : Heap} {n lo : Nat} : Mat h n lo .nilsl [] [] := ⟨rfl, .nil, fun j r l hr => by simp at hr⟩
theorem Mat.keep {h h' : Heap} {n n' lo : Nat} {v : AV} {rows : List AV} {L : List (List Int)} (m : Mat h n lo v rows L) (hn : n ≤ n') (hk : ∀ b, lo < b → b < n → h'.get b = h.get b) : Mat h' n' lo v rows L :=
  ⟨m.len, m.out.keep fun b hb _ => ⟨hk b hb.2.1 hb.2.2, hb.1, hb.2.1, by omega⟩, fun j r l h1 h2 => (m.row j r l h1 h2).keep fun b hb _ => ⟨hk b hb.1 hb.2.1, hb.1, by omega, hb.2.2⟩⟩
theorem Mat.frzL {h : Heap} {n lo : Nat} {v : AV} {rows : List AV} {L : List (List Int)} (m : Mat h n lo v rows L) : FrzL h rows (L.map fun l => .fsl (l.map (.int .i64)) l.length 1) := by
  have key : ∀ (rows : List AV) (L : List (List Int)), rows.length = L.length → (∀ (j : Nat) (r : AV) (l : List Int), rows[j]? = some r → L[j]? = some l → FrzTo h r (.fsl (l.map (.int .i64)) l.length 1)) →
      FrzL h rows (L.map fun l => .fsl (l.map (.int .i64)) l.length 1) := by
    intro rows
    induction rows with
    | nil => intro L hl _; cases L with | nil => trivial | cons a L => simp at hl
    | cons r rows ih =>
      intro L hl hh
      cases L with
      | nil => simp at hl
      | cons a L => exact ⟨hh 0 r a rfl rfl, ih L (by simpa using hl) fun j r l h1 h2 => hh (j + 1) r l (by simpa using h1) (by simpa using h2)⟩
  exact key rows L m.len fun j r l h1 h2 => (m.row j r l h1 h2).frz (FrzL.same _)
theorem Mat.frz {h : Heap} {n lo : Nat} {v : AV} {rows : List AV} {L : List (List Int)} (m : Mat h n lo v rows L) : FrzTo h v (.fsl (L.map fun l => .fsl (l.map (.int .i64)) l.length 1) L.length 1) := by
  have := m.out.frz m.frzL
  rwa [m.len] at this
theorem Row.one {h : Heap} {ok : Nat → Prop} {v : AV} {cs : List AV} {len sz : Nat} (hr : Row h ok v cs len sz) : v.one = true := by
  rcases hr with ⟨rfl, _⟩ | ⟨_, _, rfl, _⟩ <;> rfl
theorem Row.boxable {h : Heap} {ok : Nat → Prop} {v : AV} {cs : List AV} {len sz : Nat} (hr : Row h ok v cs len sz) : v.boxable = true := by
  rcases hr with ⟨rfl, _⟩ | ⟨_, _, rfl, _⟩ <;> rfl
theorem Row.cells1 {h : Heap} {ok : Nat → Prop} {v : AV} {cs : List AV} {len sz : Nat} (hr : Row h ok v cs len sz) : v.cells = [v] := by
  rcases hr with ⟨rfl, _⟩ | ⟨_, _, rfl, _⟩ <;> rfl

section
variable {N : NM} {n : Nat} {d : Option Nat} {dead : List Nat} {r : List SOper} {T : Tmps} {Q : QC} {fs : List Fr}
theorem mat_app {h h2 : Heap} {n0 lo k bytes : Nat} {v u : AV} {rows : List AV} {L : List (List Int)} {l : List Int} (m : Mat h n0 lo v rows L) (hag : ∀ b, b < n0 → h2.get b = h.get b)
    (hu : Row h2 (fun b => n0 ≤ b ∧ b < k) u (l.map (.int .i64)) l.length 1) (hf : Fresh k h2) (hlo : lo < n0) (h0 : n0 ≤ k) (hk : k < n) (hn : n < 1099511627775) (hb : (L.length + 1) * bytes ≤ 1099511627776) (hl : L.length + 1 ≤ 1099511627776)
    (K : ∀ v' h' rows', Mat h' (n + 1) lo v' rows' (L ++ [l]) → Fresh (n + 1) h' → (∀ b, b ≤ lo → h'.get b = h.get b) → wR P N r dead fs (n + 1) (putD T d v') h' Q) :
    wM P N (aAppend .dyn n 1 bytes v (.sl k 0 0 1 1)) d r dead fs n T (h2.set k (.cells 0 [u])) Q := by
  have hml := m.len
  have ho : Row h2 (fun b => blkOf v = some b ∧ lo < b ∧ b < n0) v rows rows.length 1 := m.out.keep fun b hb _ => ⟨hag b hb.2.2, hb⟩
  refine app_set ho hf hk hn rfl (by simp [hu.one]) (by rw [hml]; exact hb) (by rw [hml]; exact hl) ?_
  intro v' h' hr hf' hsame
  have hvv : ∀ b, blkOf v' = some b → (blkOf v = some b ∧ lo < b ∧ b < n0) ∨ b = n := by
    intro b hb'
    rcases hr with ⟨rfl, _⟩ | ⟨b', g, rfl, _, _, hok⟩
    · cases hb'
    · cases hb'; exact hok
  refine K v' h' (rows ++ [u]) ⟨by simp [hml], ?_, ?_⟩ hf' fun b hb => ?_
  · rw [List.length_append]
    rcases hr with ⟨_, h1, _⟩ | ⟨b', g, rfl, h1, h3, hok⟩
    · simp at h1
    · refine .inr ⟨b', g, rfl, h1, h3, rfl, ?_⟩
      rcases hok with hok | rfl
      · exact ⟨hok.2.1, by omega⟩
      · exact ⟨by omega, by omega⟩
  · intro j rr l' h1 h2'
    by_cases hj : j < rows.length
    · rw [List.getElem?_append_left hj] at h1
      rw [List.getElem?_append_left (by omega)] at h2'
      refine (m.row j rr l' h1 h2').keep fun b hb _ => ?_
      have e1 : h'.get b = h2.get b := hsame b (fun hc => hb.2.2 hc.1) (by omega)
      refine ⟨by rw [e1, hag b hb.2.1], hb.1, by omega, fun hc => ?_⟩
      rcases hvv b hc with hc | hc
      · exact hb.2.2 hc.1
      · omega
    · have hj' : j = rows.length := by
        have := (List.getElem?_eq_some_iff.1 h1).1
        simp at this; omega
      subst hj'
      have e1 : rr = u := by simpa using h1.symm
      have e2 : l' = l := by rw [hml] at h2'; simpa using h2'.symm
      subst e1; subst e2
      refine hu.keep fun b hb _ => ?_
      refine ⟨hsame b (fun hc => by omega) (by omega), by omega, by omega, fun hc => ?_⟩
      rcases hvv b hc with hc | hc <;> omega
  · rw [hsame b (fun hc => by omega) (by omega), hag b (by omega)]
end
end Go.AM
