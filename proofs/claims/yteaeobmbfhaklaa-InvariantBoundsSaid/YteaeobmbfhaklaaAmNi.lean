/- A described net is fine. Conditions: none of ours. -/
import Derived.Test.YteaeobmbfhaklaaAmNh
namespace Go.AM.SN
open Go.Proofs
set_option maxRecDepth 100000
set_option linter.unusedSimpArgs false
set_option linter.unusedVariables false

theorem arcR_mem {row : List Nat} {f : Nat → Nat} {n : Nat} {a : Int × Int} (h : a ∈ arcR row f n) : ∃ p, p < n ∧ a.1 = (p : Int) ∧ a.2 = ((f (row.getD p 0 % 9) : Nat) : Int) ∧ 0 < f (row.getD p 0 % 9) := by
  unfold arcR at h
  obtain ⟨p, hp, ha⟩ := List.mem_flatMap.1 h
  rw [List.mem_range] at hp
  split at ha
  · rename_i hc
    simp only [List.mem_singleton] at ha
    subst ha
    exact ⟨p, hp, rfl, rfl, hc⟩
  · cases ha
theorem arcR_up (row : List Nat) (f : Nat → Nat) (n : Nat) : (arcR row f n).Pairwise fun a b => a.1 < b.1 := by
  induction n with
  | zero => simp [arcR]
  | succ n ih =>
    rw [arcR_succ, List.pairwise_append]
    refine ⟨ih, ?_, ?_⟩
    · split <;> simp
    · intro a ha b hb
      obtain ⟨p, hp, h1, _⟩ := arcR_mem ha
      split at hb
      · simp only [List.mem_singleton] at hb; subst hb; rw [h1]; exact Int.ofNat_lt.2 hp
      · cases hb
theorem arcR_ok (row : List Nat) (f : Nat → Nat) (n : Nat) (hf : ∀ k, k < 9 → f k ≤ 8) (hn : n ≤ 5) : ArcsOk (arcR row f n) n where
  len := by have := arcR_len row f n; omega
  each := fun i a ha => by
    obtain ⟨p, hp, h1, h2, h3⟩ := arcR_mem (List.mem_of_getElem? ha)
    have := hf (row.getD p 0 % 9) (Nat.mod_lt _ (by decide))
    omega
  up := fun i a b ha hb => by
    obtain ⟨h1, e1⟩ := List.getElem?_eq_some_iff.1 ha
    obtain ⟨h2, e2⟩ := List.getElem?_eq_some_iff.1 hb
    have := List.pairwise_iff_getElem.1 (arcR_up row f n) i (i + 1) h1 h2 (by omega)
    rw [e1, e2] at this; exact this
theorem mkN_places (s : Sm) : (mkN s).ini.length = plN s := iniR_len s _
theorem mkN_trans (s : Sm) : (mkN s).tr.length = min s.mv.length 5 := trR_len s _
theorem mkN_ok (s : Sm) : NetOk (mkN s) where
  places := by rw [mkN_places]; unfold plN; omega
  tokens := fun y hy => by
    simp only [mkN, iniR, List.mem_map] at hy
    obtain ⟨p, _, rfl⟩ := hy
    unfold okT; omega
  trans := by rw [mkN_trans]; omega
  ev := fun t ht => by
    simp only [mkN, trR, List.mem_map, List.mem_range] at ht
    obtain ⟨k, hk, rfl⟩ := ht
    dsimp only; omega
  inn := fun t ht => by
    rw [mkN_places]
    simp only [mkN, trR, List.mem_map, List.mem_range] at ht
    obtain ⟨k, hk, rfl⟩ := ht
    exact arcR_ok _ (· / 3) _ (fun k hk => by show _ ≤ 8; omega) (show plN s ≤ 5 by unfold plN; omega)
  out := fun t ht => by
    rw [mkN_places]
    simp only [mkN, trR, List.mem_map, List.mem_range] at ht
    obtain ⟨k, hk, rfl⟩ := ht
    exact arcR_ok _ (· % 3) _ (fun k hk => by show _ ≤ 8; omega) (show plN s ≤ 5 by unfold plN; omega)
end Go.AM.SN
