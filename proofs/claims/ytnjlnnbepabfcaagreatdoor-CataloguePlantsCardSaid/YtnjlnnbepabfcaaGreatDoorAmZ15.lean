/- A part of the proof of CataloguePlantsCardSaid: lemmas on the way (AmIr). Conditions: none of ours. -/
import Derived.Test.YtnjlnnbepabfcaaGreatDoorAmZ14
set_option linter.unusedSectionVars false
namespace Go.AM.IP
open Go.Proofs
set_option maxRecDepth 100000
set_option linter.unusedVariables false
noncomputable section
abbrev tt : Prop := ([] : List AV) = [] ∧ true = true
theorem plants_neg (m : Nat) : tt = plantsX (.negSucc m) := by kernel_rfl
theorem plants_big (m : Nat) : tt = plantsX (.ofNat (m + 17)) := by kernel_rfl
theorem plants (k : Int) (wk : (Lit.int .i64 k).wf = true) :
    W Tryz.prog f4.slim.n f4.slim.body (fun e B => (e = .normal ∨ e = .ret) ∧ resV B.T B.h f4.slim.res = some [.bool true]) ⟨argT 0 [.int .i64 k], .e⟩ := by
  have fin : ∀ {e : SX} {T : Tmps} {h : Heap} {n : Nat}, kTrue 2 e T h n = true → (e = .normal ∨ e = .ret) ∧ resV T h [.tmp 2] = some [.bool true] := by
    intro e T h n hk
    obtain ⟨rfl, hk2⟩ := kTrue_of hk
    exact ⟨.inr rfl, by rw [show resV T h [.tmp 2] = some [lk T 2] from rfl, hk2]⟩
  have runB : plantsB k = true → W Tryz.prog f4.slim.n f4.slim.body (fun e B => (e = .normal ∨ e = .ret) ∧ resV B.T B.h f4.slim.res = some [.bool true]) ⟨argT 0 [.int .i64 k], .e⟩ :=
    fun h => W_of_exB ft_ok noOrc_ok _ h fun e T h n hk => fin hk
  have runX : plantsX k → W Tryz.prog f4.slim.n f4.slim.body (fun e B => (e = .normal ∨ e = .ret) ∧ resV B.T B.h f4.slim.res = some [.bool true]) ⟨argT 0 [.int .i64 k], .e⟩ :=
    fun h => (W_of_exP ft_ok (orc1_ok known) (X := plantsX k) (d := 100000) (m := 64) h rfl).mono (Q := fun e B => kTrue 2 e B.T B.h 0 = true) fun e B hk => fin hk
  have ok : tt := ⟨rfl, rfl⟩
  have small : ∀ n : Nat, (∃ m, n = m + 17) ∨ n = 0 ∨ n = 1 ∨ n = 2 ∨ n = 3 ∨ n = 4 ∨ n = 5 ∨ n = 6 ∨ n = 7 ∨ n = 8 ∨ n = 9 ∨ n = 10 ∨ n = 11 ∨ n = 12 ∨ n = 13 ∨ n = 14 ∨ n = 15 ∨ n = 16 := by
    intro n
    by_cases h : 17 ≤ n
    · exact .inl ⟨n - 17, by omega⟩
    · right; omega
  refine (?_ : plantsB k = true ∨ plantsX k).elim runB runX
  clear runB runX fin
  cases k with
  | negSucc m => exact .inr ((plants_neg m).mp ok)
  | ofNat k =>
    rcases small k with ⟨m, rfl⟩ | rfl | rfl | rfl | rfl | rfl | rfl | rfl | rfl | rfl | rfl | rfl | rfl | rfl | rfl | rfl | rfl | rfl
    · exact .inr ((plants_big m).mp ok)
    · exact .inl plants_0
    · exact .inl plants_1
    · exact .inl plants_2
    · exact .inl plants_3
    · exact .inl plants_4
    · exact .inl plants_5
    · exact .inl plants_6
    · exact .inl plants_7
    · exact .inl plants_8
    · exact .inl plants_9
    · exact .inl plants_10
    · exact .inl plants_11
    · exact .inl plants_12
    · exact .inl plants_13
    · exact .inl plants_14
    · exact .inl plants_15
    · exact .inl plants_16
end
end Go.AM.IP
