/- A part of the proof of CatalogueKindsCardSaid: lemmas on the way. Conditions: none of ours. -/
import Derived.Test.YtjojndgfbbmfnaaDoorAmYu
namespace Go.AM.FD
open Go.Proofs
set_option maxRecDepth 100000
set_option linter.unusedSimpArgs false
set_option linter.unusedVariables false
noncomputable section
/-! ### CatalogueKinds -/
def kindsX (k s : Int) : Prop := exR ansP (orc1 7 (.bool true)) ft.get 100000 f4.body [(0, .int .i64 k), (1, .int .i64 s)] .e 64 (fun e T h n => kTrue 4 e T h n = true)

theorem kinds_W {k s : Int} (hx : kindsX k s) : W Tryd.prog f4.slim.n f4.slim.body (fun e B => (e = .normal ∨ e = .ret) ∧ resV B.T B.h f4.slim.res = some [.bool true]) ⟨argT 0 [.int .i64 k, .int .i64 s], .e⟩ := by
  refine W_of_exP ft_ok (orc1_ok known) (X := kindsX k s) (d := 100000) (m := 64) hx ?_ |>.mono (Q := fun e B => kTrue 4 e B.T B.h 0 = true) ?_
  · rfl
  · rintro e B hk
    obtain ⟨rfl, hk2⟩ := kTrue_of hk
    refine ⟨.inr rfl, ?_⟩
    show resV B.T B.h [.tmp 4] = _
    rw [show resV B.T B.h [.tmp 4] = some [lk B.T 4] from rfl, hk2]

abbrev tt : Prop := ([] : List AV) = [] ∧ true = true
theorem kinds_neg (m : Nat) (s : Int) : tt = kindsX (.negSucc m) s := by kernel_rfl
theorem kinds_zero (s : Int) : tt = kindsX (.ofNat 0) s := by kernel_rfl
theorem kinds_big (m : Nat) (s : Int) : tt = kindsX (.ofNat (m + 6)) s := by kernel_rfl
theorem kinds_1_neg (m : Nat) : tt = kindsX (.ofNat 1) (.negSucc m) := by kernel_rfl
theorem kinds_1_big (m : Nat) : tt = kindsX (.ofNat 1) (.ofNat (m + 9)) := by kernel_rfl
theorem kinds_1_0 : tt = kindsX (.ofNat 1) (.ofNat 0) := by kernel_rfl
theorem kinds_1_1 : tt = kindsX (.ofNat 1) (.ofNat 1) := by kernel_rfl
theorem kinds_1_2 : tt = kindsX (.ofNat 1) (.ofNat 2) := by kernel_rfl
theorem kinds_1_3 : tt = kindsX (.ofNat 1) (.ofNat 3) := by kernel_rfl
theorem kinds_1_4 : tt = kindsX (.ofNat 1) (.ofNat 4) := by kernel_rfl
theorem kinds_1_5 : tt = kindsX (.ofNat 1) (.ofNat 5) := by kernel_rfl
theorem kinds_1_6 : tt = kindsX (.ofNat 1) (.ofNat 6) := by kernel_rfl
theorem kinds_1_7 : tt = kindsX (.ofNat 1) (.ofNat 7) := by kernel_rfl
theorem kinds_1_8 : tt = kindsX (.ofNat 1) (.ofNat 8) := by kernel_rfl
theorem kinds_2_neg (m : Nat) : tt = kindsX (.ofNat 2) (.negSucc m) := by kernel_rfl
theorem kinds_2_big (m : Nat) : tt = kindsX (.ofNat 2) (.ofNat (m + 9)) := by kernel_rfl
theorem kinds_2_0 : tt = kindsX (.ofNat 2) (.ofNat 0) := by kernel_rfl
theorem kinds_2_1 : tt = kindsX (.ofNat 2) (.ofNat 1) := by kernel_rfl
theorem kinds_2_2 : tt = kindsX (.ofNat 2) (.ofNat 2) := by kernel_rfl
theorem kinds_2_3 : tt = kindsX (.ofNat 2) (.ofNat 3) := by kernel_rfl
theorem kinds_2_4 : tt = kindsX (.ofNat 2) (.ofNat 4) := by kernel_rfl
theorem kinds_2_5 : tt = kindsX (.ofNat 2) (.ofNat 5) := by kernel_rfl
theorem kinds_2_6 : tt = kindsX (.ofNat 2) (.ofNat 6) := by kernel_rfl
theorem kinds_2_7 : tt = kindsX (.ofNat 2) (.ofNat 7) := by kernel_rfl
theorem kinds_2_8 : tt = kindsX (.ofNat 2) (.ofNat 8) := by kernel_rfl
theorem kinds_3_neg (m : Nat) : tt = kindsX (.ofNat 3) (.negSucc m) := by kernel_rfl
theorem kinds_3_big (m : Nat) : tt = kindsX (.ofNat 3) (.ofNat (m + 9)) := by kernel_rfl
theorem kinds_3_0 : tt = kindsX (.ofNat 3) (.ofNat 0) := by kernel_rfl
theorem kinds_3_1 : tt = kindsX (.ofNat 3) (.ofNat 1) := by kernel_rfl
theorem kinds_3_2 : tt = kindsX (.ofNat 3) (.ofNat 2) := by kernel_rfl
theorem kinds_3_3 : tt = kindsX (.ofNat 3) (.ofNat 3) := by kernel_rfl
theorem kinds_3_4 : tt = kindsX (.ofNat 3) (.ofNat 4) := by kernel_rfl
theorem kinds_3_5 : tt = kindsX (.ofNat 3) (.ofNat 5) := by kernel_rfl
theorem kinds_3_6 : tt = kindsX (.ofNat 3) (.ofNat 6) := by kernel_rfl
theorem kinds_3_7 : tt = kindsX (.ofNat 3) (.ofNat 7) := by kernel_rfl
theorem kinds_3_8 : tt = kindsX (.ofNat 3) (.ofNat 8) := by kernel_rfl
theorem kinds_4_neg (m : Nat) : tt = kindsX (.ofNat 4) (.negSucc m) := by kernel_rfl
theorem kinds_4_big (m : Nat) : tt = kindsX (.ofNat 4) (.ofNat (m + 9)) := by kernel_rfl
theorem kinds_4_0 : tt = kindsX (.ofNat 4) (.ofNat 0) := by kernel_rfl
theorem kinds_4_1 : tt = kindsX (.ofNat 4) (.ofNat 1) := by kernel_rfl
theorem kinds_4_2 : tt = kindsX (.ofNat 4) (.ofNat 2) := by kernel_rfl
theorem kinds_4_3 : tt = kindsX (.ofNat 4) (.ofNat 3) := by kernel_rfl
theorem kinds_4_4 : tt = kindsX (.ofNat 4) (.ofNat 4) := by kernel_rfl
theorem kinds_4_5 : tt = kindsX (.ofNat 4) (.ofNat 5) := by kernel_rfl
theorem kinds_4_6 : tt = kindsX (.ofNat 4) (.ofNat 6) := by kernel_rfl
theorem kinds_4_7 : tt = kindsX (.ofNat 4) (.ofNat 7) := by kernel_rfl
theorem kinds_4_8 : tt = kindsX (.ofNat 4) (.ofNat 8) := by kernel_rfl
theorem kinds_5_neg (m : Nat) : tt = kindsX (.ofNat 5) (.negSucc m) := by kernel_rfl
theorem kinds_5_big (m : Nat) : tt = kindsX (.ofNat 5) (.ofNat (m + 9)) := by kernel_rfl
theorem kinds_5_0 : tt = kindsX (.ofNat 5) (.ofNat 0) := by kernel_rfl
theorem kinds_5_1 : tt = kindsX (.ofNat 5) (.ofNat 1) := by kernel_rfl
theorem kinds_5_2 : tt = kindsX (.ofNat 5) (.ofNat 2) := by kernel_rfl
theorem kinds_5_3 : tt = kindsX (.ofNat 5) (.ofNat 3) := by kernel_rfl
theorem kinds_5_4 : tt = kindsX (.ofNat 5) (.ofNat 4) := by kernel_rfl
theorem kinds_5_5 : tt = kindsX (.ofNat 5) (.ofNat 5) := by kernel_rfl
theorem kinds_5_6 : tt = kindsX (.ofNat 5) (.ofNat 6) := by kernel_rfl
theorem kinds_5_7 : tt = kindsX (.ofNat 5) (.ofNat 7) := by kernel_rfl
theorem kinds_5_8 : tt = kindsX (.ofNat 5) (.ofNat 8) := by kernel_rfl

theorem kinds_all (k s : Int) : kindsX k s := by
  have ok : tt := ⟨rfl, rfl⟩
  have small : ∀ n : Nat, (∃ m, n = m + 9) ∨ n = 0 ∨ n = 1 ∨ n = 2 ∨ n = 3 ∨ n = 4 ∨ n = 5 ∨ n = 6 ∨ n = 7 ∨ n = 8 := by
    intro n
    by_cases h : 9 ≤ n
    · exact .inl ⟨n - 9, by omega⟩
    · right; omega
  have kind : ∀ n : Nat, (∃ m, n = m + 6) ∨ n = 0 ∨ n = 1 ∨ n = 2 ∨ n = 3 ∨ n = 4 ∨ n = 5 := by
    intro n
    by_cases h : 6 ≤ n
    · exact .inl ⟨n - 6, by omega⟩
    · right; omega
  cases k with
  | negSucc m => exact (kinds_neg m s).mp ok
  | ofNat k =>
    rcases kind k with ⟨m, rfl⟩ | rfl | rfl | rfl | rfl | rfl | rfl
    · exact (kinds_big m s).mp ok
    · exact (kinds_zero s).mp ok
    · cases s with
      | negSucc m => exact (kinds_1_neg m).mp ok
      | ofNat s =>
        rcases small s with ⟨m, rfl⟩ | rfl | rfl | rfl | rfl | rfl | rfl | rfl | rfl | rfl
        · exact (kinds_1_big m).mp ok
        · exact kinds_1_0.mp ok
        · exact kinds_1_1.mp ok
        · exact kinds_1_2.mp ok
        · exact kinds_1_3.mp ok
        · exact kinds_1_4.mp ok
        · exact kinds_1_5.mp ok
        · exact kinds_1_6.mp ok
        · exact kinds_1_7.mp ok
        · exact kinds_1_8.mp ok
    · cases s with
      | negSucc m => exact (kinds_2_neg m).mp ok
      | ofNat s =>
        rcases small s with ⟨m, rfl⟩ | rfl | rfl | rfl | rfl | rfl | rfl | rfl | rfl | rfl
        · exact (kinds_2_big m).mp ok
        · exact kinds_2_0.mp ok
        · exact kinds_2_1.mp ok
        · exact kinds_2_2.mp ok
        · exact kinds_2_3.mp ok
        · exact kinds_2_4.mp ok
        · exact kinds_2_5.mp ok
        · exact kinds_2_6.mp ok
        · exact kinds_2_7.mp ok
        · exact kinds_2_8.mp ok
    · cases s with
      | negSucc m => exact (kinds_3_neg m).mp ok
      | ofNat s =>
        rcases small s with ⟨m, rfl⟩ | rfl | rfl | rfl | rfl | rfl | rfl | rfl | rfl | rfl
        · exact (kinds_3_big m).mp ok
        · exact kinds_3_0.mp ok
        · exact kinds_3_1.mp ok
        · exact kinds_3_2.mp ok
        · exact kinds_3_3.mp ok
        · exact kinds_3_4.mp ok
        · exact kinds_3_5.mp ok
        · exact kinds_3_6.mp ok
        · exact kinds_3_7.mp ok
        · exact kinds_3_8.mp ok
    · cases s with
      | negSucc m => exact (kinds_4_neg m).mp ok
      | ofNat s =>
        rcases small s with ⟨m, rfl⟩ | rfl | rfl | rfl | rfl | rfl | rfl | rfl | rfl | rfl
        · exact (kinds_4_big m).mp ok
        · exact kinds_4_0.mp ok
        · exact kinds_4_1.mp ok
        · exact kinds_4_2.mp ok
        · exact kinds_4_3.mp ok
        · exact kinds_4_4.mp ok
        · exact kinds_4_5.mp ok
        · exact kinds_4_6.mp ok
        · exact kinds_4_7.mp ok
        · exact kinds_4_8.mp ok
    · cases s with
      | negSucc m => exact (kinds_5_neg m).mp ok
      | ofNat s =>
        rcases small s with ⟨m, rfl⟩ | rfl | rfl | rfl | rfl | rfl | rfl | rfl | rfl | rfl
        · exact (kinds_5_big m).mp ok
        · exact kinds_5_0.mp ok
        · exact kinds_5_1.mp ok
        · exact kinds_5_2.mp ok
        · exact kinds_5_3.mp ok
        · exact kinds_5_4.mp ok
        · exact kinds_5_5.mp ok
        · exact kinds_5_6.mp ok
        · exact kinds_5_7.mp ok
        · exact kinds_5_8.mp ok

theorem walkKinds (k s : Int) (_ : (Lit.int .i64 k).wf = true) (_ : (Lit.int .i64 s).wf = true) :
    W Tryd.prog f4.slim.n f4.slim.body (fun e B => (e = .normal ∨ e = .ret) ∧ resV B.T B.h f4.slim.res = some [.bool true]) ⟨argT 0 [.int .i64 k, .int .i64 s], .e⟩ :=
  kinds_W (kinds_all k s)
end
end Go.AM.FD
