/- A part of the proof of CatalogueKindsCardSaid: lemmas on the way. Conditions: none of ours. -/
import Derived.Test.YtjojndgfbbmfnaaDoorAmYt
namespace Go.AM.FD
open Go.Proofs
set_option maxRecDepth 100000
set_option linter.unusedSimpArgs false
set_option linter.unusedVariables false
noncomputable section

def kTrue (t : Nat) : KcA Bool := fun e T _ _ => match e with
  | .ret => isTrue (lk T t)
  | _ => false
theorem kTrue_of {t : Nat} {e : SX} {T : Tmps} {h : Heap} {n : Nat} (hk : kTrue t e T h n = true) : e = .ret ∧ lk T t = .bool true := by
  unfold kTrue at hk
  cases e <;> simp only [Bool.false_eq_true] at hk
  exact ⟨rfl, isTrue_of _ hk⟩
def rest : FCode → FCode
  | .seq _ b => b
  | c => c
def hd : FCode → FCode
  | .seq a _ => a
  | c => c

/-! ### CatalogueSame -/
def same1 : FCode := hd f5.body
def same2 : FCode := hd (rest f5.body)
def same3 : FCode := hd (rest (rest f5.body))
def same4 : FCode := hd (rest (rest (rest f5.body)))
def same5 : FCode := hd (rest (rest (rest (rest f5.body))))
def sameZ : FCode := rest (rest (rest (rest (rest f5.body))))
theorem same_is : f5.body = .seq same1 (.seq same2 (.seq same3 (.seq same4 (.seq same5 sameZ)))) := by kernel_rfl

def tailOK (T : Tmps) (h : Heap) : Bool := [0, 1, 2, 3].all fun j => exR ansB noOrc ft.get 100000 sameZ ((7, .int .i64 (.ofNat (3 + j))) :: T) h 5000 (kTrue 2)
def sameG4 (a : Int) (T : Tmps) (h : Heap) (n : Nat) : Prop := lk T 0 = .int .u8 a ∧ (lk T 22 = .any ∧ lk T 23 = .any ∧ lk T 24 = .any ∧ lk T 25 = .any) ∧ tailOK T h = true
def sameG3 (a : Int) (T : Tmps) (h : Heap) (n : Nat) : Prop := exR ansP (orc1 7 (.bool true)) ft.get 100000 same4 T h n (fun e T h n => e = .normal ∧ sameG4 a T h n)
def sameG2 (a : Int) (T : Tmps) (h : Heap) (n : Nat) : Prop := exR ansP (orc1 7 (.bool true)) ft.get 100000 same3 T h n (fun e T h n => e = .normal ∧ sameG3 a T h n)
def sameG1 (a : Int) (T : Tmps) (h : Heap) (n : Nat) : Prop := exR ansP (orc1 7 (.bool true)) ft.get 100000 same2 T h n (fun e T h n => e = .normal ∧ sameG2 a T h n)

theorem same_front (a : Int) : (SX.normal = SX.normal ∧ (([] : List AV) = [] ∧ (SX.normal = SX.normal ∧ (SX.normal = SX.normal ∧ (SX.normal = SX.normal ∧ (AV.int .u8 a = .int .u8 a ∧ (AV.any = .any ∧ AV.any = .any ∧ AV.any = .any ∧ AV.any = .any) ∧ true = true)))))) =
    exR ansP (orc1 7 (.bool true)) ft.get 100000 same1 [(0, .int .u8 a)] .e 64 (fun e T h n => e = .normal ∧ sameG1 a T h n) := by kernel_rfl

theorem tail_W {T : Tmps} {h : Heap} (ht : tailOK T h = true) (j : Nat) (hj : j < 4) :
    W Tryd.prog f5.n sameZ.slim (fun e B => (e = .normal ∨ e = .ret) ∧ resV B.T B.h [.tmp 2] = some [.bool true]) ⟨(7, .int .i64 (.ofNat (3 + j))) :: T, h⟩ := by
  have h1 := List.all_eq_true.1 ht j (by simp; omega)
  refine W_of_exB ft_ok noOrc_ok _ h1 ?_
  intro e T h n hk
  obtain ⟨rfl, hk2⟩ := kTrue_of hk
  refine ⟨.inr rfl, ?_⟩
  show resV T h [.tmp 2] = _
  rw [show resV T h [.tmp 2] = some [lk T 2] from rfl, hk2]

def same5ops : List SOper := [⟨(some 22), .mov (.t 0), [], none⟩, ⟨(some 23), .bin .rem (.t 22) (.c (.int .u8 4)), [0], none⟩, ⟨(some 24), .conv .i64 (.t 23), [1], none⟩, ⟨(some 25), .bin .add (.c (.int .i64 3)) (.t 24), [2], none⟩, ⟨(some 7), .mov (.t 25), [3, 0, 1, 2, 3], none⟩]
theorem same5_is : same5.slim = .region same5ops [] [] := by kernel_rfl

theorem same5_W {T : Tmps} {h : Heap} (a : Nat) (hT : lk T 0 = .int .u8 (.ofNat a)) (hd : lk T 22 = .any ∧ lk T 23 = .any ∧ lk T 24 = .any ∧ lk T 25 = .any) (ht : tailOK T h = true) :
    W Tryd.prog f5.n (FCode.seq same5 sameZ).slim (fun e B => (e = .normal ∨ e = .ret) ∧ resV B.T B.h [.tmp 2] = some [.bool true]) ⟨T, h⟩ := by
  have e4 : (Int.ofNat a).tmod 4 = Int.ofNat (a % 4) := by
    show (Int.ofNat a).tmod (Int.ofNat 4) = _
    simp [Int.tmod]
  have hlt := Nat.mod_lt a (show 4 > 0 by decide)
  have hm : (0 : Int) ≤ Int.ofNat (a % 4) ∧ (Int.ofNat (a % 4) : Int) < 4 := ⟨Int.natCast_nonneg _, by simp; omega⟩
  have e3 : (3 : Int) + Int.ofNat (a % 4) = Int.ofNat (3 + a % 4) := by simp
  have hz := tail_W ht (a % 4) hlt
  rw [← e3] at hz
  generalize Int.ofNat (a % 4) = M at *
  show W _ _ (.seq same5.slim sameZ.slim) _ _
  rw [same5_is]
  have key : wS Tryd.prog f5.n (.region same5ops [] []) [] 64 T h (fun e T' h' _ => e = .normal ∧ h' = h ∧ lk T' 7 = .int .i64 (3 + M) ∧ ∀ i, i ≠ 7 → i ≠ 22 → i ≠ 23 → i ≠ 24 → i ≠ 25 → lk T' i = lk T i) := by
    simp (disch := omega) only [same5ops, wS_region, wR_nil, wX_nil, wR_mov, wR_bin, wR_conv, ev_t, ev_c, lk_putD, hT, aBin_rem, aBin_add, aConv_int, wO_some, wO_pos, wO_neg, e4, wr_i64, wr_u8, Option.some.injEq, Nat.reduceEqDiff, if_true, if_false, rm_no, true_and]
    intro i h7 h22 h23 h24 h25
    simp only [h7.symm, h22.symm, h23.symm, h24.symm, h25.symm, if_false]
  refine W.seq ((wpC.toW key).mono ?_)
  rintro e B ⟨_, rfl, hh, h7, hrest⟩
  obtain ⟨BT, Bh⟩ := B
  simp only at hh h7 hrest
  subst hh
  refine W.weak ?_ hz
  intro i
  rw [lk_cons]
  by_cases i7 : 7 = i
  · subst i7; exact .inr (by rw [if_pos rfl, h7])
  · rw [if_neg i7]
    by_cases i22 : i = 22
    · subst i22; exact .inl hd.1
    by_cases i23 : i = 23
    · subst i23; exact .inl hd.2.1
    by_cases i24 : i = 24
    · subst i24; exact .inl hd.2.2.1
    by_cases i25 : i = 25
    · subst i25; exact .inl hd.2.2.2
    exact .inr (hrest i (fun e => i7 e.symm) i22 i23 i24 i25).symm

theorem same (a : Nat) :
    W Tryd.prog f5.slim.n f5.slim.body (fun e B => (e = .normal ∨ e = .ret) ∧ resV B.T B.h f5.slim.res = some [.bool true]) ⟨argT 0 [.int .u8 (Int.ofNat a)], .e⟩ := by
  show W Tryd.prog f5.n f5.body.slim (fun e B => (e = .normal ∨ e = .ret) ∧ resV B.T B.h [.tmp 2] = some [.bool true]) ⟨[(0, .int .u8 (Int.ofNat a))], .e⟩
  rw [same_is]
  have hx := (same_front (Int.ofNat a)).mp ⟨rfl, rfl, rfl, rfl, rfl, rfl, ⟨rfl, rfl, rfl, rfl⟩, rfl⟩
  refine W_seq_exP ft_ok (orc1_ok known) hx fun T h n hG => ?_
  refine W_seq_exP ft_ok (orc1_ok known) hG fun T h n hG => ?_
  refine W_seq_exP ft_ok (orc1_ok known) hG fun T h n hG => ?_
  refine W_seq_exP ft_ok (orc1_ok known) hG fun T h n hG => ?_
  exact same5_W a hG.1 hG.2.1 hG.2.2

theorem walkSame (a : Int) (wa : (Lit.int .u8 a).wf = true) :
    W Tryd.prog f5.slim.n f5.slim.body (fun e B => (e = .normal ∨ e = .ret) ∧ resV B.T B.h f5.slim.res = some [.bool true]) ⟨argT 0 [.int .u8 a], .e⟩ := by
  have h1 : 0 ≤ a := by
    simp [Lit.wf] at wa
    revert wa
    simp [IntKind.min, IntKind.max, IntKind.signed, IntKind.bits]
    omega
  obtain ⟨y, rfl⟩ : ∃ y : Nat, a = Int.ofNat y := ⟨a.toNat, by simp; omega⟩
  exact same y
end
end Go.AM.FD
