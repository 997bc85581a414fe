/- The abstract machine, part R: running slim code fast in the kernel: by recursors, whatever the answer's type. -/
import Derived.Test.YteaeobmbfhaklaaAmQ
import Derived.Test.YteaeobmbfhaklaaAmT
set_option linter.unusedSimpArgs false
set_option linter.unusedVariables false
namespace Go.AM
variable {P : Program}
noncomputable section

/-! ### code for running: a mark where a slot is new -/
structure FOp where
  nw : Bool
  o : SOper
inductive FCode where
  | skip
  | region (ops : List FOp) (pairs : List (Nat × Nat)) (dead : Nat)
  | seq (a b : FCode)
  | cond (x : Opd) (a b : FCode)
  | block (id : Nat) (b : FCode)
  | loop (b : FCode)
  | exit (id : Nat)
  | ret
  | mloop (pre : List FOp) (x : Opd) (it nx ok en b1 b2 : Nat) (rest : List FOp) (body : FCode)
  | bad
def FCode.slim : FCode → SCode
  | .skip => .skip
  | .region ops pairs _ => .region (ops.map FOp.o) pairs []
  | .seq a b => .seq a.slim b.slim
  | .cond x a b => .cond x a.slim b.slim
  | .block i b => .block i b.slim
  | .loop b => .loop b.slim
  | .exit i => .exit i
  | .ret => .ret
  | .mloop pre x it nx ok en b1 b2 rest body => .mloop (pre.map FOp.o) x it nx ok en b1 b2 (rest.map FOp.o) body.slim
  | .bad => .bad
structure FFn where
  n : Nat
  res : List SRes
  body : FCode
def FFn.slim (f : FFn) : SFn := ⟨f.n, f.res, f.body.slim⟩

/-! ### answers -/
structure Ans (α : Type) where
  bad : α
  asm : List AV → List AV → α → α
  holds : α → Prop

def ansB : Ans Bool := ⟨false, fun _ _ _ => false, fun b => b = true⟩
def ansP : Ans Prop := ⟨False, fun x y p => x = y ∧ p, id⟩
structure Ans.OK {α : Type} (A : Ans α) : Prop where
  bad : ¬ A.holds A.bad
  asm : ∀ x y p, A.holds (A.asm x y p) → x = y ∧ A.holds p
theorem ansB_ok : ansB.OK := ⟨fun h => (by cases h), fun _ _ _ h => (by cases h)⟩
theorem ansP_ok : ansP.OK := ⟨fun h => h, fun _ _ _ h => h⟩

variable {α : Type}

/-! ### small steps, by recursors -/
abbrev ifB (c : Bool) (a b : α) : α := @Bool.rec (fun _ => α) b a c
theorem ifB_eq (c : Bool) (a b : α) : ifB c a b = if c = true then a else b := by cases c <;> rfl

def fNat (m : Nat) (k : Nat → α) : α := @Nat.rec (fun _ => α) (k 0) (fun n _ => k (Nat.succ n)) m
theorem fNat_eq (m : Nat) (k : Nat → α) : fNat m k = k m := by cases m <;> rfl
def fInt (n : Int) (k : Int → α) : α := @Int.rec (fun _ => α) (fun m => fNat m fun m => k (.ofNat m)) (fun m => fNat m fun m => k (.negSucc m)) n
theorem fInt_eq (n : Int) (k : Int → α) : fInt n k = k n := by cases n <;> simp [fInt, fNat_eq]
def fBool (b : Bool) (k : Bool → α) : α := @Bool.rec (fun _ => α) (k false) (k true) b
theorem fBool_eq (b : Bool) (k : Bool → α) : fBool b k = k b := by cases b <;> rfl
/-- The spine of a list. -/
def fList {β : Type} (l : List β) (k : List β → α) : α := @List.rec β (fun _ => (List β → α) → α) (fun k => k []) (fun x _ ih k => ih fun r => k (x :: r)) l k
theorem fList_eq {β : Type} (l : List β) (k : List β → α) : fList l k = k l := by
  have : ∀ (l : List β) (k : List β → α), @List.rec β (fun _ => (List β → α) → α) (fun k => k []) (fun x _ ih k => ih fun r => k (x :: r)) l k = k l := by
    intro l
    induction l with
    | nil => intro k; rfl
    | cons x r ih => intro k; exact ih _
  exact this l k

def fAV (v : AV) (k : AV → α) : α :=
  match v with
  | .int t n => fInt n fun n => k (.int t n)
  | .bool b => fBool b fun b => k (.bool b)
  | .any => k .any
  | .str s => fList s fun s => k (.str s)
  | .agg cs => fList cs fun cs => k (.agg cs)
  | .tup cs => fList cs fun cs => k (.tup cs)
  | .nilptr => k .nilptr
  | .ptr b g o => fNat o fun o => k (.ptr b g o)
  | .fptr cs => fList cs fun cs => k (.fptr cs)
  | .nilsl => k .nilsl
  | .sl b g o l s => fNat o fun o => fNat l fun l => k (.sl b g o l s)
  | .fsl cs l s => fNat l fun l => fList cs fun cs => k (.fsl cs l s)
  | .esl => k .esl
  | .nilmap => k .nilmap
  | .map b g => k (.map b g)
  | .nilfn => k .nilfn
  | .fn f x y => fList x fun x => fList y fun y => k (.fn f x y)
  | .nilif => k .nilif
  | .ifc t v => k (.ifc t v)
theorem fAV_eq (v : AV) (k : AV → α) : fAV v k = k v := by
  unfold fAV
  split <;> simp only [fInt_eq, fBool_eq, fList_eq, fNat_eq]

/-- A list of values, each brought into form. -/
def fAVs (l : List AV) (k : List AV → α) : α := @List.rec AV (fun _ => (List AV → α) → α) (fun k => k []) (fun x _ ih k => fAV x fun x => ih fun r => k (x :: r)) l k
theorem fAVs_eq (l : List AV) (k : List AV → α) : fAVs l k = k l := by
  have : ∀ (l : List AV) (k : List AV → α), @List.rec AV (fun _ => (List AV → α) → α) (fun k => k []) (fun x _ ih k => fAV x fun x => ih fun r => k (x :: r)) l k = k l := by
    intro l
    induction l with
    | nil => intro k; rfl
    | cons x r ih =>
      intro k
      show fAV x (fun x => @List.rec AV (fun _ => (List AV → α) → α) (fun k => k []) (fun x _ ih k => fAV x fun x => ih fun r => k (x :: r)) r fun r => k (x :: r)) = _
      rw [fAV_eq]; exact ih _
  exact this l k
def fBlk (x : Blk) (k : Blk → α) : α :=
  match x with
  | .cells g cs => fList cs fun cs => k (.cells g cs)
  | x => k x
theorem fBlk_eq (x : Blk) (k : Blk → α) : fBlk x k = k x := by
  unfold fBlk; split <;> simp only [fList_eq]

/-! ### slots -/
def lkK (T : Tmps) (i : Nat) (k : AV → α) : α := @List.rec (Nat × AV) (fun _ => α) (k .any) (fun p _ ih => ifB (Nat.beq p.1 i) (k p.2) ih) T
theorem lkK_eq (T : Tmps) (i : Nat) (k : AV → α) : lkK T i k = k (lk T i) := by
  induction T with
  | nil => rfl
  | cons p T ih =>
    show ifB (Nat.beq p.1 i) (k p.2) (lkK T i k) = _
    rw [ih, ifB_eq, lk_cons]
    by_cases h : p.1 = i
    · subst h; simp
    · have : Nat.beq p.1 i = false := by rw [Bool.eq_false_iff]; simpa using h
      rw [this, if_neg h]; rfl
def evK (T : Tmps) (x : Opd) (k : AV → α) : α := @Opd.rec (fun _ => α) (fun i => lkK T i k) (fun v => k v) (fun n => k (.fn n [] [])) (fun _ => k .any) x
theorem evK_eq (T : Tmps) (x : Opd) (k : AV → α) : evK T x k = k (ev T x) := by
  cases x
  · exact lkK_eq _ _ _
  · rfl
  · rfl
  · rfl
def upR (T : Tmps) (i : Nat) (v : AV) (k : Tmps → α) : α :=
  @List.rec (Nat × AV) (fun _ => (Tmps → α) → α) (fun k => k [(i, v)]) (fun p r ih k => ifB (Nat.beq p.1 i) (k ((i, v) :: r)) (ih fun r' => k (p :: r'))) T k
theorem upR_eq (T : Tmps) (i : Nat) (v : AV) (k : Tmps → α) : upR T i v k = k (up T i v) := by
  have : ∀ (T : Tmps) (k : Tmps → α), @List.rec (Nat × AV) (fun _ => (Tmps → α) → α) (fun k => k [(i, v)]) (fun p r ih k => ifB (Nat.beq p.1 i) (k ((i, v) :: r)) (ih fun r' => k (p :: r'))) T k = k (up T i v) := by
    intro T
    induction T with
    | nil => intro k; rfl
    | cons p T ih =>
      intro k
      show ifB (Nat.beq p.1 i) (k ((i, v) :: T)) (@List.rec (Nat × AV) (fun _ => (Tmps → α) → α) (fun k => k [(i, v)]) (fun p r ih k => ifB (Nat.beq p.1 i) (k ((i, v) :: r)) (ih fun r' => k (p :: r'))) T fun r' => k (p :: r')) = _
      rw [ih, ifB_eq, up_cons]
      by_cases h : p.1 = i
      · subst h; simp
      · have : Nat.beq p.1 i = false := by rw [Bool.eq_false_iff]; simpa using h
        rw [this, if_neg h]; rfl
  exact this T k
/-- A slot is set: put ahead where it is new. -/
def putS (nw : Bool) (T : Tmps) (dst : Option Nat) (v : AV) (k : Tmps → α) : α :=
  @Option.rec Nat (fun _ => α) (k T) (fun d => ifB nw (k ((d, v) :: T)) (upR T d v k)) dst
theorem putS_same (nw : Bool) (T : Tmps) (dst : Option Nat) (v : AV) (k : Tmps → α) : ∃ T', putS nw T dst v k = k T' ∧ ∀ i, lk T' i = lk (putD T dst v) i := by
  cases dst with
  | none => exact ⟨T, rfl, fun _ => rfl⟩
  | some d =>
    cases nw with
    | false => exact ⟨up T d v, upR_eq T d v k, fun _ => rfl⟩
    | true =>
      refine ⟨(d, v) :: T, rfl, fun i => ?_⟩
      rw [lk_cons, lk_putD]
      by_cases h : d = i
      · subst h; simp
      · rw [if_neg h, if_neg (by simpa using h)]
def rmR (m : Nat) (T : Tmps) (k : Tmps → α) : α :=
  @List.rec (Nat × AV) (fun _ => (Tmps → α) → α) (fun k => k []) (fun p r ih k => ifB (Nat.beq (Nat.land (Nat.shiftRight m p.1) 1) 1) (ih k) (ih fun r' => k (p :: r'))) T k
def rmM (m : Nat) : Tmps → Tmps
  | [] => []
  | p :: r => if Nat.beq (Nat.land (Nat.shiftRight m p.1) 1) 1 = true then rmM m r else p :: rmM m r
theorem rmR_eq (m : Nat) (T : Tmps) (k : Tmps → α) : rmR m T k = k (rmM m T) := by
  have : ∀ (T : Tmps) (k : Tmps → α), @List.rec (Nat × AV) (fun _ => (Tmps → α) → α) (fun k => k []) (fun p r ih k => ifB (Nat.beq (Nat.land (Nat.shiftRight m p.1) 1) 1) (ih k) (ih fun r' => k (p :: r'))) T k = k (rmM m T) := by
    intro T
    induction T with
    | nil => intro k; rfl
    | cons p T ih =>
      intro k
      show ifB (Nat.beq (Nat.land (Nat.shiftRight m p.1) 1) 1) (@List.rec (Nat × AV) (fun _ => (Tmps → α) → α) (fun k => k []) (fun p r ih k => ifB (Nat.beq (Nat.land (Nat.shiftRight m p.1) 1) 1) (ih k) (ih fun r' => k (p :: r'))) T k) (@List.rec (Nat × AV) (fun _ => (Tmps → α) → α) (fun k => k []) (fun p r ih k => ifB (Nat.beq (Nat.land (Nat.shiftRight m p.1) 1) 1) (ih k) (ih fun r' => k (p :: r'))) T fun r' => k (p :: r')) = _
      rw [ih, ih, ifB_eq]
      simp only [rmM]
      split <;> rfl
  exact this T k
theorem rmM_sub (m : Nat) (T : Tmps) : Sub (rmM m T) T := by
  have dead : ∀ (T : Tmps) (i : Nat), Nat.beq (Nat.land (Nat.shiftRight m i) 1) 1 = true → lk (rmM m T) i = .any := by
    intro T i hi
    induction T with
    | nil => rfl
    | cons p T ih =>
      simp only [rmM]
      split
      · exact ih
      · rename_i h
        rw [lk_cons, if_neg (by intro e; exact h (by rw [e]; exact hi))]; exact ih
  have live : ∀ (T : Tmps) (i : Nat), ¬ Nat.beq (Nat.land (Nat.shiftRight m i) 1) 1 = true → lk (rmM m T) i = lk T i := by
    intro T i hi
    induction T with
    | nil => rfl
    | cons p T ih =>
      simp only [rmM]
      split
      · rename_i h
        rw [lk_cons, if_neg (by intro e; exact hi (by rw [← e]; exact h))]; exact ih
      · rw [lk_cons, lk_cons, ih]
  intro i
  by_cases h : Nat.beq (Nat.land (Nat.shiftRight m i) 1) 1 = true
  · exact .inl (dead T i h)
  · exact .inr (live T i h)

/-! ### the heap -/
def getR {β : Type} (t : Tr β) (b : Nat) (k : Option β → α) : α :=
  @Tr.rec β (fun _ => Nat → α) (fun _ => k none) (fun _ v _ il ir b => ifB (Nat.beq b 0) (k v) (ifB (Nat.beq (Nat.mod b 2) 1) (il (Nat.div b 2)) (ir (Nat.sub (Nat.div b 2) 1)))) t b
theorem getR_eq {β : Type} (t : Tr β) (b : Nat) (k : Option β → α) : getR t b k = k (t.get b) := by
  induction t generalizing b with
  | e => rfl
  | n l v r il ir =>
    show ifB (Nat.beq b 0) (k v) (ifB (Nat.beq (Nat.mod b 2) 1) (getR l (Nat.div b 2) k) (getR r (Nat.sub (Nat.div b 2) 1) k)) = _
    rw [il, ir, ifB_eq, ifB_eq]
    simp only [Tr.get]
    have e1 : Nat.mod b 2 = b % 2 := rfl
    have e2 : Nat.div b 2 = b / 2 := rfl
    have e3 : Nat.sub (b / 2) 1 = b / 2 - 1 := rfl
    rw [e1, e2, e3]
    cases Nat.beq b 0 <;> cases Nat.beq (b % 2) 1 <;> rfl
def setE {β : Type} (f : Nat) (b : Nat) (x : β) (k : Tr β → α) : α :=
  @Nat.rec (fun _ => Nat → (Tr β → α) → α) (fun _ k => k .e) (fun _ ih b k => ifB (Nat.beq b 0) (k (.n .e (some x) .e)) (ifB (Nat.beq (Nat.mod b 2) 1) (ih (Nat.div b 2) fun l => k (.n l none .e)) (ih (Nat.sub (Nat.div b 2) 1) fun r => k (.n .e none r)))) f b k
theorem setE_eq {β : Type} (f : Nat) (b : Nat) (x : β) (k : Tr β → α) : setE f b x k = k (Tr.setF f .e b x) := by
  induction f generalizing b k with
  | zero => rfl
  | succ f ih =>
    show ifB (Nat.beq b 0) (k (.n .e (some x) .e)) (ifB (Nat.beq (Nat.mod b 2) 1) (setE f (Nat.div b 2) x fun l => k (.n l none .e)) (setE f (Nat.sub (Nat.div b 2) 1) x fun r => k (.n .e none r))) = _
    rw [ih, ih, ifB_eq, ifB_eq]
    simp only [Tr.setF]
    have e1 : Nat.mod b 2 = b % 2 := rfl
    have e2 : Nat.div b 2 = b / 2 := rfl
    have e3 : Nat.sub (b / 2) 1 = b / 2 - 1 := rfl
    rw [e1, e2, e3]
    cases Nat.beq b 0 <;> cases Nat.beq (b % 2) 1 <;> rfl
def setR {β : Type} (t : Tr β) (f : Nat) (b : Nat) (x : β) (k : Tr β → α) : α :=
  @Tr.rec β (fun _ => Nat → Nat → (Tr β → α) → α) (fun f b k => setE f b x k)
    (fun l v r il ir f b k => @Nat.rec (fun _ => α) (k (.n l v r)) (fun f _ => ifB (Nat.beq b 0) (k (.n l (some x) r)) (ifB (Nat.beq (Nat.mod b 2) 1) (il f (Nat.div b 2) fun l => k (.n l v r)) (ir f (Nat.sub (Nat.div b 2) 1) fun r => k (.n l v r)))) f) t f b k
theorem setR_eq {β : Type} (t : Tr β) (f : Nat) (b : Nat) (x : β) (k : Tr β → α) : setR t f b x k = k (Tr.setF f t b x) := by
  induction t generalizing f b k with
  | e => exact setE_eq f b x k
  | n l v r il ir =>
    cases f with
    | zero => rfl
    | succ f =>
      show ifB (Nat.beq b 0) (k (.n l (some x) r)) (ifB (Nat.beq (Nat.mod b 2) 1) (setR l f (Nat.div b 2) x fun l => k (.n l v r)) (setR r f (Nat.sub (Nat.div b 2) 1) x fun r => k (.n l v r))) = _
      rw [il, ir, ifB_eq, ifB_eq]
      simp only [Tr.setF]
      have e1 : Nat.mod b 2 = b % 2 := rfl
      have e2 : Nat.div b 2 = b / 2 := rfl
      have e3 : Nat.sub (b / 2) 1 = b / 2 - 1 := rfl
      rw [e1, e2, e3]
      cases Nat.beq b 0 <;> cases Nat.beq (b % 2) 1 <;> rfl
/-- Block b set. -/
def putBR (A : Ans α) (h : Heap) (b : Nat) (x : Blk) (k : Heap → α) : α := ifB (Nat.ble (Nat.succ b) lim) (setR h 40 b x k) A.bad
theorem putBR_eq (A : Ans α) (h : Heap) (b : Nat) (x : Blk) (k : Heap → α) : putBR A h b x k = if b < lim then k (h.set b x) else A.bad := by
  unfold putBR
  rw [setR_eq, ifB_eq]
  by_cases hb : b < lim
  · rw [if_pos (Nat.ble_eq_true_of_le hb), if_pos hb]; rfl
  · rw [if_neg (fun h => hb (Nat.le_of_ble_eq_true h)), if_neg hb]

def runR {β : Type} (A : Ans α) (m : HM β) (h : Heap) (k : β → Heap → α) : α :=
  @HM.rec β (fun _ => Heap → α) (fun a h => k a h) (fun _ => A.bad) (fun b _ ih h => getR h b fun o => ih o h) (fun b x _ ih h => fBlk x fun x => putBR A h b x fun h => ih h) m h
theorem runR_eq {β : Type} (A : Ans α) (m : HM β) : ∀ (h : Heap) (k : β → Heap → α), runR A m h k = match m.run h with | some (a, h') => k a h' | none => A.bad := by
  induction m with
  | ret a => intro h k; rfl
  | fail => intro h k; rfl
  | look b m ih =>
    intro h k
    show getR h b (fun o => runR A (m o) h k) = _
    rw [getR_eq]
    exact ih _ h k
  | put b x m ih =>
    intro h k
    show fBlk x (fun x => putBR A h b x fun h => runR A m h k) = _
    rw [fBlk_eq, putBR_eq]
    simp only [HM.run]
    by_cases hb : b < lim
    · have : Nat.blt b lim = true := by simp [Nat.blt]; omega
      rw [if_pos hb, this]; exact ih _ _
    · have : Nat.blt b lim = false := by rw [Bool.eq_false_iff]; intro h; exact hb (Nat.le_of_ble_eq_true h)
      rw [if_neg hb, this]; rfl

/-! ### values -/
def optR (A : Ans α) (o : Option AV) (k : AV → α) : α := @Option.rec AV (fun _ => α) A.bad (fun v => fAV v k) o
theorem optR_eq (A : Ans α) (o : Option AV) (k : AV → α) : optR A o k = match o with | some v => k v | none => A.bad := by
  cases o with
  | none => rfl
  | some v => exact fAV_eq v k

def hiN : IntKind → Nat
  | .i8 => 127 | .i16 => 32767 | .i32 => 2147483647 | .i64 => 9223372036854775807
  | .u8 => 255 | .u16 => 65535 | .u32 => 4294967295 | .u64 => 18446744073709551615
theorem hiN_eq (k : IntKind) : hi k = hiN k := by cases k <;> rfl
theorem lo_le (k : IntKind) : lo k ≤ 0 := by cases k <;> decide
theorem wr_nat {k : IntKind} {m : Nat} (h : m ≤ hiN k) : wr k (.ofNat m) = .ofNat m :=
  wr_of (by have := lo_le k; have : (0 : Int) ≤ Int.ofNat m := Int.natCast_nonneg m; omega) (by rw [hiN_eq]; exact Int.ofNat_le.2 h)
def kn : IntKind → Nat
  | .i8 => 0 | .i16 => 1 | .i32 => 2 | .i64 => 3 | .u8 => 4 | .u16 => 5 | .u32 => 6 | .u64 => 7
theorem kn_inj {k k' : IntKind} (h : Nat.beq (kn k) (kn k') = true) : k = k' := by cases k <;> cases k' <;> first | rfl | (cases h)

/-- Two numbers that are not negative, of one kind. -/
def bin2 (A : Ans α) (op : BinOp) (kd : IntKind) (a b : Nat) (slow : α) (k : AV → α) : α :=
  match op with
  | .add => fNat (Nat.add a b) fun r => ifB (Nat.ble r (hiN kd)) (k (.int kd (.ofNat r))) slow
  | .sub => ifB (Nat.ble b a) (fNat (Nat.sub a b) fun r => ifB (Nat.ble r (hiN kd)) (k (.int kd (.ofNat r))) slow) slow
  | .mul => fNat (Nat.mul a b) fun r => ifB (Nat.ble r (hiN kd)) (k (.int kd (.ofNat r))) slow
  | .eql => fBool (Nat.beq a b) fun t => k (.bool t)
  | .neq => fBool (Nat.beq a b) fun t => ifB t (k (.bool false)) (k (.bool true))
  | .lss => fBool (Nat.ble (Nat.succ a) b) fun t => k (.bool t)
  | .leq => fBool (Nat.ble a b) fun t => k (.bool t)
  | .gtr => fBool (Nat.ble (Nat.succ b) a) fun t => k (.bool t)
  | .geq => fBool (Nat.ble b a) fun t => k (.bool t)
  | _ => slow
/-- A number below 0 against one that is not. -/
def binN (op : BinOp) (below : Bool) (slow : α) (k : AV → α) : α :=
  match op with
  | .eql => k (.bool false)
  | .neq => k (.bool true)
  | .lss => ifB below (k (.bool true)) (k (.bool false))
  | .leq => ifB below (k (.bool true)) (k (.bool false))
  | .gtr => ifB below (k (.bool false)) (k (.bool true))
  | .geq => ifB below (k (.bool false)) (k (.bool true))
  | _ => slow
def binR (A : Ans α) (op : BinOp) (x y : AV) (k : AV → α) : α :=
  match x with
  | .int kx (.ofNat a) => (match y with
    | .int ky (.ofNat b) => ifB (Nat.beq (kn kx) (kn ky)) (bin2 A op kx a b (optR A (aBin op x y) k) k) (optR A (aBin op x y) k)
    | .int ky (.negSucc b) => ifB (Nat.beq (kn kx) (kn ky)) (binN op false (optR A (aBin op x y) k) k) (optR A (aBin op x y) k)
    | _ => optR A (aBin op x y) k)
  | .int kx (.negSucc a) => (match y with
    | .int ky (.ofNat b) => ifB (Nat.beq (kn kx) (kn ky)) (binN op true (optR A (aBin op x y) k) k) (optR A (aBin op x y) k)
    | _ => optR A (aBin op x y) k)
  | _ => optR A (aBin op x y) k
theorem binN_eq (A : Ans α) (op : BinOp) (kd : IntKind) (a b : Nat) (k : AV → α) :
    binN op true (optR A (aBin op (.int kd (.negSucc a)) (.int kd (.ofNat b))) k) k = optR A (aBin op (.int kd (.negSucc a)) (.int kd (.ofNat b))) k := by
  have hlt : (Int.negSucc a : Int) < Int.ofNat b := by have : (Int.negSucc a : Int) < 0 := Int.negSucc_lt_zero a; have : (0 : Int) ≤ Int.ofNat b := Int.natCast_nonneg b; omega
  generalize Int.negSucc a = x at *
  generalize Int.ofNat b = y at *
  unfold binN
  cases op <;> simp only <;> try rfl
  · rw [aBin_eql, optR_eq, show decide (x = y) = false by simp; omega]
  · rw [aBin_neq, optR_eq, show decide (x = y) = false by simp; omega]; rfl
  · rw [aBin_lss, optR_eq, show decide (x < y) = true by simp; omega]
  · rw [aBin_leq, optR_eq, show decide (x ≤ y) = true by simp; omega]
  · rw [aBin_gtr, optR_eq, show decide (y < x) = false by simp; omega]
  · rw [aBin_geq, optR_eq, show decide (y ≤ x) = false by simp; omega]
theorem binN_eq' (A : Ans α) (op : BinOp) (kd : IntKind) (a b : Nat) (k : AV → α) :
    binN op false (optR A (aBin op (.int kd (.ofNat a)) (.int kd (.negSucc b))) k) k = optR A (aBin op (.int kd (.ofNat a)) (.int kd (.negSucc b))) k := by
  have hlt : (Int.negSucc b : Int) < Int.ofNat a := by have : (Int.negSucc b : Int) < 0 := Int.negSucc_lt_zero b; have : (0 : Int) ≤ Int.ofNat a := Int.natCast_nonneg a; omega
  generalize Int.negSucc b = x at *
  generalize Int.ofNat a = y at *
  unfold binN
  cases op <;> simp only <;> try rfl
  · rw [aBin_eql, optR_eq, show decide (y = x) = false by simp; omega]
  · rw [aBin_neq, optR_eq, show decide (y = x) = false by simp; omega]; rfl
  · rw [aBin_lss, optR_eq, show decide (y < x) = false by simp; omega]
  · rw [aBin_leq, optR_eq, show decide (y ≤ x) = false by simp; omega]
  · rw [aBin_gtr, optR_eq, show decide (x < y) = true by simp; omega]
  · rw [aBin_geq, optR_eq, show decide (x ≤ y) = true by simp; omega]
theorem bin2_eq (A : Ans α) (op : BinOp) (kd : IntKind) (a b : Nat) (k : AV → α) :
    bin2 A op kd a b (optR A (aBin op (.int kd (.ofNat a)) (.int kd (.ofNat b))) k) k = optR A (aBin op (.int kd (.ofNat a)) (.int kd (.ofNat b))) k := by
  unfold bin2
  cases op <;> simp only <;> try rfl
  · rw [fNat_eq, ifB_eq]
    split
    · rename_i h1
      rw [aBin_add, show (Int.ofNat a + Int.ofNat b : Int) = Int.ofNat (a + b) from rfl, wr_nat (m := a + b) (Nat.le_of_ble_eq_true h1), optR_eq]; rfl
    · rfl
  · rw [ifB_eq]
    split
    · rename_i h0
      have h0 := Nat.le_of_ble_eq_true h0
      rw [fNat_eq, ifB_eq]
      split
      · rename_i h1
        rw [aBin_sub, show (Int.ofNat a - Int.ofNat b : Int) = Int.ofNat (a - b) from (Int.ofNat_sub h0).symm, wr_nat (m := a - b) (Nat.le_of_ble_eq_true h1), optR_eq]; rfl
      · rfl
    · rfl
  · rw [fNat_eq, ifB_eq]
    split
    · rename_i h1
      rw [aBin_mul, show (Int.ofNat a * Int.ofNat b : Int) = Int.ofNat (a * b) from rfl, wr_nat (m := a * b) (Nat.le_of_ble_eq_true h1), optR_eq]; rfl
    · rfl
  · rw [fBool_eq, aBin_eql, optR_eq]
    simp only
    congr 2
    rw [Bool.eq_iff_iff]; simp; omega
  · rw [fBool_eq, aBin_neq, optR_eq, ifB_eq]
    simp only
    by_cases e : a = b
    · subst e; simp
    · have h1 : Nat.beq a b = false := by rw [Bool.eq_false_iff]; simpa using e
      have h2 : decide (Int.ofNat a = Int.ofNat b) = false := by simp; omega
      rw [h1, h2]; rfl
  · rw [fBool_eq, aBin_lss, optR_eq]
    simp only
    congr 2
    rw [Bool.eq_iff_iff]; simp; omega
  · rw [fBool_eq, aBin_leq, optR_eq]
    simp only
    congr 2
    rw [Bool.eq_iff_iff]; simp
  · rw [fBool_eq, aBin_gtr, optR_eq]
    simp only
    congr 2
    rw [Bool.eq_iff_iff]; simp; omega
  · rw [fBool_eq, aBin_geq, optR_eq]
    simp only
    congr 2
    rw [Bool.eq_iff_iff]; simp
theorem binR_eq (A : Ans α) (op : BinOp) (x y : AV) (k : AV → α) : binR A op x y k = match aBin op x y with | some v => k v | none => A.bad := by
  rw [← optR_eq A]
  unfold binR
  split
  · split
    · rw [ifB_eq]
      split
      · rename_i h
        have := kn_inj h
        subst this
        exact bin2_eq A _ _ _ _ k
      · rfl
    · rw [ifB_eq]
      split
      · rename_i h
        have := kn_inj h
        subst this
        exact binN_eq' A _ _ _ _ k
      · rfl
    · rfl
  · split
    · rw [ifB_eq]
      split
      · rename_i h
        have := kn_inj h
        subst this
        exact binN_eq A _ _ _ _ k
      · rfl
    · rfl
  · rfl

/-- The j-th cell. -/
def nthR (A : Ans α) (cs : List AV) (j : Nat) (k : AV → α) : α :=
  @List.rec AV (fun _ => Nat → α) (fun _ => A.bad) (fun c _ ih j => @Nat.rec (fun _ => α) (k c) (fun j _ => ih j) j) cs j
theorem nthR_eq (A : Ans α) (cs : List AV) (j : Nat) (k : AV → α) : nthR A cs j k = match cs[j]? with | some v => k v | none => A.bad := by
  induction cs generalizing j with
  | nil => rfl
  | cons c cs ih =>
    cases j with
    | zero => rfl
    | succ j => exact (ih j).trans (by simp)
def nthSetR (cs : List AV) (j : Nat) (v : AV) (k : List AV → α) : α :=
  @List.rec AV (fun _ => Nat → (List AV → α) → α) (fun _ k => k []) (fun c r ih j k => @Nat.rec (fun _ => α) (k (v :: r)) (fun j _ => ih j fun r => k (c :: r)) j) cs j k
theorem nthSetR_eq (cs : List AV) (j : Nat) (v : AV) (k : List AV → α) : nthSetR cs j v k = k (cs.set j v) := by
  induction cs generalizing j k with
  | nil => rfl
  | cons c cs ih =>
    cases j with
    | zero => rfl
    | succ j => exact ih j _
def dropR (cs : List AV) (j : Nat) (k : List AV → α) : α :=
  @List.rec AV (fun _ => Nat → α) (fun _ => k []) (fun c r ih j => @Nat.rec (fun _ => α) (k (c :: r)) (fun j _ => ih j) j) cs j
theorem dropR_eq (cs : List AV) (j : Nat) (k : List AV → α) : dropR cs j k = k (cs.drop j) := by
  induction cs generalizing j with
  | nil => simp [dropR]
  | cons c cs ih =>
    cases j with
    | zero => rfl
    | succ j => exact ih j

def isPtr : AV → Bool
  | .ptr .. => true
  | _ => false

/-- What a pointer leads to. -/
def loadR (A : Ans α) (m : Option Nat) (x : AV) (h : Heap) (k : AV → α) : α :=
  match m with
  | none => (match x with
    | .ptr b g off => getR h b fun o => (match o with
      | some (.cells g' cs) => ifB (Nat.beq g' g) (nthR A cs off k) A.bad
      | _ => A.bad)
    | .fptr cs => (match cs with
      | c :: _ => k c
      | [] => A.bad)
    | _ => A.bad)
  | some _ => runR A (aLoad m x) h fun v _ => fAV v k
theorem loadR_eq (A : Ans α) (m : Option Nat) (x : AV) (h : Heap) (k : AV → α) : loadR A m x h k = match (aLoad m x).run h with | some (v, _) => k v | none => A.bad := by
  unfold loadR
  split
  · split
    · rename_i b g off
      rw [getR_eq]
      simp only [aLoad, HM.cells, HM.run]
      cases hb : h.get b with
      | none => rfl
      | some x =>
        cases x with
        | map g' es => rfl
        | dead g' => rfl
        | cells g' cs =>
          simp only
          rw [ifB_eq, nthR_eq]
          cases hg : Nat.beq g' g with
          | true =>
            simp only [cond_true, if_true]
            cases cs[off]? <;> rfl
          | false => simp [HM.run]
    · rename_i cs
      split <;> rfl
    · rename_i h1 h2
      cases x <;> first | rfl | (exact absurd rfl (h1 _ _ _)) | (exact absurd rfl (h2 _))
  · rw [runR_eq]
    cases (aLoad (some _) x).run h with
    | none => rfl
    | some r => exact fAV_eq _ _

def one1 : AV → Bool
  | .any | .agg _ | .tup _ => false
  | _ => true
/-- A cell is written. -/
def storeR (A : Ans α) (m : Nat) (x v : AV) (h : Heap) (k : AV → Heap → α) : α :=
  match x with
  | .ptr b g off => ifB (one1 v && Nat.beq m 1) (getR h b fun o => (match o with
      | some (.cells g' cs) => ifB (Nat.beq g' g) (ifB (Nat.ble (Nat.succ off) cs.length) (nthSetR cs off v fun cs => putBR A h b (.cells g' cs) fun h => k .any h) A.bad) A.bad
      | _ => A.bad)) (runR A (aStore m x v) h k)
  | _ => runR A (aStore m x v) h k
theorem storeR_eq (A : Ans α) (m : Nat) (x v : AV) (h : Heap) (k : AV → Heap → α) : storeR A m x v h k = match (aStore m x v).run h with | some (u, h') => k u h' | none => A.bad := by
  unfold storeR
  split
  · rename_i b g off
    rw [ifB_eq]
    split
    · rename_i h1
      simp only [Bool.and_eq_true] at h1
      obtain ⟨h1, h2⟩ := h1
      have : m = 1 := by simpa using h2
      subst this
      have hv : v.cells = [v] ∧ AV.one v = true := by cases v <;> first | (exact ⟨rfl, rfl⟩) | (cases h1)
      rw [getR_eq]
      simp only [aStore, HM.cells, HM.run]
      cases hb : h.get b with
      | none => rfl
      | some x =>
        cases x with
        | map g' es => rfl
        | dead g' => rfl
        | cells g' cs =>
          simp only
          rw [ifB_eq, ifB_eq]
          cases hg : Nat.beq g' g with
          | false => simp [HM.run]
          | true =>
            have : g' = g := by simpa using hg
            subst this
            simp only [cond_true, if_true, hv.1]
            by_cases hl : off < cs.length
            · rw [if_pos (Nat.ble_eq_true_of_le hl), if_pos ⟨rfl, hl, by simp [hv.2]⟩, nthSetR_eq, putBR_eq]
              simp only [HM.run]
              have e : Go.AM.putR cs off [v] = cs.set off v := rfl
              by_cases hb : b < lim
              · have : Nat.blt b lim = true := by simp [Nat.blt]; omega
                rw [if_pos hb, this]; rfl
              · have : Nat.blt b lim = false := by rw [Bool.eq_false_iff]; intro h; exact hb (Nat.le_of_ble_eq_true h)
                rw [if_neg hb, this]; rfl
            · rw [if_neg (fun h => hl (Nat.le_of_ble_eq_true h)), if_neg (by simp; omega)]
              rfl
    · rw [runR_eq]
      cases (aStore m _ v).run h <;> rfl
  · rw [runR_eq]
    cases (aStore m _ v).run h <;> rfl
end
end Go.AM
