/- The abstract machine, part M: running slim code. -/
import Derived.Test.YteaeobmbfhaklaaAmL
set_option linter.unusedSimpArgs false
set_option linter.unusedVariables false
namespace Go.AM
variable {P : Program}

abbrev Ke := Tmps → Heap → Nat → Bool

/-- A value is brought into the form in which it is kept. -/
def force (v : AV) (k : AV → Bool) : Bool :=
  match v with
  | .int t n => (match n with | .ofNat m => k (.int t (.ofNat m)) | .negSucc m => k (.int t (.negSucc m)))
  | .bool true => k (.bool true)
  | .bool false => k (.bool false)
  | .any => k .any
  | .str s => k (.str s)
  | .agg cs => k (.agg cs)
  | .tup cs => k (.tup cs)
  | .nilptr => k .nilptr
  | .ptr b g o => k (.ptr b g o)
  | .fptr cs => k (.fptr cs)
  | .nilsl => k .nilsl
  | .sl b g o l s => k (.sl b g o l s)
  | .fsl cs l s => k (.fsl cs l s)
  | .esl => k .esl
  | .nilmap => k .nilmap
  | .map b g => k (.map b g)
  | .nilfn => k .nilfn
  | .fn f x y => k (.fn f x y)
  | .nilif => k .nilif
  | .ifc t v => k (.ifc t v)

theorem force_eq (v : AV) (k : AV → Bool) : force v k = k v := by
  unfold force
  split <;> (try split) <;> rfl

def upK : Tmps → Nat → AV → (Tmps → Bool) → Bool
  | [], i, v, k => k [(i, v)]
  | (j, u) :: r, i, v, k => bif Nat.beq j i then k ((j, v) :: r) else upK r i v fun r' => k ((j, u) :: r')

theorem upK_eq : ∀ (T : Tmps) (i : Nat) (v : AV) (k : Tmps → Bool), upK T i v k = k (up T i v)
  | [], _, _, _ => rfl
  | (j, u) :: r, i, v, k => by
    simp only [upK, up]
    cases Nat.beq j i with
    | true => rfl
    | false => simp [upK_eq r]

def rmK : Tmps → List Nat → (Tmps → Bool) → Bool
  | [], _, k => k []
  | (j, u) :: r, l, k => bif l.any (Nat.beq j) then rmK r l k else rmK r l fun r' => k ((j, u) :: r')

theorem rmK_eq : ∀ (T : Tmps) (l : List Nat) (k : Tmps → Bool), rmK T l k = k (rm T l)
  | [], _, _ => rfl
  | (j, u) :: r, l, k => by
    simp only [rmK, rm]
    cases l.any (Nat.beq j) with
    | true => simp [rmK_eq r]
    | false => simp [rmK_eq r]

def putK (T : Tmps) (dst : Option Nat) (v : AV) (k : Tmps → Bool) : Bool :=
  match dst with
  | some d => force v fun v => upK T d v k
  | none => k T

theorem putK_eq (T : Tmps) (dst : Option Nat) (v : AV) (k : Tmps → Bool) : putK T dst v k = k (putD T dst v) := by
  unfold putK putD
  cases dst with
  | none => rfl
  | some d => simp [force_eq, upK_eq]


def Tr.setK {α : Type} : Nat → Tr α → Nat → α → (Tr α → Bool) → Bool
  | 0, t, _, _, k => k t
  | f + 1, t, b, x, k =>
    match t with
    | .e => bif Nat.beq b 0 then k (.n .e (some x) .e) else bif Nat.beq (b % 2) 1 then Tr.setK f .e (b / 2) x fun l => k (.n l none .e) else Tr.setK f .e (b / 2 - 1) x fun r => k (.n .e none r)
    | .n l v r => bif Nat.beq b 0 then k (.n l (some x) r) else bif Nat.beq (b % 2) 1 then Tr.setK f l (b / 2) x fun l => k (.n l v r) else Tr.setK f r (b / 2 - 1) x fun r => k (.n l v r)

theorem Tr.setK_eq {α : Type} : ∀ (f : Nat) (t : Tr α) (b : Nat) (x : α) (k : Tr α → Bool), Tr.setK f t b x k = k (Tr.setF f t b x)
  | 0, _, _, _, _ => rfl
  | f + 1, t, b, x, k => by
    cases t <;> simp only [Tr.setK, Tr.setF] <;> cases Nat.beq b 0 <;> cases Nat.beq (b % 2) 1 <;> simp [Tr.setK_eq f]

def forceL : List AV → (List AV → Bool) → Bool
  | [], k => k []
  | x :: r, k => force x fun x => forceL r fun r => k (x :: r)

theorem forceL_eq : ∀ (l : List AV) (k : List AV → Bool), forceL l k = k l
  | [], _ => rfl
  | x :: r, k => by simp [forceL, force_eq, forceL_eq r]

/-- As force, and rows too. -/
def force2 (v : AV) (k : AV → Bool) : Bool :=
  match v with
  | .agg cs => forceL cs fun cs => k (.agg cs)
  | .tup cs => forceL cs fun cs => k (.tup cs)
  | .fn f x y => forceL x fun x => forceL y fun y => k (.fn f x y)
  | v => force v k

theorem force2_eq (v : AV) (k : AV → Bool) : force2 v k = k v := by
  unfold force2
  split <;> simp [force_eq, forceL_eq]

def forceB (x : Blk) (k : Blk → Bool) : Bool :=
  match x with
  | .cells g cs => forceL cs fun cs => k (.cells g cs)
  | x => k x

theorem forceB_eq (x : Blk) (k : Blk → Bool) : forceB x k = k x := by
  unfold forceB
  split <;> simp [forceL_eq]

def HM.runK {α : Type} : HM α → Heap → (α → Heap → Bool) → Bool
  | .ret a, h, k => k a h
  | .fail, _, _ => false
  | .look b m, h, k => (m (h.get b)).runK h k
  | .put b x m, h, k => bif Nat.blt b lim then forceB x fun x => Tr.setK 40 h b x fun h => m.runK h k else false

theorem HM.runK_eq {α : Type} (m : HM α) : ∀ (h : Heap) (k : α → Heap → Bool), m.runK h k = match m.run h with | some (a, h') => k a h' | none => false := by
  induction m with
  | ret a => intro h k; rfl
  | fail => intro h k; rfl
  | look b m ih => intro h k; simp only [HM.runK, HM.run, ih]
  | put b x m ih =>
    intro h k
    simp only [HM.runK, HM.run, forceB_eq, Tr.setK_eq]
    cases Nat.blt b lim with
    | true => simp only [cond_true, ih]; rfl
    | false => rfl

/-! ### regions, one operation behind the other -/
def RunF (P : Program) (base : Nat) : Nat → List SOper → List FP → St → St → Prop
  | _, [], fs, A, C => fs = [] ∧ A = C
  | i, s :: r, fs, A, C => ∃ f fs' v h1, fs = f :: fs' ∧ StepV P (base + i) s A.T A.h v h1 f ∧ RunF P base (i + 1) r fs' ⟨putD A.T s.dst v, h1⟩ C

theorem RunF.to_L {base : Nat} {sops : List SOper} : ∀ (r pre : List SOper) (fs fpre : List FP) (A C : St), sops = pre ++ r → fpre.length = pre.length → RunF P base pre.length r fs A C →
    RunL P base sops (fun i => (fpre ++ fs).getD i ⟨false, [], []⟩) (List.range' pre.length r.length) A C
  | [], pre, fs, fpre, A, C, hs, hl, h => by
    obtain ⟨rfl, rfl⟩ := h
    simp [RunL]
  | s :: r, pre, fs, fpre, A, C, hs, hl, h => by
    obtain ⟨f, fs', v, h1, rfl, hv, hr⟩ := h
    rw [List.length_cons, List.range'_succ]
    refine ⟨⟨putD A.T s.dst v, h1⟩, ⟨s, v, h1, by rw [hs]; simp, ?_, rfl⟩, ?_⟩
    · have : (fpre ++ f :: fs').getD pre.length ⟨false, [], []⟩ = f := by rw [← hl]; simp
      show StepV P (base + pre.length) s A.T A.h v h1 ((fpre ++ f :: fs').getD pre.length ⟨false, [], []⟩)
      rw [this]; exact hv
    · have := RunF.to_L (sops := sops) r (pre ++ [s]) fs' (fpre ++ [f]) _ C (by simp [hs]) (by simp [hl]) (by simpa using hr)
      simpa using this

theorem W.regionF {N : Nat} {Q : SX → St → Prop} {A C : St} {sops : List SOper} {pairs : List (Nat × Nat)} {dead : List Nat} (base : Nat) (fs : List FP) (hr : RunF P base 0 sops fs A C)
    (hp : (pairs.all fun p => (fs.getD p.1 ⟨false, [], []⟩).apart (fs.getD p.2 ⟨false, [], []⟩)) = true) (hQ : Q .normal ⟨rm C.T dead, C.h⟩) : W P N (.region sops pairs dead) Q A := by
  have h1 := RunF.to_L (P := P) (base := base) (sops := sops) sops [] fs [] A C (by simp) rfl hr
  refine W.region base _ (by simpa [List.range_eq_range'] using h1) ?_ hQ
  intro p hpm
  exact List.all_eq_true.1 hp p hpm


/-! ### running -/
abbrev Kv := AV → Heap → Nat → Bool
abbrev Caller := CallM → Nat → List AV → Heap → Nat → Kv → Bool

/-- One operation of a region: what it gives, the blocks behind it, the next free number, and what it touched. -/
def opX (call : Caller) (fp : Bool) (i : Nat) (s : SOp) (T : Tmps) (h : Heap) (n : Nat) (k : AV → Heap → Nat → FP → Bool) : Bool :=
  (aop i T s).runK h fun out h2 =>
    match out with
    | .val v => k v h2 n (bif fp then fpOf ((aop i T s).fp h) else ⟨false, [], []⟩)
    | .call .heap f args => call .heap f args h2 n fun v h1 n => k v h1 n ⟨true, [], []⟩
    | .call .pure f args => call .pure f args h2 n fun v _ n => k v h2 n (bif fp then fpOf ((aop i T s).fp h) else ⟨false, [], []⟩)
    | .call .borrow f args => call .borrow f args h2 n fun v _ n => bif flatV v then k v h2 n (bif fp then fpOf ((aop i T s).fp h) else ⟨false, [], []⟩) else false

def operX (call : Caller) (fp : Bool) (i : Nat) (s : SOper) (T : Tmps) (h : Heap) (n : Nat) (k : AV → Heap → Nat → FP → Bool) : Bool :=
  match s.guard with
  | none => opX call fp i s.op T h n k
  | some (g, want) => match wantedA (lk T g) want with
    | some true => opX call fp i s.op T h n k
    | some false => k (.tup []) h n ⟨false, [], []⟩
    | none => false

/-- The operations of a region, one behind the other. -/
def opsX (call : Caller) (fp : Bool) (base : Nat) : Nat → List SOper → Tmps → Heap → Nat → (Tmps → Heap → Nat → List FP → Bool) → Bool
  | _, [], T, h, n, k => k T h n []
  | i, s :: r, T, h, n, k => operX call fp (base + i) s T h n fun v h n f => putK T s.dst v fun T => opsX call fp base (i + 1) r T h n fun T h n fs => k T h n (bif fp then f :: fs else fs)

/-- As opsX, where nobody asks what was touched. -/
def opsY (call : Caller) (base : Nat) : Nat → List SOper → Tmps → Heap → Nat → Ke → Bool
  | _, [], T, h, n, k => k T h n
  | i, s :: r, T, h, n, k => operX call false (base + i) s T h n fun v h n f => putK T s.dst v fun T => opsY call base (i + 1) r T h n k

abbrev Kc := SX → Tmps → Heap → Nat → Bool

def argK : Nat → List AV → (Tmps → Bool) → Bool
  | _, [], k => k []
  | i, x :: r, k => force2 x fun x => argK (i + 1) r fun r => k ((i, x) :: r)

theorem argK_eq : ∀ (i : Nat) (l : List AV) (k : Tmps → Bool), argK i l k = k (argT i l)
  | _, [], _ => rfl
  | i, x :: r, k => by simp [argK, argT, force2_eq, argK_eq (i + 1) r]

/-- How a whole function is run, where running code is given. -/
def callX (fns : Nat → Option SFn) (run : SCode → Tmps → Heap → Nat → Kc → Bool) : Caller := fun m f args h n k =>
  match fns f with
  | none => false
  | some sf => bif Nat.ble args.length sf.n then
      (match m with
      | .heap => argK 0 args fun T => run sf.body T h n fun e T h n =>
        match e with
        | .exit _ => false
        | _ => match resV T h sf.res with
          | some vs => force2 (resOf vs) fun v => k v h n
          | none => false
      | _ => bif noRefs args then (argK 0 args fun T => run sf.body T .e 64 fun e T h' _ =>
        match e with
        | .exit _ => false
        | _ => match resV T h' sf.res with
          | some vs => (frzH 6 (resOf vs)).runK h' fun v _ => bif noRef v then force2 v fun v => k v h n else false
          | none => false) else false) else false

def ex (fns : Nat → Option SFn) : Nat → SCode → Tmps → Heap → Nat → Kc → Bool
  | 0, _, _, _, _, _ => false
  | d + 1, c, T, h, n, k =>
    match c with
    | .skip => k .normal T h n
    | .ret => k .ret T h n
    | .exit i => k (.exit i) T h n
    | .mloop .. => false
    | .bad => false
    | .region ops [] dead => opsY (callX fns (ex fns d)) n 0 ops T h (n + ops.length) fun T h n => rmK T dead fun T => k .normal T h n
    | .region ops pairs dead => opsX (callX fns (ex fns d)) true n 0 ops T h (n + ops.length) fun T h n fs =>
        bif pairs.all fun p => (fs.getD p.1 ⟨false, [], []⟩).apart (fs.getD p.2 ⟨false, [], []⟩) then rmK T dead fun T => k .normal T h n else false
    | .seq a b => ex fns d a T h n fun e T h n => match e with
      | .normal => ex fns d b T h n k
      | e => k e T h n
    | .cond x a b => match ev T x with
      | .bool true => ex fns d a T h n k
      | .bool false => ex fns d b T h n k
      | _ => false
    | .block i b => ex fns d b T h n fun e T h n => match e with
      | .exit j => bif Nat.beq j i then k .normal T h n else k (.exit j) T h n
      | e => k e T h n
    | .loop b => ex fns d b T h n fun e T h n => match e with
      | .normal => ex fns d (.loop b) T h n k
      | e => k e T h n

end Go.AM
