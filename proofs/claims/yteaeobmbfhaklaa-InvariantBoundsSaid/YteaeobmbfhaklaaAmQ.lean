/- The abstract machine, part Q: what must hold ahead of slim code, in words without bound variables, so that the simplifier reckons it from the front to the back. -/
import Derived.Test.YteaeobmbfhaklaaAmP
set_option linter.unusedSimpArgs false
set_option linter.unusedVariables false
namespace Go.AM
variable {P : Program}

/-! ### what is ahead: a pile of code -/
inductive Fr where
  | sq (b : SCode)
  | blk (i : Nat)

def ct (P : Program) (N : NM) : List Fr → QC → QC
  | [], Q => Q
  | .sq b :: fs, Q => fun e T h n => match e with
    | .normal => wpC P N b n T h (ct P N fs Q)
    | e => ct P N fs Q e T h n
  | .blk i :: fs, Q => fun e T h n => match e with
    | .exit j => if j = i then ct P N fs Q .normal T h n else ct P N fs Q (.exit j) T h n
    | e => ct P N fs Q e T h n

/-- Ahead of the code c. -/
def wS (P : Program) (N : NM) (c : SCode) (fs : List Fr) (n : Nat) (T : Tmps) (h : Heap) (Q : QC) : Prop := wpC P N c n T h (ct P N fs Q)
/-- Ahead of the operations of a region. -/
def wR (P : Program) (N : NM) (ops : List SOper) (dead : List Nat) (fs : List Fr) (n : Nat) (T : Tmps) (h : Heap) (Q : QC) : Prop := wpR P n ops T h fun T h n => ct P N fs Q .normal (rm T dead) h n
/-- Behind a piece of code. -/
def wX (P : Program) (N : NM) (e : SX) (fs : List Fr) (n : Nat) (T : Tmps) (h : Heap) (Q : QC) : Prop := ct P N fs Q e T h n
/-- An operation that gives a value, the blocks as they are. -/
def wO (P : Program) (N : NM) (o : Option AV) (d : Option Nat) (ops : List SOper) (dead : List Nat) (fs : List Fr) (n : Nat) (T : Tmps) (h : Heap) (Q : QC) : Prop :=
  ∃ v, o = some v ∧ wR P N ops dead fs (n + 1) (putD T d v) h Q
/-- One that gives a value and leaves other blocks. -/
def wM (P : Program) (N : NM) (m : HM AV) (d : Option Nat) (ops : List SOper) (dead : List Nat) (fs : List Fr) (n : Nat) (T : Tmps) (h : Heap) (Q : QC) : Prop :=
  ∃ v h1, m.run h = some (v, h1) ∧ wR P N ops dead fs (n + 1) (putD T d v) h1 Q
/-- A guarded one. -/
def wG (P : Program) (N : NM) (o : Option Bool) (d : Option Nat) (op : SOp) (ops : List SOper) (dead : List Nat) (fs : List Fr) (n : Nat) (T : Tmps) (h : Heap) (Q : QC) : Prop :=
  match o with
  | some true => wR P N (⟨d, op, [], none⟩ :: ops) dead fs n T h Q
  | some false => wR P N ops dead fs (n + 1) (putD T d (.tup [])) h Q
  | none => False
/-- A test. -/
def wC (P : Program) (N : NM) (x : AV) (a b : SCode) (fs : List Fr) (n : Nat) (T : Tmps) (h : Heap) (Q : QC) : Prop :=
  ∃ t, x = .bool t ∧ if t = true then wS P N a fs n T h Q else wS P N b fs n T h Q
/-- A call. -/
def wCall (P : Program) (N : NM) (m : CallM) (x : AV) (args : List AV) (d : Option Nat) (ops : List SOper) (dead : List Nat) (fs : List Fr) (n : Nat) (T : Tmps) (h : Heap) (Q : QC) : Prop :=
  match x with
  | .fn f a c => match m with
    | .pure => ∃ v, PSpec P f (a ++ args ++ c) v ∧ wR P N ops dead fs (n + 1) (putD T d v) h Q
    | .heap => ∃ v h1, HSpec P f (a ++ args ++ c) h v h1 ∧ wR P N ops dead fs (n + 1) (putD T d v) h1 Q
    | .borrow => ∃ as h1 v, (mapH (frzH 4) (a ++ args ++ c)).run h = some (as, h1) ∧ PSpec P f as v ∧ flatV v = true ∧ wR P N ops dead fs (n + 1) (putD T d v) h1 Q
  | _ => False

/-! ### code -/
section
variable {N : NM} {n : Nat} {T : Tmps} {h : Heap} {Q : QC} {fs : List Fr}
theorem wS_skip : wS P N .skip fs n T h Q = wX P N .normal fs n T h Q := rfl
theorem wS_ret : wS P N .ret fs n T h Q = wX P N .ret fs n T h Q := rfl
theorem wS_exit {i : Nat} : wS P N (.exit i) fs n T h Q = wX P N (.exit i) fs n T h Q := rfl
theorem wS_region {ops : List SOper} {dead : List Nat} : wS P N (.region ops [] dead) fs n T h Q = wR P N ops dead fs n T h Q := rfl
theorem wS_seq {a b : SCode} : wS P N (.seq a b) fs n T h Q = wS P N a (.sq b :: fs) n T h Q := rfl
theorem wS_cond {x : Opd} {a b : SCode} : wS P N (.cond x a b) fs n T h Q = wC P N (ev T x) a b fs n T h Q := rfl
theorem wS_block {i : Nat} {b : SCode} : wS P N (.block i b) fs n T h Q = wS P N b (.blk i :: fs) n T h Q := rfl
theorem wC_true {a b : SCode} : wC P N (.bool true) a b fs n T h Q = wS P N a fs n T h Q := by simp [wC]
theorem wC_false {a b : SCode} : wC P N (.bool false) a b fs n T h Q = wS P N b fs n T h Q := by simp [wC]
theorem wC_bool {t : Bool} {a b : SCode} : wC P N (.bool t) a b fs n T h Q = if t = true then wS P N a fs n T h Q else wS P N b fs n T h Q := by cases t <;> simp [wC]
theorem wX_nil {e : SX} : wX P N e [] n T h Q = Q e T h n := rfl
theorem wX_sq {b : SCode} : wX P N .normal (.sq b :: fs) n T h Q = wS P N b fs n T h Q := rfl
theorem wX_sq_ret {b : SCode} : wX P N .ret (.sq b :: fs) n T h Q = wX P N .ret fs n T h Q := rfl
theorem wX_sq_exit {b : SCode} {i : Nat} : wX P N (.exit i) (.sq b :: fs) n T h Q = wX P N (.exit i) fs n T h Q := rfl
theorem wX_blk {i : Nat} : wX P N .normal (.blk i :: fs) n T h Q = wX P N .normal fs n T h Q := rfl
theorem wX_blk_ret {i : Nat} : wX P N .ret (.blk i :: fs) n T h Q = wX P N .ret fs n T h Q := rfl
theorem wX_blk_exit {i j : Nat} : wX P N (.exit j) (.blk i :: fs) n T h Q = if j = i then wX P N .normal fs n T h Q else wX P N (.exit j) fs n T h Q := rfl
end

/-! ### slots -/
theorem ev_t (T : Tmps) (i : Nat) : ev T (.t i) = lk T i := rfl
theorem ev_c (T : Tmps) (v : AV) : ev T (.c v) = v := rfl
theorem ev_f (T : Tmps) (n : Nat) : ev T (.f n) = .fn n [] [] := rfl
theorem lk_nil (i : Nat) : lk [] i = .any := rfl
theorem lk_cons (j : Nat) (v : AV) (r : Tmps) (i : Nat) : lk ((j, v) :: r) i = if j = i then v else lk r i := by
  simp only [lk]; by_cases h : j = i
  · subst h; simp
  · have : Nat.beq j i = false := by rw [Bool.eq_false_iff]; simpa using h
    rw [this, if_neg h]; rfl
theorem up_cons (j : Nat) (u : AV) (r : Tmps) (i : Nat) (v : AV) : up ((j, u) :: r) i v = if j = i then (j, v) :: r else (j, u) :: up r i v := by
  simp only [up]; by_cases h : j = i
  · subst h; simp
  · have : Nat.beq j i = false := by rw [Bool.eq_false_iff]; simpa using h
    rw [this, if_neg h]; rfl
theorem up_nil (i : Nat) (v : AV) : up [] i v = [(i, v)] := rfl
theorem rm_nil (l : List Nat) : rm [] l = [] := rfl
theorem rm_no (T : Tmps) : rm T [] = T := by
  induction T with
  | nil => rfl
  | cons p T ih => obtain ⟨j, u⟩ := p; simp [rm, ih]
theorem rm_cons (j : Nat) (u : AV) (r : Tmps) (l : List Nat) : rm ((j, u) :: r) l = if l.elem j = true then rm r l else (j, u) :: rm r l := by
  simp only [rm]
  by_cases h : j ∈ l
  · have : l.any (Nat.beq j) = true := List.any_eq_true.2 ⟨j, h, by simp⟩
    rw [this, if_pos (by simpa using h)]; rfl
  · have : l.any (Nat.beq j) = false := by
      rw [Bool.eq_false_iff]; intro h'
      obtain ⟨x, hx, e⟩ := List.any_eq_true.1 h'
      have : j = x := by simpa using e
      exact h (this ▸ hx)
    rw [this, if_neg (by simpa using h)]; rfl
theorem putD_some (T : Tmps) (d : Nat) (v : AV) : putD T (some d) v = up T d v := rfl
theorem putD_none (T : Tmps) (v : AV) : putD T none v = T := rfl
theorem argT_nil (k : Nat) : argT k [] = [] := rfl
theorem argT_cons (k : Nat) (x : AV) (xs : List AV) : argT k (x :: xs) = (k, x) :: argT (k + 1) xs := rfl
theorem evs_nil (T : Tmps) : evs T [] = [] := rfl
theorem evs_cons (T : Tmps) (x : Opd) (r : List Opd) : evs T (x :: r) = ev T x :: evs T r := rfl
theorem evo_none (T : Tmps) : evo T none = none := rfl
theorem evo_some (T : Tmps) (x : Opd) : evo T (some x) = some (ev T x) := rfl
theorem evParts_nil (T : Tmps) : evParts T [] = [] := rfl
theorem evParts_cons (T : Tmps) (a b : Nat) (x : Opd) (r : List (Nat × Nat × Opd)) : evParts T ((a, b, x) :: r) = (a, b, ev T x) :: evParts T r := rfl

/-! ### steps -/
section
variable {N : NM} {n : Nat} {d : Option Nat} {af dead : List Nat} {r : List SOper} {T : Tmps} {h : Heap} {Q : QC} {fs : List Fr}

theorem wR_nil : wR P N [] dead fs n T h Q = wX P N .normal fs n (rm T dead) h Q := rfl

theorem wR_guard {op : SOp} {g : Nat} {w : Bool} : wR P N (⟨d, op, af, some (g, w)⟩ :: r) dead fs n T h Q = wG P N (wantedA (lk T g) w) d op r dead fs n T h Q := by
  apply propext
  unfold wG
  constructor
  · rintro ⟨v, h1, f, ⟨b, hw, hb⟩, hk⟩
    rw [hw]
    cases b with
    | true => rw [if_pos rfl] at hb; exact ⟨v, h1, f, hb, hk⟩
    | false =>
      rw [if_neg (by simp)] at hb
      obtain ⟨rfl, rfl, rfl⟩ := hb
      exact hk
  · intro hk
    cases hw : wantedA (lk T g) w with
    | none => rw [hw] at hk; exact hk.elim
    | some b =>
      rw [hw] at hk
      cases b with
      | true =>
        obtain ⟨v, h1, f, hs, hk⟩ := hk
        exact ⟨v, h1, f, ⟨true, hw, by rw [if_pos rfl]; exact hs⟩, hk⟩
      | false => exact ⟨.tup [], h, ⟨false, [], []⟩, ⟨false, hw, by simp⟩, hk⟩

theorem wG_bool {b w : Bool} {op : SOp} : wG P N (wantedA (.bool b) w) d op r dead fs n T h Q = if b = w then wR P N (⟨d, op, [], none⟩ :: r) dead fs n T h Q else wR P N r dead fs (n + 1) (putD T d (.tup [])) h Q := by
  cases b <;> cases w <;> simp [wG, wantedA]
theorem wG_skip {w : Bool} {op : SOp} : wG P N (wantedA (.tup []) w) d op r dead fs n T h Q = wR P N r dead fs (n + 1) (putD T d (.tup [])) h Q := by simp [wG, wantedA]

theorem wR_lift {op : SOp} {o : Option AV} (e : aop n T op = lift o) : wR P N (⟨d, op, af, none⟩ :: r) dead fs n T h Q = wO P N o d r dead fs n T h Q := by
  apply propext
  constructor
  · rintro ⟨v, h1, f, ⟨out, h2, hm, ho⟩, hk⟩
    rw [e] at hm
    obtain ⟨u, hu, he⟩ := run_lift hm
    cases he
    obtain ⟨rfl, rfl, _⟩ := ho
    exact ⟨_, hu, hk⟩
  · rintro ⟨v, hv, hk⟩
    refine ⟨v, h, _, ⟨.val v, h, ?_, rfl, rfl, rfl⟩, hk⟩
    rw [e, hv]; rfl

theorem run_hval' {v : AV} {h1 : Heap} : ∀ (m : HM AV) (h : Heap), m.run h = some (v, h1) → (hval m).run h = some (.val v, h1) := by
  intro m
  induction m with
  | ret a => intro h hm; simp only [HM.run, Option.some.injEq, Prod.mk.injEq] at hm; obtain ⟨rfl, rfl⟩ := hm; rfl
  | fail => intro h hm; simp [HM.run] at hm
  | look b k ih => intro h hm; exact ih _ h hm
  | put b x k ih =>
    intro h hm
    obtain ⟨hl, hm⟩ := run_put hm
    have := ih _ hm
    simp only [hval, HM.bind, HM.run]
    have hl' : Nat.blt b lim = true := by simp [Nat.blt]; omega
    rw [hl']; exact this

theorem wR_hval {op : SOp} {m : HM AV} (e : aop n T op = hval m) : wR P N (⟨d, op, af, none⟩ :: r) dead fs n T h Q = wM P N m d r dead fs n T h Q := by
  apply propext
  constructor
  · rintro ⟨v, h1, f, ⟨out, h2, hm, ho⟩, hk⟩
    rw [e] at hm
    obtain ⟨u, h3, hu, he⟩ := run_hval hm
    cases he
    obtain ⟨rfl, rfl, _⟩ := ho
    exact ⟨_, _, hu, hk⟩
  · rintro ⟨v, h1, hv, hk⟩
    exact ⟨v, h1, _, ⟨.val v, h1, by rw [e]; exact run_hval' m h hv, rfl, rfl, rfl⟩, hk⟩

theorem wR_mov {x : Opd} : wR P N (⟨d, .mov x, af, none⟩ :: r) dead fs n T h Q = wR P N r dead fs (n + 1) (putD T d (ev T x)) h Q := by
  rw [wR_lift (o := some (ev T x)) rfl]; simp [wO]
theorem wR_mkfn {f : Nat} {xs ys : List Opd} : wR P N (⟨d, .mkfn f xs ys, af, none⟩ :: r) dead fs n T h Q = wR P N r dead fs (n + 1) (putD T d (.fn f (evs T xs) (evs T ys))) h Q := by
  rw [wR_lift (o := some (.fn f (evs T xs) (evs T ys))) rfl]; simp [wO]
theorem wR_pick {c a b : Opd} : wR P N (⟨d, .pick c a b, af, none⟩ :: r) dead fs n T h Q = wO P N (aPick (ev T c) (ev T a) (ev T b)) d r dead fs n T h Q := wR_lift rfl
theorem wR_build {z : List AV} {ps : List (Nat × Nat × Opd)} : wR P N (⟨d, .build z ps, af, none⟩ :: r) dead fs n T h Q = wO P N (aBuild z (evParts T ps)) d r dead fs n T h Q := wR_lift rfl
theorem wR_nilchk {x : Opd} : wR P N (⟨d, .nilchk x, af, none⟩ :: r) dead fs n T h Q = wO P N (aNil (ev T x)) d r dead fs n T h Q := wR_lift rfl
theorem wR_bin {op : BinOp} {x y : Opd} : wR P N (⟨d, .bin op x y, af, none⟩ :: r) dead fs n T h Q = wO P N (aBin op (ev T x) (ev T y)) d r dead fs n T h Q := wR_lift rfl
theorem wR_eq {k : EqK} {neg : Bool} {x y : Opd} : wR P N (⟨d, .eq k neg x y, af, none⟩ :: r) dead fs n T h Q = wO P N (aEq k neg (ev T x) (ev T y)) d r dead fs n T h Q := wR_lift rfl
theorem wR_un {op : UnOp} {x : Opd} : wR P N (⟨d, .un op x, af, none⟩ :: r) dead fs n T h Q = wO P N (aUn op (ev T x)) d r dead fs n T h Q := wR_lift rfl
theorem wR_conv {k : IntKind} {x : Opd} : wR P N (⟨d, .conv k x, af, none⟩ :: r) dead fs n T h Q = wO P N (aConv k (ev T x)) d r dead fs n T h Q := wR_lift rfl
theorem wR_convS {x : Opd} : wR P N (⟨d, .convS x, af, none⟩ :: r) dead fs n T h Q = wO P N (aConvS (ev T x)) d r dead fs n T h Q := wR_lift rfl
theorem wR_convB {x : Opd} : wR P N (⟨d, .convB x, af, none⟩ :: r) dead fs n T h Q = wM P N (aConvB (ev T x)) d r dead fs n T h Q := wR_hval rfl
theorem wR_ext {k f : Nat} {xs : List Opd} : wR P N (⟨d, .ext k f xs, af, none⟩ :: r) dead fs n T h Q = wO P N (aExt k (evs T xs)) d r dead fs n T h Q := wR_lift rfl
theorem wR_slice {sz : Option Nat} {x : Opd} {l hh m : Option Opd} : wR P N (⟨d, .slice sz x l hh m, af, none⟩ :: r) dead fs n T h Q = wO P N (aSliceC sz (ev T x) (evo T l) (evo T hh) (evo T m)) d r dead fs n T h Q := wR_lift rfl
theorem wR_faddr {o : Nat} {x : Opd} : wR P N (⟨d, .faddr o x, af, none⟩ :: r) dead fs n T h Q = wO P N (aFAddr o (ev T x)) d r dead fs n T h Q := wR_lift rfl
theorem wR_field {k : Option Nat} {o : Nat} {x : Opd} : wR P N (⟨d, .field k o x, af, none⟩ :: r) dead fs n T h Q = wO P N (aField k o (ev T x)) d r dead fs n T h Q := wR_lift rfl
theorem wR_iaddr {a : Option Nat} {sz : Nat} {x j : Opd} : wR P N (⟨d, .iaddr a sz x j, af, none⟩ :: r) dead fs n T h Q = wO P N (aIAddr a sz (ev T x) (ev T j)) d r dead fs n T h Q := wR_lift rfl
theorem wR_index {a : Option (Nat × Nat × Bool)} {x j : Opd} : wR P N (⟨d, .index a x j, af, none⟩ :: r) dead fs n T h Q = wO P N (aIndex a (ev T x) (ev T j)) d r dead fs n T h Q := wR_lift rfl
theorem wR_extract {j : Nat} {x : Opd} : wR P N (⟨d, .extract j x, af, none⟩ :: r) dead fs n T h Q = wO P N (aExtract j (ev T x)) d r dead fs n T h Q := wR_lift rfl
theorem wR_maxmin {mn : Bool} {xs : List Opd} : wR P N (⟨d, .maxmin mn xs, af, none⟩ :: r) dead fs n T h Q = wO P N (aMax mn (evs T xs)) d r dead fs n T h Q := wR_lift rfl
theorem wR_alloc {s : Site} {z : AV} : wR P N (⟨d, .alloc s z, af, none⟩ :: r) dead fs n T h Q = wM P N (aBox s n z) d r dead fs n T h Q := wR_hval rfl
theorem wR_box {s : Site} {x : Opd} : wR P N (⟨d, .box s x, af, none⟩ :: r) dead fs n T h Q = wM P N (aBox s n (ev T x)) d r dead fs n T h Q := wR_hval rfl
theorem wR_bslice {fz : Bool} {s : Site} {sz len : Nat} {z : List AV} {ps : List (Nat × Nat × Opd)} : wR P N (⟨d, .bslice fz s sz len z ps, af, none⟩ :: r) dead fs n T h Q = wM P N (aBuildSlice fz s n sz len z (evParts T ps)) d r dead fs n T h Q := wR_hval rfl
theorem wR_load {k : Option Nat} {x : Opd} : wR P N (⟨d, .load k x, af, none⟩ :: r) dead fs n T h Q = wM P N (aLoad k (ev T x)) d r dead fs n T h Q := wR_hval rfl
theorem wR_store {k : Nat} {x v : Opd} : wR P N (⟨d, .store k x v, af, none⟩ :: r) dead fs n T h Q = wM P N (aStore k (ev T x) (ev T v)) d r dead fs n T h Q := wR_hval rfl
theorem wR_mkmap {s : Site} : wR P N (⟨d, .mkmap s, af, none⟩ :: r) dead fs n T h Q = wM P N (aMakeMap s n) d r dead fs n T h Q := wR_hval rfl
theorem wR_mkslice {s : Site} {sz b : Nat} {z : List AV} {l c : Opd} : wR P N (⟨d, .mkslice s sz b z l c, af, none⟩ :: r) dead fs n T h Q = wM P N (aMakeSlice s n sz b z (ev T l) (ev T c)) d r dead fs n T h Q := wR_hval rfl
theorem wR_lookup {row : Bool} {ks : List LK} {z : AV} {ok : Bool} {x k : Opd} : wR P N (⟨d, .lookup row ks z ok x k, af, none⟩ :: r) dead fs n T h Q = wM P N (aLookup row ks z ok (ev T x) (ev T k)) d r dead fs n T h Q := wR_hval rfl
theorem wR_mupd {row : Bool} {ks : List LK} {x k v : Opd} : wR P N (⟨d, .mupd row ks x k v, af, none⟩ :: r) dead fs n T h Q = wM P N (aMapUpd row ks (ev T x) (ev T k) (ev T v)) d r dead fs n T h Q := wR_hval rfl
theorem wR_len {k : Nat} {x : Opd} : wR P N (⟨d, .len k x, af, none⟩ :: r) dead fs n T h Q = wM P N (aLenC k (ev T x)) d r dead fs n T h Q := wR_hval rfl
theorem wR_append {s : Site} {sz b : Nat} {x y : Opd} : wR P N (⟨d, .append s sz b x y, af, none⟩ :: r) dead fs n T h Q = wM P N (aAppend s n sz b (ev T x) (ev T y)) d r dead fs n T h Q := wR_hval rfl
theorem wR_copy {sz : Nat} {x y : Opd} : wR P N (⟨d, .copy sz x y, af, none⟩ :: r) dead fs n T h Q = wM P N (aCopy sz (ev T x) (ev T y)) d r dead fs n T h Q := wR_hval rfl

theorem wR_call {m : CallM} {x : Opd} {args : List Opd} : wR P N (⟨d, .call m x args, af, none⟩ :: r) dead fs n T h Q = wCall P N m (ev T x) (evs T args) d r dead fs n T h Q := by
  apply propext
  have e : aop n T (.call m x args) = aCall m (ev T x) (evs T args) := rfl
  constructor
  · rintro ⟨v, h1, f, ⟨out, h2, hm, ho⟩, hk⟩
    rw [e] at hm
    unfold aCall at hm
    unfold wCall
    cases hx : ev T x <;> rw [hx] at hm <;> first | (simp [HM.run] at hm; done) | skip
    simp only at hm
    rename_i g a c
    cases m
    · simp only [HM.run, Option.some.injEq, Prod.mk.injEq] at hm
      obtain ⟨rfl, rfl⟩ := hm
      exact ⟨_, _, ho.1, hk⟩
    · simp only [HM.run, Option.some.injEq, Prod.mk.injEq] at hm
      obtain ⟨rfl, rfl⟩ := hm
      obtain ⟨hp, rfl, _⟩ := ho
      exact ⟨_, hp, hk⟩
    · obtain ⟨as, h3, k1, k2⟩ := run_bind hm
      simp only [HM.run, Option.some.injEq, Prod.mk.injEq] at k2
      obtain ⟨rfl, rfl⟩ := k2
      obtain ⟨hp, hf, rfl, _⟩ := ho
      exact ⟨_, _, _, k1, hp, hf, hk⟩
  · intro hk
    unfold wCall at hk
    cases hx : ev T x <;> rw [hx] at hk <;> first | exact hk.elim | skip
    rename_i g a c
    cases m
    · obtain ⟨v, h1, hs, hk⟩ := hk
      exact ⟨v, h1, _, ⟨.call .heap g (a ++ evs T args ++ c), h, by rw [e, hx]; rfl, hs, rfl⟩, hk⟩
    · obtain ⟨v, hs, hk⟩ := hk
      exact ⟨v, h, _, ⟨.call .pure g (a ++ evs T args ++ c), h, by rw [e, hx]; rfl, hs, rfl, rfl⟩, hk⟩
    · obtain ⟨as, h1, v, hm, hs, hf, hk⟩ := hk
      refine ⟨v, h1, _, ⟨.call .borrow g as, h1, ?_, hs, hf, rfl, rfl⟩, hk⟩
      rw [e, hx]
      have : ∀ (m : HM (List AV)) (h : Heap) (k : List AV → AOut), m.run h = some (as, h1) → (m.bind fun as => .ret (k as)).run h = some (k as, h1) := by
        intro m
        induction m with
        | ret a => intro h k hm; simp only [HM.run, Option.some.injEq, Prod.mk.injEq] at hm; obtain ⟨rfl, rfl⟩ := hm; rfl
        | fail => intro h k hm; simp [HM.run] at hm
        | look b k' ih => intro h k hm; exact ih _ h k hm
        | put b x k' ih =>
          intro h k hm
          obtain ⟨hl, hm⟩ := run_put hm
          have := ih _ k hm
          simp only [HM.bind, HM.run]
          have hl' : Nat.blt b lim = true := by simp [Nat.blt]; omega
          rw [hl']; exact this
      exact this _ h (fun as => .call .borrow g as) hm

/-! ### values -/
theorem wO_some {v : AV} : wO P N (some v) d r dead fs n T h Q = wR P N r dead fs (n + 1) (putD T d v) h Q := by simp [wO]
theorem wO_none : wO P N none d r dead fs n T h Q = False := by simp [wO]
theorem wO_pos {c : Prop} [Decidable c] {a b : Option AV} (hc : c) : wO P N (if c then a else b) d r dead fs n T h Q = wO P N a d r dead fs n T h Q := by rw [if_pos hc]
theorem wO_neg {c : Prop} [Decidable c] {a b : Option AV} (hc : ¬ c) : wO P N (if c then a else b) d r dead fs n T h Q = wO P N b d r dead fs n T h Q := by rw [if_neg hc]
theorem wO_ite {c : Prop} [Decidable c] {a : Option AV} : wO P N (if c then a else none) d r dead fs n T h Q = (c ∧ wO P N a d r dead fs n T h Q) := by by_cases hc : c <;> simp [hc, wO_none]
theorem wO_ite' {c : Prop} [Decidable c] {a : Option AV} : wO P N (if c then none else a) d r dead fs n T h Q = (¬ c ∧ wO P N a d r dead fs n T h Q) := by by_cases hc : c <;> simp [hc, wO_none]

/-! ### calls -/
theorem call_pure {f : Nat} {a c args : List AV} {v : AV} (hp : PSpec P f (a ++ args ++ c) v) (k : wR P N r dead fs (n + 1) (putD T d v) h Q) : wCall P N .pure (.fn f a c) args d r dead fs n T h Q := ⟨v, hp, k⟩
theorem cp {f : Nat} {args : List AV} {v : AV} (hp : PSpec P f args v) (k : wR P N r dead fs (n + 1) (putD T d v) h Q) : wCall P N .pure (.fn f [] []) args d r dead fs n T h Q := ⟨v, by simpa using hp, k⟩
theorem ch {f : Nat} {args : List AV} {v : AV} {h1 : Heap} (hp : HSpec P f args h v h1) (k : wR P N r dead fs (n + 1) (putD T d v) h1 Q) : wCall P N .heap (.fn f [] []) args d r dead fs n T h Q := ⟨v, h1, by simpa using hp, k⟩
theorem call_heap {f : Nat} {a c args : List AV} {v : AV} {h1 : Heap} (hp : HSpec P f (a ++ args ++ c) h v h1) (k : wR P N r dead fs (n + 1) (putD T d v) h1 Q) : wCall P N .heap (.fn f a c) args d r dead fs n T h Q := ⟨v, h1, hp, k⟩
theorem call_borrow {f : Nat} {a c args as : List AV} {v : AV} (hm : (mapH (frzH 4) (a ++ args ++ c)).run h = some (as, h)) (hp : PSpec P f as v) (hf : flatV v = true) (k : wR P N r dead fs (n + 1) (putD T d v) h Q) :
    wCall P N .borrow (.fn f a c) args d r dead fs n T h Q := ⟨as, h, v, hm, hp, hf, k⟩

/-! ### memory -/
def ldB (o : Option Blk) (g off : Nat) (m : Option Nat) : Option AV :=
  match o with
  | some (.cells g' cs) => if g' = g then (match m with | none => cs[off]? | some m => if off + m ≤ cs.length then some (.agg ((cs.drop off).take m)) else none) else none
  | _ => none
def stB (o : Option Blk) (g off m : Nat) (v : AV) : Option Blk :=
  match o with
  | some (.cells g' cs) => if g' = g ∧ v.cells.length = m ∧ off + m ≤ cs.length ∧ v.cells.all AV.one = true then some (.cells g (putR cs off v.cells)) else none
  | _ => none
/-- A block replaced. -/
def wB (P : Program) (N : NM) (o : Option Blk) (b : Nat) (v : AV) (d : Option Nat) (ops : List SOper) (dead : List Nat) (fs : List Fr) (n : Nat) (T : Tmps) (h : Heap) (Q : QC) : Prop :=
  ∃ x, o = some x ∧ b < lim ∧ wR P N ops dead fs (n + 1) (putD T d v) (h.set b x) Q
/-- A new block. -/
def wN (P : Program) (N : NM) (x : List AV) (v : AV) (d : Option Nat) (ops : List SOper) (dead : List Nat) (fs : List Fr) (n : Nat) (T : Tmps) (h : Heap) (Q : QC) : Prop :=
  h.get n = none ∧ n < lim ∧ wR P N ops dead fs (n + 1) (putD T d v) (h.set n (.cells 0 x)) Q

theorem wM_ret {v : AV} : wM P N (.ret v) d r dead fs n T h Q = wR P N r dead fs (n + 1) (putD T d v) h Q := by
  apply propext; constructor
  · rintro ⟨v', h1, hm, k⟩; simp only [HM.run, Option.some.injEq, Prod.mk.injEq] at hm; obtain ⟨rfl, rfl⟩ := hm; exact k
  · intro k; exact ⟨v, h, rfl, k⟩
theorem wM_fail : wM P N .fail d r dead fs n T h Q = False := by simp [wM, HM.run]
theorem wM_opt {o : Option AV} : wM P N (.opt o) d r dead fs n T h Q = wO P N o d r dead fs n T h Q := by
  cases o with
  | none => simp [HM.opt, wM_fail, wO_none]
  | some v => simp [HM.opt, wM_ret, wO_some]
theorem wM_ite {c : Prop} [Decidable c] {m : HM AV} : wM P N (if c then m else .fail) d r dead fs n T h Q = (c ∧ wM P N m d r dead fs n T h Q) := by
  by_cases hc : c <;> simp [hc, wM_fail]
theorem wM_put {b : Nat} {x : Blk} {v : AV} : wM P N (.put b x (.ret v)) d r dead fs n T h Q = wB P N (some x) b v d r dead fs n T h Q := by
  apply propext; constructor
  · rintro ⟨v', h1, hm, k⟩
    obtain ⟨hl, hm⟩ := run_put hm
    simp only [HM.run, Option.some.injEq, Prod.mk.injEq] at hm
    obtain ⟨rfl, rfl⟩ := hm
    exact ⟨x, rfl, hl, k⟩
  · rintro ⟨x', hx, hl, k⟩
    cases hx
    refine ⟨v, _, ?_, k⟩
    simp only [HM.run]
    have hl' : Nat.blt b lim = true := by simp [Nat.blt]; omega
    rw [hl']; rfl
theorem wB_some {x : Blk} {b : Nat} {v : AV} (hl : b < lim) : wB P N (some x) b v d r dead fs n T h Q = wR P N r dead fs (n + 1) (putD T d v) (h.set b x) Q := by simp [wB, hl]
theorem wB_none {b : Nat} {v : AV} : wB P N none b v d r dead fs n T h Q = False := by simp [wB]
theorem wM_cells {b g : Nat} {k : List AV → HM AV} : wM P N (.cells b g k) d r dead fs n T h Q = ∃ cs, h.get b = some (.cells g cs) ∧ wM P N (k cs) d r dead fs n T h Q := by
  apply propext; constructor
  · rintro ⟨v', h1, hm, hk⟩
    obtain ⟨cs, hb, hm⟩ := run_cells hm
    exact ⟨cs, hb, v', h1, hm, hk⟩
  · rintro ⟨cs, hb, v', h1, hm, hk⟩
    refine ⟨v', h1, ?_, hk⟩
    unfold HM.cells
    simp only [HM.run, hb]
    have : Nat.beq g g = true := by simp
    rw [this]; exact hm

theorem ldB_some1 {g g' off : Nat} {cs : List AV} : ldB (some (.cells g' cs)) g off none = if g' = g then cs[off]? else none := rfl
theorem ldB_someN {g g' off m : Nat} {cs : List AV} : ldB (some (.cells g' cs)) g off (some m) = if g' = g then (if off + m ≤ cs.length then some (.agg ((cs.drop off).take m)) else none) else none := rfl
theorem aLoad_ptr {m : Option Nat} {b g off : Nat} : wM P N (aLoad m (.ptr b g off)) d r dead fs n T h Q = wO P N (ldB (h.get b) g off m) d r dead fs n T h Q := by
  simp only [aLoad, wM_cells]
  apply propext; constructor
  · rintro ⟨cs, hb, hk⟩
    rw [hb]
    cases m with
    | none => simpa [ldB, wM_opt] using hk
    | some m =>
      simp only [wM_ite, wM_ret] at hk
      simp only [ldB, if_true]
      rw [wO_pos hk.1, wO_some]; exact hk.2
  · rintro ⟨v, hv, hk⟩
    unfold ldB at hv
    split at hv
    · rename_i g' cs hb
      split at hv
      · rename_i e
        subst e
        refine ⟨cs, hb, ?_⟩
        cases m with
        | none => simp only at hv; simp only [wM_opt, hv, wO_some]; exact hk
        | some m =>
          simp only at hv
          split at hv
          · rename_i hl
            cases hv
            simp only [wM_ite, wM_ret]
            exact ⟨hl, hk⟩
          · cases hv
      · cases hv
    · cases hv
theorem aLoad_fptr1 {cs : List AV} : wM P N (aLoad none (.fptr cs)) d r dead fs n T h Q = wO P N cs.head? d r dead fs n T h Q := by simp only [aLoad, wM_opt]
theorem aLoad_fptrN {m : Nat} {cs : List AV} : wM P N (aLoad (some m) (.fptr cs)) d r dead fs n T h Q = wO P N (if m ≤ cs.length then some (.agg (cs.take m)) else none) d r dead fs n T h Q := by
  simp only [aLoad, wM_ite, wM_ret, wO_ite, wO_some]
theorem stB_some {g g' off m : Nat} {cs : List AV} {v : AV} : stB (some (.cells g' cs)) g off m v = if g' = g ∧ v.cells.length = m ∧ off + m ≤ cs.length ∧ v.cells.all AV.one = true then some (.cells g (putR cs off v.cells)) else none := rfl
theorem aStore_ptr {m b g off : Nat} {v : AV} : wM P N (aStore m (.ptr b g off) v) d r dead fs n T h Q = wB P N (stB (h.get b) g off m v) b .any d r dead fs n T h Q := by
  simp only [aStore, wM_cells]
  apply propext; constructor
  · rintro ⟨cs, hb, hk⟩
    simp only [wM_ite, wM_put] at hk
    rw [hb, stB_some, if_pos ⟨rfl, hk.1⟩]
    exact hk.2
  · rintro ⟨x, hx, hl, hk⟩
    unfold stB at hx
    split at hx
    · rename_i g' cs hb
      split at hx
      · rename_i e
        obtain ⟨rfl, e⟩ := e
        cases hx
        refine ⟨cs, hb, ?_⟩
        simp only [wM_ite, wM_put]
        exact ⟨e, _, rfl, hl, hk⟩
      · cases hx
    · cases hx
theorem aBox_dyn {x : AV} (hx : x.boxable = true) : wM P N (aBox .dyn n x) d r dead fs n T h Q = wN P N x.cells (.ptr n 0 0) d r dead fs n T h Q := by
  simp only [aBox, if_pos hx]
  apply propext; constructor
  · rintro ⟨v', h1, hm, hk⟩
    unfold HM.new at hm
    simp only [HM.run] at hm
    cases hn : h.get n with
    | none =>
      rw [hn] at hm
      obtain ⟨hl, hm⟩ := run_put hm
      simp only [HM.run, Option.some.injEq, Prod.mk.injEq] at hm
      obtain ⟨rfl, rfl⟩ := hm
      exact ⟨hn, hl, hk⟩
    | some z => rw [hn] at hm; cases hm
  · rintro ⟨hn, hl, hk⟩
    refine ⟨_, _, ?_, hk⟩
    unfold HM.new
    simp only [HM.run, hn]
    have hl' : Nat.blt n lim = true := by simp [Nat.blt]; omega
    rw [hl']; rfl
theorem wN_new {x : List AV} {v : AV} (hn : h.get n = none) (hl : n < lim) : wN P N x v d r dead fs n T h Q = wR P N r dead fs (n + 1) (putD T d v) (h.set n (.cells 0 x)) Q := by simp [wN, hn, hl]
theorem aLenC_str {s : List UInt8} : wM P N (aLenC 0 (.str s)) d r dead fs n T h Q = wR P N r dead fs (n + 1) (putD T d (.int .i64 s.length)) h Q := by simp [aLenC, lenKind, aLen, wM_ret]
theorem aLenC_sl {b g off len sz : Nat} : wM P N (aLenC 1 (.sl b g off len sz)) d r dead fs n T h Q = wR P N r dead fs (n + 1) (putD T d (.int .i64 len)) h Q := by simp [aLenC, lenKind, aLen, wM_ret]
theorem aLenC_fsl {cs : List AV} {len sz : Nat} : wM P N (aLenC 1 (.fsl cs len sz)) d r dead fs n T h Q = wR P N r dead fs (n + 1) (putD T d (.int .i64 len)) h Q := by simp [aLenC, lenKind, aLen, wM_ret]
theorem aLenC_nilsl : wM P N (aLenC 1 .nilsl) d r dead fs n T h Q = wR P N r dead fs (n + 1) (putD T d (.int .i64 0)) h Q := by simp [aLenC, lenKind, aLen, wM_ret]
theorem aLenC_esl : wM P N (aLenC 1 .esl) d r dead fs n T h Q = wR P N r dead fs (n + 1) (putD T d (.int .i64 0)) h Q := by simp [aLenC, lenKind, aLen, wM_ret]
end

/-! ### reckoning -/
section
variable {k : IntKind} {a b : Int}
theorem aBin_add : aBin .add (.int k a) (.int k b) = some (.int k (wr k (a + b))) := by simp [aBin]
theorem aBin_sub : aBin .sub (.int k a) (.int k b) = some (.int k (wr k (a - b))) := by simp [aBin]
theorem aBin_mul : aBin .mul (.int k a) (.int k b) = some (.int k (wr k (a * b))) := by simp [aBin]
theorem aBin_quo : aBin .quo (.int k a) (.int k b) = if b = 0 then none else some (.int k (wr k (a.tdiv b))) := by simp [aBin]
theorem aBin_rem : aBin .rem (.int k a) (.int k b) = if b = 0 then none else some (.int k (a.tmod b)) := by simp [aBin]
theorem aBin_eql : aBin .eql (.int k a) (.int k b) = some (.bool (decide (a = b))) := by simp [aBin]
theorem aBin_neq : aBin .neq (.int k a) (.int k b) = some (.bool (!decide (a = b))) := by simp [aBin]
theorem aBin_lss : aBin .lss (.int k a) (.int k b) = some (.bool (decide (a < b))) := by simp [aBin]
theorem aBin_leq : aBin .leq (.int k a) (.int k b) = some (.bool (decide (a ≤ b))) := by simp [aBin]
theorem aBin_gtr : aBin .gtr (.int k a) (.int k b) = some (.bool (decide (b < a))) := by simp [aBin]
theorem aBin_geq : aBin .geq (.int k a) (.int k b) = some (.bool (decide (b ≤ a))) := by simp [aBin]
theorem aUn_not {b : Bool} : aUn .not (.bool b) = some (.bool (!b)) := rfl
theorem aUn_neg : aUn .neg (.int k a) = some (.int k (wr k (0 - a))) := rfl
theorem aConv_int {k' : IntKind} : aConv k (.int k' a) = some (.int k (wr k a)) := rfl
theorem aPick_bool {t : Bool} {x y : AV} : aPick (.bool t) x y = some (if t then x else y) := rfl
theorem aPick_true {x y : AV} : aPick (.bool true) x y = some x := rfl
theorem aPick_false {x y : AV} : aPick (.bool false) x y = some y := rfl
theorem aExtract_tup {j : Nat} {vs : List AV} : aExtract j (.tup vs) = vs[j]? := rfl
theorem get_zero {v : AV} {vs : List AV} : (v :: vs)[0]? = some v := rfl
theorem get_succ {v : AV} {vs : List AV} {j : Nat} : (v :: vs)[j + 1]? = vs[j]? := rfl
theorem wr_i64 {n : Int} (h1 : -9223372036854775808 ≤ n) (h2 : n ≤ 9223372036854775807) : wr .i64 n = n := wr_of h1 h2
theorem wr_u64 {n : Int} (h1 : 0 ≤ n) (h2 : n ≤ 18446744073709551615) : wr .u64 n = n := wr_of h1 h2
theorem wr_u8 {n : Int} (h1 : 0 ≤ n) (h2 : n ≤ 255) : wr .u8 n = n := wr_of h1 h2
theorem wr_u16 {n : Int} (h1 : 0 ≤ n) (h2 : n ≤ 65535) : wr .u16 n = n := wr_of h1 h2
theorem wr_u32 {n : Int} (h1 : 0 ≤ n) (h2 : n ≤ 4294967295) : wr .u32 n = n := wr_of h1 h2
theorem wr_i32 {n : Int} (h1 : -2147483648 ≤ n) (h2 : n ≤ 2147483647) : wr .i32 n = n := wr_of h1 h2
theorem aIAddr_fsl {sz len s : Nat} {cs : List AV} : aIAddr none sz (.fsl cs len s) (.int k a) = if 0 ≤ a ∧ a < len ∧ s = sz then some (.fptr (cs.drop (a.toNat * sz))) else none := rfl
theorem aIAddr_sl {sz len s b g off : Nat} : aIAddr none sz (.sl b g off len s) (.int k a) = if 0 ≤ a ∧ a < len ∧ s = sz then some (.ptr b g (off + a.toNat * sz)) else none := rfl
theorem aIAddr_ptr {m sz b g off : Nat} : aIAddr (some m) sz (.ptr b g off) (.int k a) = if 0 ≤ a ∧ a < m then some (.ptr b g (off + a.toNat * sz)) else none := rfl
theorem aIAddr_fptr {m sz : Nat} {cs : List AV} : aIAddr (some m) sz (.fptr cs) (.int k a) = if 0 ≤ a ∧ a < m then some (.fptr (cs.drop (a.toNat * sz))) else none := rfl
theorem aFAddr_ptr {o off b g : Nat} : aFAddr off (.ptr b g o) = some (.ptr b g (o + off)) := rfl
theorem aFAddr_fptr {off : Nat} {cs : List AV} : aFAddr off (.fptr cs) = some (.fptr (cs.drop off)) := rfl
theorem aIndex_arr {m sz : Nat} {cs : List AV} : aIndex (some (m, sz, false)) (.agg cs) (.int k a) = if 0 ≤ a ∧ a < m then cs[a.toNat * sz]? else none := by simp [aIndex]
theorem aIndex_rows {m sz : Nat} {cs : List AV} : aIndex (some (m, sz, true)) (.agg cs) (.int k a) = if 0 ≤ a ∧ a < m then (if a.toNat * sz + sz ≤ cs.length then some (.agg ((cs.drop (a.toNat * sz)).take sz)) else none) else none := by simp [aIndex]
theorem aField_none {off : Nat} {cs : List AV} : aField none off (.agg cs) = cs[off]? := rfl
theorem aField_some {m off : Nat} {cs : List AV} : aField (some m) off (.agg cs) = if off + m ≤ cs.length then some (.agg ((cs.drop off).take m)) else none := rfl
end

/-! ### what is known may be forgotten -/
/-- The slots of L are slots of T. -/
def Sub (L T : Tmps) : Prop := ∀ i, lk L i = .any ∨ lk L i = lk T i
theorem Sub.nil {T : Tmps} : Sub [] T := fun _ => .inl rfl
theorem Sub.cons {T L : Tmps} {j : Nat} {v : AV} (hv : lk T j = v) (h : Sub L T) : Sub ((j, v) :: L) T := by
  intro i
  rw [lk_cons]
  split
  · rename_i e; subst e; exact .inr hv.symm
  · exact h i
theorem Sub.of_eq {L T : Tmps} (h : ∀ i, lk L i = lk T i) : Sub L T := fun i => .inr (h i)
theorem Sub_nil {T : Tmps} : Sub [] T = True := eq_true Sub.nil

theorem W2.weak {N : NM} {c : SCode} {Q : SX → St → Prop} {T L : Tmps} {h : Heap} (hT : Sub L T) (hw : W2 P N c Q ⟨L, h⟩) : W2 P N c Q ⟨T, h⟩ := by
  intro code hok ctx a w S Q' hQ
  refine hw code hok ctx a w ⟨S.heap, fun i => ?_, S.size, S.defers⟩ Q' hQ
  rcases hT i with e | e
  · show VRel ctx w (lk L i) _
    rw [e]; simp [VRel]
  · show VRel ctx w (lk L i) _
    rw [e]; exact S.tmps i

/-- Behind a round. -/
def loopQ (P : Program) (N : NM) {α : Type} (env : α → Tmps) (H : α → Heap → Nat → Prop) (μ : α → Nat) (a : α) (fs : List Fr) (Q : QC) : QC := fun e T h n =>
  match e with
  | .normal => ∃ a', μ a' < μ a ∧ Sub (env a') T ∧ H a' h n
  | e => wX P N e fs n T h Q
section
variable {N : NM} {n : Nat} {T : Tmps} {h : Heap} {Q : QC} {fs : List Fr} {α : Type} {env : α → Tmps} {H : α → Heap → Nat → Prop} {μ : α → Nat} {a : α}
theorem loopQ_normal : loopQ P N env H μ a fs Q .normal T h n = ∃ a', μ a' < μ a ∧ Sub (env a') T ∧ H a' h n := rfl
theorem loopQ_exit {i : Nat} : loopQ P N env H μ a fs Q (.exit i) T h n = wX P N (.exit i) fs n T h Q := rfl
theorem loopQ_ret : loopQ P N env H μ a fs Q .ret T h n = wX P N .ret fs n T h Q := rfl
end

/-- A LOOP: the heads of its rounds are env a, with blocks as H a says; μ goes down. -/
theorem wS_loop {N : NM} {n : Nat} {T : Tmps} {h : Heap} {Q : QC} {fs : List Fr} {b : SCode} {α : Type} (env : α → Tmps) (H : α → Heap → Nat → Prop) (μ : α → Nat) (a0 : α)
    (hT : Sub (env a0) T) (hH : H a0 h n) (round : ∀ a h n, H a h n → wS P N b [] n (env a) h (loopQ P N env H μ a fs Q)) : wS P N (.loop b) fs n T h Q := by
  show W2 P N (.loop b) (fun e B => ∃ n, ct P N fs Q e B.T B.h n) ⟨T, h⟩
  refine W2.loop (fun m B => ∃ a n, μ a = m ∧ Sub (env a) B.T ∧ H a B.h n) (μ a0) ⟨a0, n, rfl, hT, hH⟩ ?_
  rintro m B ⟨a, n', rfl, hS, hh⟩
  refine W2.weak hS ((wpC.toW (round a B.h n' hh)).mono ?_)
  rintro e C ⟨n2, hq⟩
  cases e with
  | normal =>
    obtain ⟨a', h1, h2, h3⟩ := hq
    exact ⟨μ a', h1, a', n2, rfl, h2, h3⟩
  | exit i => exact ⟨n2, hq⟩
  | ret => exact ⟨n2, hq⟩

/-! ### a loop, round by round -/
/-- From the head of a round on. -/
def wLp (P : Program) (N : NM) (b : SCode) (fs : List Fr) (n : Nat) (T : Tmps) (h : Heap) (Q : QC) : Prop := WL2 P N b (fun e B => ∃ n, ct P N fs Q e B.T B.h n) ⟨T, h⟩
def unQ (P : Program) (N : NM) (b : SCode) (fs : List Fr) (Q : QC) : QC := fun e T h n =>
  match e with
  | .normal => wLp P N b fs n T h Q
  | e => wX P N e fs n T h Q
section
variable {N : NM} {n : Nat} {T : Tmps} {h : Heap} {Q : QC} {fs : List Fr} {b : SCode}
theorem unQ_normal : unQ P N b fs Q .normal T h n = wLp P N b fs n T h Q := rfl
theorem unQ_exit {i : Nat} : unQ P N b fs Q (.exit i) T h n = wX P N (.exit i) fs n T h Q := rfl
theorem unQ_ret : unQ P N b fs Q .ret T h n = wX P N .ret fs n T h Q := rfl
theorem wS_unroll (hw : wLp P N b fs n T h Q) : wS P N (.loop b) fs n T h Q := WL2.loop hw
theorem wLp_round (hw : wS P N b [] n T h (unQ P N b fs Q)) : wLp P N b fs n T h Q := by
  refine WL2.round ((wpC.toW hw).mono ?_)
  rintro e B ⟨m, hq⟩
  cases e with
  | normal => exact hq
  | exit i => exact ⟨m, hq⟩
  | ret => exact ⟨m, hq⟩
end

/-- The walk of a whole body, for a function of values alone. -/
theorem PSpec.of_wS {f : Nat} {sf : SFn} {args : List AV} {v : AV} (d n : Nat) (hok : okFn P f sf = true) (hl : Nat.ble args.length sf.n = true) (ha : noRefs args = true) (hv : noRef v = true)
    (hw : wS P ⟨sf.n, 0⟩ sf.body [] n (argT 0 args) .e fun e T h _ => (e = .normal ∨ e = .ret) ∧ ∃ vs, resV T h sf.res = some vs ∧ ∃ k, (frzH d (resOf vs)).run h = some (v, k)) : PSpec P f args v :=
  PSpec.of_W2 hok (Nat.le_of_ble_eq_true hl) ha hv ((wpC.toW hw).mono fun e B ⟨_, h1, vs, h2, k, h3⟩ => ⟨h1, vs, h2, Rn.of_frz hv fun c w u H hu => (frz_sound H d _ _ _ _ hu h3).2⟩)
/-- The walk of a whole body, for a function of values alone. -/
theorem PSpec.of_rn {f : Nat} {sf : SFn} {args : List AV} {v : AV} (n : Nat) (hok : okFn P f sf = true) (hl : Nat.ble args.length sf.n = true) (ha : noRefs args = true) (hv : noRef v = true)
    (hw : wS P ⟨sf.n, 0⟩ sf.body [] n (argT 0 args) .e fun e T h _ => (e = .normal ∨ e = .ret) ∧ ∃ vs, resV T h sf.res = some vs ∧ Rn 0 π0 h v (resOf vs)) : PSpec P f args v :=
  PSpec.of_W2 hok (Nat.le_of_ble_eq_true hl) ha hv ((wpC.toW hw).mono fun e B ⟨_, h⟩ => h)

theorem HSpec.of_wS {f m : Nat} {sf : SFn} {args : List AV} {h h' : Heap} {v : AV} (n : Nat) (hok : okFn P f sf = true) (hl : Nat.ble args.length sf.n = true) (hm : ∀ b, m ≤ b → h.get b = none)
    (hw : wS P ⟨sf.n, m⟩ sf.body [] n (argT 0 args) h fun e T k _ => (e = .normal ∨ e = .ret) ∧ ∃ vs π, resV T k sf.res = some vs ∧ Maps m π k ∧ RH m π k h' ∧ RD m π k h' ∧ Rn m π k v (resOf vs)) : HSpec P f args h v h' :=
  HSpec.of_W2 hok (Nat.le_of_ble_eq_true hl) hm ((wpC.toW hw).mono fun e B ⟨_, h⟩ => h)

/-- A statement, then the rest of the body. -/
theorem W_seq {N : NM} {n : Nat} {T : Tmps} {h : Heap} {a b : SCode} {Q : SX → St → Prop}
    (hw : wS P N a [] n T h fun e T h _ => match e with | .normal => W2 P N b Q ⟨T, h⟩ | e => Q e ⟨T, h⟩) : W2 P N (.seq a b) Q ⟨T, h⟩ := by
  refine W2.seq ((wpC.toW hw).mono ?_)
  rintro e B ⟨_, hq⟩
  cases e <;> exact hq

/-- The rest by running. -/
theorem W_of_ex {fns : Nat → Option SFn} (hf : ∀ f sf, fns f = some sf → okFn P f sf = true) {N : NM} {d m : Nat} {c : SCode} {T : Tmps} {h : Heap} {Q : SX → St → Prop} (k : Kc)
    (hx : ex fns d c T h m k = true) (hk : ∀ e T h n, k e T h n = true → Q e ⟨T, h⟩) : W2 P N c Q ⟨T, h⟩ := by
  obtain ⟨e, T', h', n', h1, h2, _⟩ := ex_sound hf d N.n c T h m k hx
  exact .of_W <| h2.mono fun e' B ⟨e1, e2⟩ => by subst e1; subst e2; exact hk _ _ _ _ h1

open Go.RowKit in
/-- A statement's walk, as its frame wants it. -/
theorem law_of_W {f : Nat} {sf : SFn} {args : List AV} (hok : okFn P f sf = true) (hl : Nat.ble args.length sf.n = true)
    (hw : W P sf.n sf.body (fun e B => (e = .normal ∨ e = .ret) ∧ resV B.T B.h sf.res = some [.bool true]) ⟨argT 0 args, .e⟩)
    {F : Nat → Prop} {w : World} {cargs : Array Value} (hF : ∀ k, F k → k < w.heap.size) (ha : VRels (only F) w args cargs.toList) :
    Calls P f cargs w fun e w' => e = .returned (.bool true) ∧ Below w.heap.size w w' := by
  refine (call_of_W (R := fun vs _ => vs = [.bool true]) hok (Nat.le_of_ble_eq_true hl) (hw.mono ?_) (HRel.only hF) ha).mono ?_
  · rintro e B ⟨h1, h2⟩
    exact ⟨h1, _, h2, rfl⟩
  · rintro e w' ⟨cv, c', vs, h', rfl, E, H, V, rfl⟩
    simp only [resOf, VRel] at V
    subst V
    exact ⟨rfl, below_of_evo E⟩

theorem below_of_evo2 {F : Nat → Prop} {m : Nat} {c' : Ctx} {w w' : World} (E : Evo2 m (only F) w c' w') : Go.RowKit.Below w.heap.size w w' :=
  ⟨E.os, E.tape, E.output, E.size, fun k hk => E.keep k hk (fun h => h)⟩
open Go.RowKit in
/-- A statement's walk, as its frame wants it. -/
theorem law_of_W2 {f : Nat} {sf : SFn} {args : List AV} (hok : okFn P f sf = true) (hl : Nat.ble args.length sf.n = true)
    (hw : W2 P ⟨sf.n, 0⟩ sf.body (fun e B => (e = .normal ∨ e = .ret) ∧ resV B.T B.h sf.res = some [.bool true]) ⟨argT 0 args, .e⟩)
    {F : Nat → Prop} {w : World} {cargs : Array Value} (hF : ∀ k, F k → k < w.heap.size) (ha : VRels (only F) w args cargs.toList) :
    Calls P f cargs w fun e w' => e = .returned (.bool true) ∧ Below w.heap.size w w' := by
  refine (call_of_W2 (R := fun vs _ => vs = [.bool true]) hok (Nat.le_of_ble_eq_true hl) (hw.mono ?_) (HRel.only hF) ha).mono ?_
  · rintro e B ⟨h1, h2⟩
    exact ⟨h1, _, h2, rfl⟩
  · rintro e w' ⟨cv, c', vs, h', rfl, E, H, V, rfl⟩
    simp only [resOf, VRel] at V
    subst V
    exact ⟨rfl, below_of_evo2 E⟩

theorem run_bind_of {α β : Type} {m : HM α} {f : α → HM β} {h h1 : Heap} {a : α} (hm : m.run h = some (a, h1)) : (m.bind f).run h = (f a).run h1 := by
  induction m generalizing h with
  | ret a => simp only [HM.run, Option.some.injEq, Prod.mk.injEq] at hm; obtain ⟨rfl, rfl⟩ := hm; rfl
  | fail => simp [HM.run] at hm
  | look b k ih => exact ih _ hm
  | put b x k ih =>
    obtain ⟨hl, hm⟩ := run_put hm
    simp only [HM.bind, HM.run]
    have hl' : Nat.blt b lim = true := by simp [Nat.blt]; omega
    rw [hl']; exact ih hm

theorem mapH_same {f : AV → HM AV} {h : Heap} : ∀ (xs : List AV), (∀ x ∈ xs, (f x).run h = some (x, h)) → (mapH f xs).run h = some (xs, h)
  | [], _ => rfl
  | x :: xs, hf => by
    simp only [mapH]
    rw [run_bind_of (hf x (by simp)), run_bind_of (mapH_same xs fun y hy => hf y (by simp [hy]))]
    rfl

theorem noRefs_mem : ∀ {xs : List AV}, noRefs xs = true → ∀ x ∈ xs, noRef x = true
  | [], _, x, hx => by cases hx
  | y :: ys, hn, x, hx => by
    simp only [noRefs, Bool.and_eq_true] at hn
    rcases List.mem_cons.1 hx with rfl | h
    · exact hn.1
    · exact noRefs_mem hn.2 x h

/-- What names no block is left as it is. -/
theorem frz_noRef (h : Heap) : ∀ (d : Nat) (v : AV), noRef v = true → (frzH d v).run h = some (v, h)
  | 0, v, _ => rfl
  | d + 1, v, hv => by
    cases v with
    | sl b g off len sz => simp [noRef] at hv
    | ptr b g off => simp [noRef] at hv
    | agg cs =>
      simp only [frzH]
      rw [run_bind_of (mapH_same cs fun x hx => frz_noRef h d x (noRefs_mem (by simpa [noRef] using hv) x hx))]
      rfl
    | tup cs =>
      simp only [frzH]
      rw [run_bind_of (mapH_same cs fun x hx => frz_noRef h d x (noRefs_mem (by simpa [noRef] using hv) x hx))]
      rfl
    | _ => rfl

/-- The walk of a whole body, for a function of values alone whose result names no block of its own. -/
theorem PSpec.of_flat {f : Nat} {sf : SFn} {args : List AV} {v : AV} (n : Nat) (hok : okFn P f sf = true) (hl : Nat.ble args.length sf.n = true) (ha : noRefs args = true) (hv : noRef v = true)
    (hw : wS P ⟨sf.n, 0⟩ sf.body [] n (argT 0 args) .e fun e T h _ => (e = .normal ∨ e = .ret) ∧ ∃ vs, resV T h sf.res = some vs ∧ resOf vs = v) : PSpec P f args v :=
  PSpec.of_W2 hok (Nat.le_of_ble_eq_true hl) ha hv ((wpC.toW hw).mono fun e B ⟨_, he, vs, h1, h2⟩ => ⟨he, vs, h1, by rw [h2]; exact Rn.same hv⟩)

/-- A function of values alone, with blocks about. -/
theorem PSpec.toH {f : Nat} {args : List AV} {v : AV} (S : PSpec P f args v) (h : Heap) : HSpec P f args h v h := by
  obtain ⟨h', hc, _⟩ := S.2.2
  exact ⟨hc, fun c w cargs H ha => (S.pure H ha).2⟩
end Go.AM

